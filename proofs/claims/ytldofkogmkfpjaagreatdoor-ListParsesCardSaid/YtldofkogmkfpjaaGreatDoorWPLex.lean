/-
  Lines of a leap second file, in plain words.
-/
import Derived.Test.YtldofkogmkfpjaaGreatDoorWPDec
import Derived.Lib.Bytealg
namespace Go.Sy
set_option linter.unusedVariables false

theorem tx_extract (l : List UInt8) (a b : Nat) : (tx l).extract a b = tx ((l.drop a).take (b - a)) := by
  apply ByteArray.ext
  rw [ByteArray.data_extract]
  apply Array.ext'
  simp [tx]
theorem tx_get (s : ByteArray) : ∃ l, s = tx l ∧ l.length = s.size := ⟨s.data.toList, (toList_tx s).symm, Array.length_toList⟩
theorem tw_lt {p : UInt8 → Bool} : ∀ {l : List UInt8} {i : Nat}, i < (l.takeWhile p).length → i < l.length ∧ p (l.getD i 0) = true
  | [], i, h => by simp at h
  | c :: l, i, h => by
    rw [List.takeWhile_cons] at h
    cases hc : p c with
    | false => simp [hc] at h
    | true =>
      simp only [hc, if_true, List.length_cons] at h
      cases i with
      | zero => exact ⟨by simp, by simpa using hc⟩
      | succ i =>
        have := tw_lt (p := p) (l := l) (i := i) (by omega)
        exact ⟨by simpa using this.1, by simpa using this.2⟩
theorem tw_end {p : UInt8 → Bool} : ∀ {l : List UInt8}, (l.takeWhile p).length < l.length → p (l.getD (l.takeWhile p).length 0) = false
  | [], h => by simp at h
  | c :: l, h => by
    rw [List.takeWhile_cons] at h ⊢
    cases hc : p c with
    | false => simp [hc]
    | true =>
      simp only [hc, if_true, List.length_cons] at h ⊢
      simpa using tw_end (p := p) (l := l) (by omega)
theorem tw_len (p : UInt8 → Bool) (l : List UInt8) : (l.takeWhile p).length ≤ l.length := by
  induction l with
  | nil => simp
  | cons c l ih => rw [List.takeWhile_cons]; split <;> simp; exact ih
theorem tw_take (p : UInt8 → Bool) (l : List UInt8) : l.take (l.takeWhile p).length = l.takeWhile p := by
  induction l with
  | nil => simp
  | cons c l ih => rw [List.takeWhile_cons]; split <;> simp [ih]
theorem tw_drop (p : UInt8 → Bool) (l : List UInt8) : l.drop (l.takeWhile p).length = l.dropWhile p := by
  induction l with
  | nil => simp
  | cons c l ih => rw [List.takeWhile_cons, List.dropWhile_cons]; split <;> simp [ih]
theorem tw_dw (p : UInt8 → Bool) (l : List UInt8) : (l.takeWhile p).length + (l.dropWhile p).length = l.length := by
  rw [← tw_drop, List.length_drop]; have := tw_len p l; omega
theorem tw_all (p : UInt8 → Bool) (l : List UInt8) : (l.takeWhile p).all p = true := by
  induction l with
  | nil => rfl
  | cons c l ih => rw [List.takeWhile_cons]; split <;> simp_all
theorem dw_nil {p : UInt8 → Bool} {l : List UInt8} : l.dropWhile p = [] ↔ l.all p = true := by
  induction l with
  | nil => simp
  | cons c l ih => rw [List.dropWhile_cons]; split <;> simp_all

def isBl (c : UInt8) : Bool := decide (c = 32) || decide (c = 9)
def isHex (c : UInt8) : Bool := isDig c || (decide (97 ≤ c.toNat) && decide (c.toNat ≤ 102))
def hexd (c : UInt8) : Int := if c.toNat ≤ 57 then (c.toNat : Int) - 48 else (c.toNat : Int) - 87
def hval (l : List UInt8) : Int := l.foldl (fun s c => s * 16 + hexd c) 0
/-- Digits of a number, as a line has them. -/
def okN (w : List UInt8) : Bool := !decide (w = []) && decide (w.length ≤ 18) && (!decide (w.getD 0 0 = 48) || decide (w.length = 1))
def okH (w : List UInt8) : Bool := !decide (w = []) && decide (w.length ≤ 8)
structure LnV where
  k : Int
  a : Int
  b : Int
  w : List Int
def ln0 : LnV := ⟨0, 0, 0, [0, 0, 0, 0, 0]⟩
def oneP (k : Int) (r : List UInt8) : Option LnV :=
  let r1 := r.dropWhile isBl
  let w := r1.takeWhile isDig
  if (decide (r1.length < r.length) && okN w && (r1.dropWhile isDig).all isBl) = true then some ⟨k, dval w, 0, [0, 0, 0, 0, 0]⟩ else none
def dataP (l : List UInt8) : Option LnV :=
  let w1 := l.takeWhile isDig
  let r1 := l.dropWhile isDig
  let r2 := r1.dropWhile isBl
  let w2 := r2.takeWhile isDig
  let r3 := r2.dropWhile isDig
  let r4 := r3.dropWhile isBl
  if (okN w1 && decide (r2.length < r1.length) && okN w2 && (decide (r4 = []) || (decide (r4.length < r3.length) && decide (r4.getD 0 0 = 35)))) = true then some ⟨5, dval w1, dval w2, [0, 0, 0, 0, 0]⟩ else none
/-- So many words, each behind blanks: what they are, and what is left. -/
def wordsP : Nat → List UInt8 → Option (List Int × List UInt8)
  | 0, r => some ([], r)
  | n + 1, r =>
    let r1 := r.dropWhile isBl
    let w := r1.takeWhile isHex
    if (decide (r1.length < r.length) && okH w) = true then (wordsP n (r1.dropWhile isHex)).map fun x => (hval w :: x.1, x.2) else none
def hashP (r : List UInt8) : Option LnV := match wordsP 5 r with
  | some (ws, r) => if r.all isBl = true then some ⟨4, 0, 0, ws⟩ else none
  | none => none
def scanP (l : List UInt8) : Option LnV :=
  if l.getD 0 0 = 35 then
    (if l.getD 1 0 = 36 then oneP 2 (l.drop 2) else if l.getD 1 0 = 64 then oneP 3 (l.drop 2) else if l.getD 1 0 = 104 then hashP (l.drop 2) else some ⟨1, 0, 0, [0, 0, 0, 0, 0]⟩)
  else if l.all isBl = true then some ⟨1, 0, 0, [0, 0, 0, 0, 0]⟩ else dataP l

/-- Lines: without their ends. -/
def linesA : List UInt8 → List UInt8 → List (List UInt8)
  | acc, [] => if acc = [] then [] else [acc]
  | acc, c :: l => if c = 10 then acc :: linesA [] l else linesA (acc ++ [c]) l
def linesP (l : List UInt8) : List (List UInt8) := linesA [] l
theorem fold_bound {f : UInt8 → Int} {B : Int} (hB : 0 < B) : ∀ (l : List UInt8) (s : Int), (∀ c ∈ l, 0 ≤ f c ∧ f c < B) → s * B ^ l.length ≤ l.foldl (fun s c => s * B + f c) s ∧ l.foldl (fun s c => s * B + f c) s < (s + 1) * B ^ l.length
  | [], s, _ => by simp; omega
  | c :: l, s, h => by
    obtain ⟨h1, h2⟩ := fold_bound hB l (s * B + f c) fun x hx => h x (by simp [hx])
    have h3 := h c (by simp)
    have hp : 0 < B ^ l.length := Int.pow_pos hB
    rw [List.foldl_cons, List.length_cons, Int.pow_succ, Int.mul_comm (B ^ l.length) B, ← Int.mul_assoc, ← Int.mul_assoc]
    refine ⟨Int.le_trans (Int.mul_le_mul_of_nonneg_right (by omega) (Int.le_of_lt hp)) h1, Int.lt_of_lt_of_le h2 (Int.mul_le_mul_of_nonneg_right ?_ (Int.le_of_lt hp))⟩
    rw [Int.add_mul]; omega
theorem dval_bound {l : List UInt8} (h : l.all isDig = true) : 0 ≤ dval l ∧ dval l < 10 ^ l.length := by
  rw [List.all_eq_true] at h
  have := fold_bound (f := dig) (B := 10) (by omega) l 0 fun c hc => by have := dig_in (h c hc); omega
  unfold dval
  simpa using this
theorem hexd_in {c : UInt8} (h : isHex c = true) : 0 ≤ hexd c ∧ hexd c < 16 := by
  unfold isHex isDig at h
  simp only [Bool.or_eq_true, Bool.and_eq_true, decide_eq_true_eq] at h
  unfold hexd
  split <;> omega
theorem hval_snoc (l : List UInt8) (c : UInt8) : hval (l ++ [c]) = hval l * 16 + hexd c := by unfold hval; rw [List.foldl_append]; rfl
theorem hval_bound {l : List UInt8} (h : l.all isHex = true) : 0 ≤ hval l ∧ hval l < 16 ^ l.length := by
  rw [List.all_eq_true] at h
  have := fold_bound (f := hexd) (B := 16) (by omega) l 0 fun c hc => hexd_in (h c hc)
  unfold hval
  simpa using this
theorem idx_ge (c : UInt8) : ∀ l : List UInt8, -1 ≤ Lib.indexByte l c
  | [] => by simp [Lib.indexByte]
  | b :: l => by
    have := idx_ge c l
    rw [Lib.indexByte]
    split
    · omega
    · split <;> omega
theorem linesA_none : ∀ (l acc : List UInt8), Lib.indexByte l 10 = -1 → linesA acc l = if acc ++ l = [] then [] else [acc ++ l]
  | [], acc, _ => by rw [linesA, List.append_nil]
  | c :: l, acc, h => by
    rw [Lib.indexByte] at h
    split at h
    · cases h
    · rename_i hc
      have hc : ¬ c = 10 := fun e => hc (by rw [e]; rfl)
      have h2 : Lib.indexByte l 10 = -1 := by
        split at h
        · rename_i e; simpa using e
        · have := idx_ge 10 l; omega
      rw [linesA, if_neg hc, linesA_none l (acc ++ [c]) h2, List.append_assoc]; rfl
theorem linesA_some : ∀ (l acc : List UInt8), 0 ≤ Lib.indexByte l 10 → linesA acc l = (acc ++ l.take (Lib.indexByte l 10).toNat) :: linesA [] (l.drop ((Lib.indexByte l 10).toNat + 1))
  | [], acc, h => absurd h (by simp [Lib.indexByte])
  | c :: l, acc, h => by
    rw [Lib.indexByte] at h ⊢
    by_cases hc : c = 10
    · subst hc
      simp [linesA]
    · have hb : (c == 10) = false := by rw [beq_eq_false_iff_ne]; exact hc
      rw [hb] at h ⊢
      simp only [Bool.false_eq_true, if_false] at h ⊢
      by_cases h1 : Lib.indexByte l 10 = -1
      · rw [h1] at h; simp at h
      · have h2 : (Lib.indexByte l 10 == -1) = false := by rw [beq_eq_false_iff_ne]; exact h1
        rw [h2] at h ⊢
        simp only [Bool.false_eq_true, if_false] at h ⊢
        have h3 := idx_ge 10 l
        rw [linesA, if_neg hc, linesA_some l (acc ++ [c]) (by omega), List.append_assoc]
        rw [show (Lib.indexByte l 10 + 1).toNat = (Lib.indexByte l 10).toNat + 1 by omega, List.take_succ_cons, List.drop_succ_cons]; rfl
theorem lines_step {l : List UInt8} (h : l ≠ []) : linesP l = (if 0 ≤ Lib.indexByte l 10 then l.take (Lib.indexByte l 10).toNat :: linesP (l.drop ((Lib.indexByte l 10).toNat + 1)) else [l]) := by
  unfold linesP
  split
  · rename_i hi
    rw [linesA_some l [] hi, List.nil_append]
  · rename_i hi
    have := idx_ge 10 l
    rw [linesA_none l [] (by omega), List.nil_append, if_neg h]
/-- What the document's Scan tells beside whether a line says anything. -/
def scanQ (l : List UInt8) : LnV := if l.getD 0 0 = 35 ∧ l.getD 1 0 = 104 then (match wordsP 5 (l.drop 2) with
  | some (ws, _) => ⟨4, 0, 0, ws⟩
  | none => ln0) else (scanP l).getD ln0
theorem scanQ_some {l : List UInt8} {v : LnV} (h : scanP l = some v) : scanQ l = v := by
  unfold scanQ
  split
  · rename_i hc
    obtain ⟨h0, h1⟩ := hc
    unfold scanP at h
    rw [if_pos h0, if_neg (by rw [h1]; decide), if_neg (by rw [h1]; decide), if_pos h1] at h
    unfold hashP at h
    cases hw : wordsP 5 (l.drop 2) with
    | none => rw [hw] at h; cases h
    | some x =>
      rw [hw] at h
      simp only at h ⊢
      split at h
      · exact Option.some.inj h
      · cases h
  · rw [h]; rfl
end Go.Sy
