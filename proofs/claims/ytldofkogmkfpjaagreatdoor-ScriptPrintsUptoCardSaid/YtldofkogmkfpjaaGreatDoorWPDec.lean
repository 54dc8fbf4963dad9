/-
  Texts by their bytes; decimal texts, in plain words.
-/
import Derived.Test.YtldofkogmkfpjaaGreatDoorWSyB
import Derived.Test.YtldofkogmkfpjaaGreatDoorWPLimb
import Derived.Lib.ItoaNum
import Derived.Lib.Repeat
namespace Go.Sy
set_option linter.unusedVariables false
theorem tx_size (l : List UInt8) : (tx l).size = l.length := by simp [tx, ByteArray.size]
theorem tx_append (a b : List UInt8) : tx a ++ tx b = tx (a ++ b) := by
  apply ByteArray.ext
  rw [ByteArray.data_append]
  simp [tx]
theorem repeatL_one (n : Nat) (b : UInt8) : Lib.repeatL [b] n = List.replicate n b := by
  induction n with
  | zero => rfl
  | succ n ih => rw [Lib.repeatL, ih, List.replicate_succ]; rfl

/-! ### digits -/
def padD : Nat → Nat → List UInt8
  | 0, _ => []
  | k + 1, r => padD k (r / 10) ++ [UInt8.ofNat (48 + r % 10)]
theorem dec_small {u : Nat} (h : u < 10) : Lib.decDigits u = [UInt8.ofNat (48 + u)] := by rw [Lib.decDigits, dif_pos h]
theorem dec_big {u : Nat} (h : ¬ u < 10) : Lib.decDigits u = Lib.decDigits (u / 10) ++ [UInt8.ofNat (48 + u % 10)] := by rw [Lib.decDigits, dif_neg h]
theorem dec_pad : ∀ (k q r : Nat), 0 < q → r < 10 ^ k → Lib.decDigits (q * 10 ^ k + r) = Lib.decDigits q ++ padD k r
  | 0, q, r, hq, hr => by
    have : r = 0 := by simpa using hr
    subst this; simp [padD]
  | k + 1, q, r, hq, hr => by
    have hp : 0 < 10 ^ k := Nat.pow_pos (by omega)
    have hq2 : 10 ^ k ≤ q * 10 ^ k := Nat.le_mul_of_pos_left _ hq
    rw [Nat.pow_succ] at hr ⊢
    have e : q * (10 ^ k * 10) = q * 10 ^ k * 10 := by rw [Nat.mul_assoc]
    rw [e, dec_big (by omega), show (q * 10 ^ k * 10 + r) / 10 = q * 10 ^ k + r / 10 by omega, dec_pad k q (r / 10) hq (by omega), show (q * 10 ^ k * 10 + r) % 10 = r % 10 by omega, List.append_assoc]
    rfl
theorem pad_dec : ∀ (k r : Nat), r < 10 ^ (k + 1) → (Lib.decDigits r).length ≤ k + 1 ∧ padD (k + 1) r = List.replicate (k + 1 - (Lib.decDigits r).length) 48 ++ Lib.decDigits r
  | 0, r, hr => by
    have h : r < 10 := by simpa using hr
    rw [dec_small h]
    refine ⟨by simp, ?_⟩
    simp [padD, Nat.mod_eq_of_lt h]
  | k + 1, r, hr => by
    rw [Nat.pow_succ] at hr
    by_cases h : r < 10
    · obtain ⟨h1, h2⟩ := pad_dec k 0 (Nat.pow_pos (by omega))
      rw [dec_small (by omega)] at h1 h2
      rw [dec_small h]
      refine ⟨by simp, ?_⟩
      rw [padD, show r / 10 = 0 by omega, h2, show r % 10 = r by omega]
      simp only [List.length_singleton, Nat.add_sub_cancel]
      have : List.replicate k (48 : UInt8) ++ [UInt8.ofNat (48 + 0)] = List.replicate (k + 1) 48 := by
        rw [List.replicate_succ']; rfl
      rw [this]
    · obtain ⟨h1, h2⟩ := pad_dec k (r / 10) (by omega)
      rw [dec_big h]
      refine ⟨by rw [List.length_append, List.length_singleton]; omega, ?_⟩
      rw [padD, h2, List.append_assoc, List.length_append, List.length_singleton, show k + 1 + 1 - ((Lib.decDigits (r / 10)).length + 1) = k + 1 - (Lib.decDigits (r / 10)).length by omega]
theorem dec_len {k r : Nat} (h : r < 10 ^ (k + 1)) : (Lib.decDigits r).length ≤ k + 1 := (pad_dec k r h).1
/-- A number's text, by what is above eighteen digits. -/
theorem dec_split {N : Nat} (h : 1000000000000000000 ≤ N) : Lib.decDigits N = Lib.decDigits (N / 1000000000000000000) ++ List.replicate (18 - (Lib.decDigits (N % 1000000000000000000)).length) 48 ++ Lib.decDigits (N % 1000000000000000000) := by
  have h1 := dec_pad 18 (N / 1000000000000000000) (N % 1000000000000000000) (by omega) (by omega)
  have h2 := (pad_dec 17 (N % 1000000000000000000) (by omega)).2
  rw [h2, show (10 : Nat) ^ 18 = 1000000000000000000 from rfl, Nat.div_add_mod'] at h1
  rw [h1, List.append_assoc]
theorem itoa_pos {v : Int} (h : 0 ≤ v) : Lib.itoa v = Lib.decDigits v.toNat := by unfold Lib.itoa; rw [if_neg (by omega)]
theorem itoa_neg {v : Int} (h : v < 0) : Lib.itoa v = 45 :: Lib.decDigits (-v).toNat := by unfold Lib.itoa; rw [if_pos h, show v.natAbs = (-v).toNat by omega]
theorem div_I {v D : Int} (hv : isI v) (hD : 1 < D) : qV v D = v / D ∧ rV v D = v % D ∧ eV v D = 0 ∧ isI (v / D) := by
  have e := Int.mul_ediv_add_emod v D
  rw [Int.mul_comm] at e
  have r0 := Int.emod_nonneg v (b := D) (by omega)
  have r1 := Int.emod_lt_of_pos v (b := D) (by omega)
  have hi : isI (v / D) := by
    unfold isI at hv ⊢
    refine ⟨Int.le_ediv_of_mul_le (by omega) ?_, Int.ediv_lt_of_lt_mul (by omega) ?_⟩
    · have : -170141183460469231731687303715884105728 * D ≤ -170141183460469231731687303715884105728 * 1 := Int.mul_le_mul_of_nonpos_left (by omega) (by omega)
      omega
    · have : 170141183460469231731687303715884105728 * 1 ≤ 170141183460469231731687303715884105728 * D := Int.mul_le_mul_of_nonneg_left (by omega) (by omega)
      omega
  obtain ⟨h1, h2, h3⟩ := divV_ok (by omega) e r0 r1 hi
  exact ⟨h1, h2, h3, hi⟩
theorem words_zero {q : Int} (h : isI q) : (decide (wHi q = 0) && (decide (wLo q = 0) && true)) = decide (q = 0) := by
  rw [Bool.eq_iff_iff]
  simp only [Bool.and_true, Bool.and_eq_true, decide_eq_true_eq]
  unfold wHi wLo
  omega
theorem words_I {q : Int} (h : isI q) : isH (wHi q) ∧ isW (wLo q) := ⟨wHi_H h, wLo_in _⟩
theorem isH_small {x : Int} (h0 : -9223372036854775808 ≤ x) (h1 : x < 9223372036854775808) : isH x := ⟨h0, h1⟩

/-! ### texts that are numbers -/
theorem bytes_get (l : List UInt8) (i : Nat) : (Ev.bytesI (tx l)).getD i 0 = ((l.getD i 0).toNat : Int) := by
  unfold Ev.bytesI
  rw [tx_toList, List.getD_eq_getElem?_getD, List.getElem?_map, List.getD_eq_getElem?_getD]
  cases l[i]? <;> rfl
theorem eqB_tx (a b : List UInt8) : eqB (tx a) (tx b) = decide (a = b) := by
  unfold eqB
  rw [tx_toList, tx_toList, Bool.eq_iff_iff]; simp
theorem eqB_s (s : ByteArray) (b : List UInt8) : eqB s (tx b) = decide (s.data.toList = b) := by
  unfold eqB
  rw [tx_toList, Bool.eq_iff_iff]; simp
def isDig (c : UInt8) : Bool := decide (48 ≤ c.toNat) && decide (c.toNat ≤ 57)
def isMin (l : List UInt8) : Bool := Lib.hasPrefix l [45]
def absL (l : List UInt8) : List UInt8 := Lib.trimPrefix l [45]
/-- Is a text a number's? -/
def formL (l : List UInt8) : Bool :=
  !decide (absL l = []) && !(decide ((absL l).getD 0 0 = 48) && !decide (l = [48])) && (absL l).all isDig
theorem absL_len (l : List UInt8) : (absL l).length ≤ l.length := by
  unfold absL Lib.trimPrefix
  split
  · rw [List.length_drop]; omega
  · exact Nat.le_refl _
def dig (c : UInt8) : Int := (c.toNat : Int) - 48
def dval (l : List UInt8) : Int := l.foldl (fun s c => s * 10 + dig c) 0
theorem dval_snoc (l : List UInt8) (c : UInt8) : dval (l ++ [c]) = dval l * 10 + dig c := by unfold dval; rw [List.foldl_append]; rfl
theorem dig_in {c : UInt8} (h : isDig c = true) : 0 ≤ dig c ∧ dig c ≤ 9 := by
  unfold isDig at h
  simp only [Bool.and_eq_true, decide_eq_true_eq] at h
  unfold dig; omega
theorem fold_mono : ∀ (l : List UInt8) (s : Int), l.all isDig = true → 0 ≤ s → s ≤ l.foldl (fun s c => s * 10 + dig c) s
  | [], s, _, _ => Int.le_refl _
  | c :: l, s, h, h0 => by
    rw [List.all_cons, Bool.and_eq_true] at h
    have := dig_in h.1
    have := fold_mono l (s * 10 + dig c) h.2 (by omega)
    rw [List.foldl_cons]; omega
theorem all_take {l : List UInt8} (h : l.all isDig = true) (i : Nat) : (l.take i).all isDig = true := by
  rw [List.all_eq_true] at h ⊢
  exact fun x hx => h x (List.mem_of_mem_take hx)
theorem dval_take {l : List UInt8} (h : l.all isDig = true) {i : Nat} (hi : i < l.length) :
    dval (l.take (i + 1)) = dval (l.take i) * 10 + dig (l.getD i 0) ∧ 0 ≤ dval (l.take i) ∧ 0 ≤ dig (l.getD i 0) ∧ dig (l.getD i 0) ≤ 9 ∧ dval (l.take (i + 1)) ≤ dval l := by
  have e : l.getD i 0 = l[i] := by rw [List.getD_eq_getElem?_getD, List.getElem?_eq_getElem hi]; rfl
  rw [e]
  have hd := dig_in (List.all_eq_true.1 h l[i] (List.getElem_mem hi))
  have h0 : 0 ≤ dval (l.take i) := fold_mono _ 0 (all_take h i) (Int.le_refl _)
  have h1 : dval (l.take (i + 1)) = dval (l.take i) * 10 + dig l[i] := by rw [List.take_succ_eq_append_getElem hi, dval_snoc]
  refine ⟨h1, h0, hd.1, hd.2, ?_⟩
  conv => rhs; rw [← List.take_append_drop (i + 1) l]
  unfold dval
  rw [List.foldl_append]
  refine fold_mono _ _ ?_ ?_
  · rw [List.all_eq_true] at h ⊢
    exact fun x hx => h x (List.mem_of_mem_drop hx)
  · exact fold_mono _ 0 (all_take h _) (Int.le_refl _)
def sgn (b : Bool) (x : Int) : Int := if b then - x else x
/-- The number of a text, and why it has none. -/
def numL (l : List UInt8) : Int := sgn (isMin l) (dval (absL l))
def pV (l : List UInt8) : Int := if formL l then clip (numL l) else 0
def pE (l : List UInt8) : Int := if formL l then errV (numL l) else 4
theorem sgn_I {b : Bool} {x y : Int} (hx : 0 ≤ x) (hxy : x ≤ y) (h : isI (sgn b y)) : isI (sgn b x) := by
  unfold isI sgn at *
  cases b <;> simp at * <;> omega
end Go.Sy
