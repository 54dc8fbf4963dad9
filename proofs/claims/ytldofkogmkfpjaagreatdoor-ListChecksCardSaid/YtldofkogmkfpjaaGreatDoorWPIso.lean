/-
  Labels as text, in plain words.
-/
import Derived.Test.YtldofkogmkfpjaaGreatDoorWPDecLaw
import Derived.Test.YtldofkogmkfpjaaGreatDoorWPGreg
import Derived.Lib.SlTrimSet
import Derived.Lib.Bytealg
import Derived.Lib.Join
import Derived.Lib.Atoi
namespace Go.Sy
set_option linter.unusedVariables false
set_option linter.unusedSimpArgs false

def padL (w n : Nat) : List UInt8 := List.replicate (w - (Lib.decDigits n).length) 48 ++ Lib.decDigits n
def yearL (n : Int) : List UInt8 := if n < 0 then 45 :: padL 4 (-n).toNat else if 9999 < n then 43 :: padL 4 n.toNat else padL 4 n.toNat
def fracL (a : Int) : List UInt8 := if a = 0 then [] else 46 :: Lib.trimRightS (padL 18 a.toNat) [48]
structure IsoV where
  y : Int
  mo : Int
  d : Int
  h : Int
  mi : Int
  s : Int
  a : Int
def midL (v : IsoV) : List UInt8 := padL 2 v.mo.toNat ++ 45 :: (padL 2 v.d.toNat ++ 84 :: (padL 2 v.h.toNat ++ 58 :: (padL 2 v.mi.toNat ++ 58 :: padL 2 v.s.toNat)))
/-- A label's text. -/
def isoL (v : IsoV) : List UInt8 := yearL v.y ++ 45 :: (midL v ++ (fracL v.a ++ [90]))
structure IsoOk (v : IsoV) : Prop where
  y : -1000000000000000000 < v.y ∧ v.y < 1000000000000000000
  mo : 0 ≤ v.mo ∧ v.mo < 100
  d : 0 ≤ v.d ∧ v.d < 100
  h : 0 ≤ v.h ∧ v.h < 100
  mi : 0 ≤ v.mi ∧ v.mi < 100
  s : 0 ≤ v.s ∧ v.s < 100
  a : 0 ≤ v.a ∧ v.a < 1000000000000000000

/-! ### digits -/
theorem pow10_le {a b : Nat} (h : a ≤ b) : (10 : Int) ^ a ≤ 10 ^ b := by
  have := Nat.pow_le_pow_right (n := 10) (by decide) h
  exact_mod_cast this
theorem dval_from : ∀ (l : List UInt8) (s : Int), l.foldl (fun s c => s * 10 + dig c) s = s * 10 ^ l.length + dval l
  | [], s => by simp [dval]
  | c :: l, s => by
    have e1 := dval_from l (s * 10 + dig c)
    have e2 := dval_from l (0 * 10 + dig c)
    rw [List.foldl_cons, e1]
    show _ = _ + (c :: l).foldl _ 0
    rw [List.foldl_cons, e2, List.length_cons, Int.pow_succ, Int.add_mul, Int.zero_mul, Int.zero_add, Int.mul_assoc, Int.mul_comm (10 ^ l.length) 10, Int.add_assoc]
theorem dval_app (x y : List UInt8) : dval (x ++ y) = dval x * 10 ^ y.length + dval y := by
  rw [← dval_from]; unfold dval; rw [List.foldl_append]
theorem dval_zeros (k : Nat) : dval (List.replicate k 48) = 0 := by
  induction k with
  | zero => rfl
  | succ k ih => rw [List.replicate_succ', dval_snoc, ih]; rfl
theorem zeros_all (k : Nat) : (List.replicate k (48 : UInt8)).all isDig = true := by
  rw [List.all_eq_true]; intro x hx; rw [List.eq_of_mem_replicate hx]; rfl
theorem padL_all (w n : Nat) : (padL w n).all isDig = true ∧ dval (padL w n) = n ∧ padL w n ≠ [] ∧ w ≤ (padL w n).length := by
  obtain ⟨h1, h2, h3, _⟩ := dec_all n
  unfold padL
  refine ⟨by rw [List.all_append, zeros_all, h1]; rfl, by rw [dval_app, dval_zeros, h2]; simp, by simp [h3], by rw [List.length_append, List.length_replicate]; omega⟩
theorem padL_len {w n k : Nat} (h : n < 10 ^ (k + 1)) (hk : w ≤ k + 1) : (padL w n).length ≤ k + 1 := by
  have := dec_len h
  unfold padL
  rw [List.length_append, List.length_replicate]; omega
theorem padL_D {k r : Nat} (h : r < 10 ^ (k + 1)) : padL (k + 1) r = padD (k + 1) r := (pad_dec k r h).2.symm
theorem padD_dval : ∀ (k : Nat) (d : List UInt8), d.length = k → d.all isDig = true → padD k (dval d).toNat = d := by
  intro k
  induction k with
  | zero => intro d hk _; rw [List.length_eq_zero_iff.1 hk]; rfl
  | succ k ih =>
    intro d hk hall
    have hne : d ≠ [] := by intro e; rw [e] at hk; cases hk
    obtain ⟨d', c, rfl⟩ : ∃ d' c, d = d' ++ [c] := ⟨d.dropLast, d.getLast hne, (List.dropLast_concat_getLast hne).symm⟩
    rw [List.all_append, Bool.and_eq_true] at hall
    have hc : isDig c = true := by simpa using hall.2
    have hd := dig_in hc
    have h0 := (dval_bound hall.1).1
    rw [List.length_append, List.length_singleton] at hk
    rw [dval_snoc, padD, show (dval d' * 10 + dig c).toNat / 10 = (dval d').toNat by omega, show (dval d' * 10 + dig c).toNat % 10 = (dig c).toNat by omega, ih d' (by omega) hall.1, dig_ofNat hc]
/-- Two digits. -/
def n2 (a b : UInt8) : Int := dig a * 10 + dig b
theorem n2_ok {a b : UInt8} (ha : isDig a = true) (hb : isDig b = true) : 0 ≤ n2 a b ∧ n2 a b < 100 ∧ padL 2 (n2 a b).toNat = [a, b] := by
  have h1 := dig_in ha
  have h2 := dig_in hb
  have e : n2 a b = dval [a, b] := by show _ = (0 * 10 + dig a) * 10 + dig b; unfold n2; omega
  unfold n2 at *
  refine ⟨by omega, by omega, ?_⟩
  rw [padL_D (k := 1) (by omega), e]
  exact padD_dval 2 [a, b] rfl (by simp [ha, hb])
theorem pad2 {n : Int} (h : 0 ≤ n ∧ n < 100) : ∃ a b, padL 2 n.toNat = [a, b] ∧ isDig a = true ∧ isDig b = true ∧ n2 a b = n := by
  have h1 := padL_all 2 n.toNat
  have h2 := padL_len (w := 2) (n := n.toNat) (k := 1) (by omega) (by omega)
  generalize padL 2 n.toNat = l at *
  match l, h1, h2 with
  | [], h1, _ => exact absurd h1.2.2.2 (by simp)
  | [_], h1, _ => exact absurd h1.2.2.2 (by simp)
  | [a, b], h1, _ =>
    obtain ⟨ha, hv, _, _⟩ := h1
    simp only [List.all_cons, List.all_nil, Bool.and_true, Bool.and_eq_true] at ha
    refine ⟨a, b, rfl, ha.1, ha.2, ?_⟩
    have e : dval [a, b] = (0 * 10 + dig a) * 10 + dig b := rfl
    rw [e] at hv
    unfold n2
    omega
  | _ :: _ :: _ :: _, _, h => simp at h

theorem decFrom_dig : ∀ (l : List UInt8) (acc : Nat), l.all isDig = true → ∃ n : Nat, Lib.decFrom acc l = some n ∧ (n : Int) = l.foldl (fun s c => s * 10 + dig c) (acc : Int)
  | [], acc, _ => ⟨acc, rfl, rfl⟩
  | c :: l, acc, h => by
    rw [List.all_cons, Bool.and_eq_true] at h
    have hd := h.1
    unfold isDig at hd
    simp only [Bool.and_eq_true, decide_eq_true_eq] at hd
    obtain ⟨n, h1, h2⟩ := decFrom_dig l (acc * 10 + (c.toNat - 48)) h.2
    refine ⟨n, ?_, ?_⟩
    · rw [Lib.decFrom, show Lib.digitVal c = some (c.toNat - 48) by unfold Lib.digitVal; rw [if_pos hd]]
      exact h1
    · rw [h2, List.foldl_cons]
      congr 1
      unfold dig
      omega
theorem atoi_dig {w : List UInt8} (h : w.all isDig = true) (hne : w ≠ []) : Lib.atoi w = some (dval w) := by
  obtain ⟨n, h1, h2⟩ := decFrom_dig w 0 h
  cases w with
  | nil => exact absurd rfl hne
  | cons c l =>
    have hc : isDig c = true := by rw [List.all_cons, Bool.and_eq_true] at h; exact h.1
    have h45 : (c == 45) = false := by
      rw [beq_eq_false_iff_ne]; rintro rfl; revert hc; decide
    have h43 : (c == 43) = false := by
      rw [beq_eq_false_iff_ne]; rintro rfl; revert hc; decide
    simp only [Lib.atoi, h45, h43, Bool.false_eq_true, if_false]
    have : Lib.decNat (c :: l) = some n := h1
    rw [this]
    show some (n : Int) = _
    rw [h2]; rfl
theorem join_flat (xs : List (List UInt8)) : Lib.join xs [] = xs.flatten := by
  cases xs with
  | nil => rfl
  | cons x r =>
    rw [Lib.join_cons, Lib.joinTail]
    simp

/-! ### the fraction -/
theorem trim_split (d : List UInt8) : ∃ k, d = Lib.trimRightS d [48] ++ List.replicate k 48 ∧ ∀ x, Lib.trimRightS d [48] ≠ x ++ [48] := by
  unfold Lib.trimRightS
  have e : d.reverse.takeWhile ([48].contains ·) ++ d.reverse.dropWhile ([48].contains ·) = d.reverse := List.takeWhile_append_dropWhile
  refine ⟨(d.reverse.takeWhile ([48].contains ·)).length, ?_, fun x hx => ?_⟩
  · have h1 : d.reverse.takeWhile ([48].contains ·) = List.replicate (d.reverse.takeWhile ([48].contains ·)).length 48 := by
      rw [List.eq_replicate_iff]
      refine ⟨rfl, fun b hb => ?_⟩
      have := tw_all ([(48 : UInt8)].contains ·) d.reverse
      rw [List.all_eq_true] at this
      simpa using this b hb
    have h2 := congrArg List.reverse e
    rw [List.reverse_append, List.reverse_reverse] at h2
    conv => lhs; rw [← h2]
    congr 1
    conv => lhs; rw [h1]
    rw [List.reverse_replicate]
  · have h := congrArg List.reverse hx
    rw [List.reverse_reverse, List.reverse_append] at h
    have hh : (d.reverse.dropWhile ([48].contains ·)).head? = some 48 := by rw [h]; rfl
    have := List.head?_dropWhile_not (p := ([(48 : UInt8)].contains ·)) (l := d.reverse)
    rw [hh] at this
    simp at this
theorem trim_body {b : List UInt8} (h : ∀ x, b ≠ x ++ [48]) (k : Nat) : Lib.trimRightS (b ++ List.replicate k 48) [48] = b := by
  unfold Lib.trimRightS
  rw [List.reverse_append, List.reverse_replicate, List.dropWhile_append_of_pos (by intro a ha; rw [List.eq_of_mem_replicate ha]; rfl)]
  cases hb : b.reverse with
  | nil => have := List.reverse_eq_nil_iff.1 hb; rw [this]; rfl
  | cons c t =>
    have e : b = t.reverse ++ [c] := by
      have := congrArg List.reverse hb
      rw [List.reverse_reverse, List.reverse_cons] at this
      exact this
    have hc : c ≠ 48 := fun e2 => h t.reverse (by rw [e, e2])
    rw [List.dropWhile_cons, if_neg (by simp [hc]), ← hb, List.reverse_reverse]
theorem trim_len (d : List UInt8) : (Lib.trimRightS d [48]).length ≤ d.length := by
  obtain ⟨k, e, _⟩ := trim_split d
  have := congrArg List.length e
  rw [List.length_append] at this
  omega
theorem frac_len (a : Int) (h : a < 1000000000000000000000) : (fracL a).length ≤ 30 := by
  unfold fracL
  split
  · simp
  · have h1 := trim_len (padL 18 a.toNat)
    have h2 := padL_len (w := 18) (n := a.toNat) (k := 21) (by omega) (by omega)
    rw [List.length_cons]; omega
theorem year_len_le {y : Int} (h : -9223372036854775808 < y ∧ y < 9223372036854775808) : (yearL y).length ≤ 21 := by
  unfold yearL
  have h1 := padL_len (w := 4) (n := (-y).toNat) (k := 18) (by omega) (by omega)
  have h2 := padL_len (w := 4) (n := y.toNat) (k := 18) (by omega) (by omega)
  split
  · rw [List.length_cons]; omega
  · split
    · rw [List.length_cons]; omega
    · omega
theorem frac_of_body {b : List UInt8} (hb : b.all isDig = true) (hne : b ≠ []) (hl : b.length ≤ 18) (h : ∀ x, b ≠ x ++ [48]) :
    0 < dval (b ++ List.replicate (18 - b.length) 48) ∧ dval (b ++ List.replicate (18 - b.length) 48) < 1000000000000000000 ∧ fracL (dval (b ++ List.replicate (18 - b.length) 48)) = 46 :: b := by
  have hall : (b ++ List.replicate (18 - b.length) (48 : UInt8)).all isDig = true := by rw [List.all_append, hb, zeros_all]; rfl
  have hlen : (b ++ List.replicate (18 - b.length) (48 : UInt8)).length = 18 := by rw [List.length_append, List.length_replicate]; omega
  have hbd := dval_bound hall
  rw [hlen] at hbd
  have h18 : (10 : Int) ^ 18 = 1000000000000000000 := by decide
  rw [h18] at hbd
  have h0 : dval (b ++ List.replicate (18 - b.length) 48) ≠ 0 := by
    intro e
    rw [dval_app, dval_zeros, Int.add_zero] at e
    have hp : (10 : Int) ^ (List.replicate (18 - b.length) (48 : UInt8)).length ≠ 0 := Int.ne_of_gt (Int.pow_pos (by decide))
    have e0 : dval b = 0 := by
      rcases Int.mul_eq_zero.1 e with h | h
      · exact h
      · exact absurd h hp
    obtain ⟨d', c, rfl⟩ : ∃ d' c, b = d' ++ [c] := ⟨b.dropLast, b.getLast hne, (List.dropLast_concat_getLast hne).symm⟩
    rw [List.all_append, Bool.and_eq_true] at hb
    have hc : isDig c = true := by simpa using hb.2
    have hd := dig_in hc
    have hd0 := (dval_bound hb.1).1
    rw [dval_snoc] at e0
    have hc0 : dig c = 0 := by omega
    have := dig_ofNat hc
    rw [hc0] at this
    exact h d' (by rw [← this]; rfl)
  refine ⟨by omega, by omega, ?_⟩
  unfold fracL
  rw [if_neg h0, padL_D (k := 17) (by omega), padD_dval 18 _ hlen hall, trim_body h]
theorem body_of_frac {a : Int} (h : 0 < a ∧ a < 1000000000000000000) : ∃ b, fracL a = 46 :: b ∧ b.all isDig = true ∧ b ≠ [] ∧ b.length ≤ 18 ∧ (∀ x, b ≠ x ++ [48]) ∧ dval (b ++ List.replicate (18 - b.length) 48) = a := by
  have h1 := padL_all 18 a.toNat
  have h2 := padL_len (w := 18) (n := a.toNat) (k := 17) (by omega) (by omega)
  obtain ⟨k, e, hx⟩ := trim_split (padL 18 a.toNat)
  refine ⟨Lib.trimRightS (padL 18 a.toNat) [48], by unfold fracL; rw [if_neg (by omega)], ?_⟩
  generalize Lib.trimRightS (padL 18 a.toNat) [48] = b at *
  rw [e] at h1 h2
  obtain ⟨ha, hv, _, hl⟩ := h1
  rw [List.length_append, List.length_replicate] at hl h2
  have hk : k = 18 - b.length := by omega
  rw [List.all_append, Bool.and_eq_true] at ha
  refine ⟨ha.1, ?_, by omega, hx, by rw [← hk, hv]; omega⟩
  intro e2
  subst e2
  rw [List.nil_append, dval_zeros] at hv
  omega

/-! ### the year -/
theorem year_parts {y : Int} (h : -1000000000000000000 < y ∧ y < 1000000000000000000) : ∃ sg ds, yearL y = sg ++ ds ∧ ds.all isDig = true ∧ 4 ≤ ds.length ∧ ds.length ≤ 18 ∧
    ((sg = [45] ∧ dval ds = -y ∧ y < 0) ∨ (sg = [43] ∧ dval ds = y ∧ 9999 < y) ∨ (sg = [] ∧ dval ds = y ∧ 0 ≤ y ∧ y ≤ 9999)) := by
  unfold yearL
  by_cases h1 : y < 0
  · rw [if_pos h1]
    have h2 := padL_all 4 (-y).toNat
    exact ⟨[45], padL 4 (-y).toNat, rfl, h2.1, h2.2.2.2, padL_len (k := 17) (by omega) (by omega), .inl ⟨rfl, by rw [h2.2.1]; omega, h1⟩⟩
  · rw [if_neg h1]
    have h2 := padL_all 4 y.toNat
    by_cases h3 : 9999 < y
    · rw [if_pos h3]
      exact ⟨[43], padL 4 y.toNat, rfl, h2.1, h2.2.2.2, padL_len (k := 17) (by omega) (by omega), .inr (.inl ⟨rfl, by rw [h2.2.1]; omega, h3⟩)⟩
    · rw [if_neg h3]
      exact ⟨[], padL 4 y.toNat, rfl, h2.1, h2.2.2.2, padL_len (k := 17) (by omega) (by omega), .inr (.inr ⟨rfl, by rw [h2.2.1]; omega, by omega, by omega⟩)⟩
theorem dig_not {c : UInt8} (h : isDig c = true) : c ≠ 43 ∧ c ≠ 45 ∧ c ≠ 84 ∧ c ≠ 46 ∧ c ≠ 90 := by
  refine ⟨?_, ?_, ?_, ?_, ?_⟩ <;> (rintro rfl; revert h; decide)
def ryBody (l : List UInt8) : List UInt8 := Lib.trimLeftS l [43, 45]
def digsB (l : List UInt8) : Bool := !decide (l = []) && l.all isDig
def ryC (l : List UInt8) : Bool := decide (l.length - (ryBody l).length ≤ 1) && (digsB (ryBody l) && decide ((ryBody l).length ≤ 18))
def ryV (l : List UInt8) : Int := if ryC l = true then (if l.getD 0 0 = 45 then - dval (ryBody l) else dval (ryBody l)) else 0
def ryOk (l : List UInt8) : Bool := ryC l && decide (yearL (ryV l) = l)
theorem body_sign (sg ds : List UInt8) (hs : sg = [45] ∨ sg = [43] ∨ sg = []) (h : ds.all isDig = true) : ryBody (sg ++ ds) = ds := by
  have e : ryBody ds = ds := by
    unfold ryBody Lib.trimLeftS
    cases ds with
    | nil => rfl
    | cons c t =>
      rw [List.all_cons, Bool.and_eq_true] at h
      have := dig_not h.1
      rw [List.dropWhile_cons, if_neg (by simp [this.1, this.2.1])]
  rcases hs with rfl | rfl | rfl
  · exact e
  · exact e
  · exact e
theorem ry_year {y : Int} (h : -1000000000000000000 < y ∧ y < 1000000000000000000) : ryOk (yearL y) = true ∧ ryV (yearL y) = y := by
  obtain ⟨sg, ds, e, h1, h2, h3, h4⟩ := year_parts h
  have hb : ryBody (sg ++ ds) = ds := body_sign sg ds (by rcases h4 with ⟨h, _⟩ | ⟨h, _⟩ | ⟨h, _⟩ <;> simp [h]) h1
  have hne : ds ≠ [] := by intro e; rw [e] at h2; simp at h2
  have hc : ryC (yearL y) = true := by
    rw [e]
    unfold ryC digsB
    rw [hb, h1, decide_eq_false hne, decide_eq_true h3, List.length_append, decide_eq_true]
    · rfl
    · rcases h4 with ⟨h, _⟩ | ⟨h, _⟩ | ⟨h, _⟩ <;> rw [h] <;> simp
  have hv : ryV (yearL y) = y := by
    unfold ryV
    rw [if_pos hc, e, hb]
    rcases h4 with ⟨rfl, h, _⟩ | ⟨rfl, h, _⟩ | ⟨rfl, h, _⟩
    · have hg : (([45] : List UInt8) ++ ds).getD 0 0 = 45 := rfl
      rw [if_pos hg]; omega
    · have hg : ¬ (([43] : List UInt8) ++ ds).getD 0 0 = 45 := (by decide : ¬ (43 : UInt8) = 45)
      rw [if_neg hg]; omega
    · cases ds with
      | nil => exact absurd rfl hne
      | cons c t =>
        rw [List.all_cons, Bool.and_eq_true] at h1
        have hg : ¬ (([] : List UInt8) ++ c :: t).getD 0 0 = 45 := (dig_not h1.1).2.1
        rw [if_neg hg]; omega
  exact ⟨by unfold ryOk; rw [hc, hv, decide_eq_true rfl]; rfl, hv⟩
theorem ryV_in (l : List UInt8) : -1000000000000000000 < ryV l ∧ ryV l < 1000000000000000000 := by
  unfold ryV
  split
  · rename_i h
    unfold ryC digsB at h
    simp only [Bool.and_eq_true, decide_eq_true_eq] at h
    obtain ⟨_, ⟨_, h2⟩, h3⟩ := h
    have h4 := dval_bound h2
    have h5 : (10 : Int) ^ (ryBody l).length ≤ 10 ^ 18 := pow10_le h3
    have h18 : (10 : Int) ^ 18 = 1000000000000000000 := by decide
    split <;> omega
  · omega
theorem ry_back {l : List UInt8} (h : ryOk l = true) : l = yearL (ryV l) := by
  unfold ryOk at h
  rw [Bool.and_eq_true, decide_eq_true_eq] at h
  exact h.2.symm

/-! ### the program's reading -/
def rfC (l : List UInt8) : Bool := Lib.hasPrefix l [46] && (digsB (l.drop 1) && decide ((l.drop 1).length ≤ 18))
def rfV (l : List UInt8) : Int := if rfC l = true then dval (l.drop 1 ++ List.replicate (18 - (l.drop 1).length) 48) else 0
def rfOk (l : List UInt8) : Bool := decide (l = []) || (rfC l && decide (fracL (rfV l) = l))
theorem pre_one (l : List UInt8) (c : UInt8) : Lib.hasPrefix l [c] = true ↔ ∃ t, l = c :: t := by
  unfold Lib.hasPrefix
  cases l with
  | nil => exact ⟨fun h => (by cases h), fun ⟨t, h⟩ => (by cases h)⟩
  | cons d t =>
    show (c == d && true) = true ↔ _
    rw [Bool.and_true, beq_iff_eq]
    exact ⟨fun h => ⟨t, by rw [h]⟩, fun ⟨u, h⟩ => by cases h; rfl⟩
theorem rf_frac {a : Int} (h : 0 ≤ a ∧ a < 1000000000000000000) : rfOk (fracL a) = true ∧ rfV (fracL a) = a := by
  by_cases h0 : a = 0
  · subst h0
    exact ⟨rfl, rfl⟩
  · obtain ⟨b, e, h1, h2, h3, h4, h5⟩ := body_of_frac (a := a) (by omega)
    have hc : rfC (fracL a) = true := by
      rw [e]; unfold rfC digsB
      rw [(pre_one _ _).2 ⟨b, rfl⟩, List.drop_succ_cons, List.drop_zero, decide_eq_false h2, h1, decide_eq_true h3]; rfl
    have hv : rfV (fracL a) = a := by
      unfold rfV
      rw [if_pos hc, e, List.drop_succ_cons, List.drop_zero, h5]
    exact ⟨by unfold rfOk; rw [hc, hv, decide_eq_true (show fracL a = fracL a from rfl)]; simp, hv⟩
theorem rfV_in (l : List UInt8) : 0 ≤ rfV l ∧ rfV l < 1000000000000000000 := by
  unfold rfV
  split
  · rename_i h
    unfold rfC digsB at h
    simp only [Bool.and_eq_true, decide_eq_true_eq] at h
    obtain ⟨_, ⟨_, h2⟩, h3⟩ := h
    have h4 := dval_bound (l := l.drop 1 ++ List.replicate (18 - (l.drop 1).length) 48) (by rw [List.all_append, h2, zeros_all]; rfl)
    have h5 : (l.drop 1 ++ List.replicate (18 - (l.drop 1).length) (48 : UInt8)).length = 18 := by rw [List.length_append, List.length_replicate]; omega
    rw [h5] at h4
    have h18 : (10 : Int) ^ 18 = 1000000000000000000 := by decide
    omega
  · omega
theorem rf_back {l : List UInt8} (h : rfOk l = true) : l = fracL (rfV l) := by
  unfold rfOk at h
  rw [Bool.or_eq_true, Bool.and_eq_true, decide_eq_true_eq, decide_eq_true_eq] at h
  rcases h with h | h
  · rw [h]; rfl
  · exact h.2.symm
def ok5 (c : UInt8) (l : List UInt8) : Bool := (isDig (l.getD 0 0) && isDig (l.getD 1 0)) && (decide (l.getD 2 0 = c) && (isDig (l.getD 3 0) && isDig (l.getD 4 0)))
def ok8 (c : UInt8) (l : List UInt8) : Bool := (isDig (l.getD 0 0) && isDig (l.getD 1 0)) && (decide (l.getD 2 0 = c) && ((isDig (l.getD 3 0) && isDig (l.getD 4 0)) && (decide (l.getD 5 0 = c) && (isDig (l.getD 6 0) && isDig (l.getD 7 0)))))
def at2 (l : List UInt8) (i : Nat) : Int := n2 (l.getD i 0) (l.getD (i + 1) 0)
def shapeP (l : List UInt8) : Option IsoV :=
  let s := Lib.trimSuffix l [90]
  let k := Lib.indexByte s 84
  if (!Lib.hasSuffix l [90] || (decide (k < 7) || decide ((s.length : Int) < k + 9))) = true then none
  else
    let yl := s.take (k - 6).toNat
    let dl := (s.drop (k - 5).toNat).take 5
    let tl := (s.drop (k + 1).toNat).take 8
    let fl := s.drop (k + 9).toNat
    if (ryOk yl && (ok5 45 dl && (ok8 58 tl && (rfOk fl && decide (s.getD (k - 6).toNat 0 = 45))))) = true then some ⟨ryV yl, at2 dl 0, at2 dl 3, at2 tl 0, at2 tl 3, at2 tl 6, rfV fl⟩ else none

def shV (l : List UInt8) : IsoV := (shapeP l).getD ⟨0, 0, 0, 0, 0, 0, 0⟩
/-- Two or three numbers of two digits. -/
def twoOk (l : List UInt8) (c : Int) : Bool := (isDig (l.getD 0 0) && isDig (l.getD 1 0)) && (decide (((l.getD 2 0).toNat : Int) = c) && ((isDig (l.getD 3 0) && isDig (l.getD 4 0)) && (decide (l.length = 5) || (decide (((l.getD 5 0).toNat : Int) = c) && (isDig (l.getD 6 0) && isDig (l.getD 7 0))))))
def twoL (l : List UInt8) (c : Int) : List Int := if twoOk l c = true then (if l.length = 5 then [at2 l 0, at2 l 3] else [at2 l 0, at2 l 3, at2 l 6]) else []
theorem idx_at (c : UInt8) : ∀ (p q : List UInt8), c ∉ p → Lib.indexByte (p ++ c :: q) c = p.length
  | [], q, _ => by simp [Lib.indexByte]
  | x :: p, q, h => by
    have hx : ¬ x = c := fun e => h (by simp [e])
    have hp : c ∉ p := fun e => h (by simp [e])
    rw [List.cons_append, Lib.indexByte, idx_at c p q hp, if_neg (by simpa using hx), if_neg (by simp), List.length_cons]; omega
theorem idx_split (c : UInt8) : ∀ (l : List UInt8), 0 ≤ Lib.indexByte l c → ∃ p q, l = p ++ c :: q ∧ (p.length : Int) = Lib.indexByte l c
  | [], h => absurd h (by simp [Lib.indexByte])
  | x :: l, h => by
    rw [Lib.indexByte] at h ⊢
    by_cases hx : (x == c) = true
    · rw [if_pos hx]
      exact ⟨[], l, by rw [beq_iff_eq] at hx; rw [hx]; rfl, rfl⟩
    · rw [if_neg hx] at h ⊢
      by_cases h1 : (Lib.indexByte l c == -1) = true
      · rw [if_pos h1] at h; omega
      · rw [if_neg h1] at h ⊢
        have := idx_ge c l
        have h2 : Lib.indexByte l c ≠ -1 := by simpa using h1
        obtain ⟨p, q, e1, e2⟩ := idx_split c l (by omega)
        exact ⟨x :: p, q, by rw [List.cons_append, ← e1], by rw [List.length_cons]; omega⟩
theorem suf_one (l : List UInt8) (c : UInt8) : Lib.hasSuffix l [c] = true ↔ ∃ t, l = t ++ [c] := by
  unfold Lib.hasSuffix
  rw [List.isSuffixOf_iff_suffix]
  exact ⟨fun ⟨t, h⟩ => ⟨t, h.symm⟩, fun ⟨t, h⟩ => ⟨t, h.symm⟩⟩
theorem trim_suf (t : List UInt8) (c : UInt8) : Lib.trimSuffix (t ++ [c]) [c] = t := by
  unfold Lib.trimSuffix
  rw [if_pos ((suf_one _ _).2 ⟨t, rfl⟩)]
  simp
theorem not_mem_dig {c : UInt8} {l : List UInt8} (h : l.all isDig = true) (hc : isDig c = false) : c ∉ l := by
  intro hm
  rw [List.all_eq_true] at h
  rw [h c hm] at hc; cases hc
theorem year_no84 {y : Int} (h : -1000000000000000000 < y ∧ y < 1000000000000000000) : (84 : UInt8) ∉ yearL y := by
  obtain ⟨sg, ds, e, h1, _, _, h4⟩ := year_parts h
  rw [e, List.mem_append]
  rintro (hm | hm)
  · rcases h4 with ⟨rfl, _⟩ | ⟨rfl, _⟩ | ⟨rfl, _⟩ <;> simp at hm
  · exact not_mem_dig h1 rfl hm
theorem year_len {y : Int} (h : -1000000000000000000 < y ∧ y < 1000000000000000000) : 4 ≤ (yearL y).length := by
  obtain ⟨sg, ds, e, _, h2, _, _⟩ := year_parts h
  rw [e, List.length_append]; omega
theorem drop_add (Y R : List UInt8) (k : Nat) : (Y ++ R).drop (Y.length + k) = R.drop k := by rw [← List.drop_drop, List.drop_left' rfl]
theorem getD_add (Y R : List UInt8) : (Y ++ R).getD Y.length 0 = R.getD 0 0 := by rw [List.getD_eq_getElem?_getD, List.getElem?_append_right (Nat.le_refl _), Nat.sub_self, ← List.getD_eq_getElem?_getD]
theorem shape_iso {v : IsoV} (ok : IsoOk v) : shapeP (isoL v) = some v := by
  obtain ⟨m1, m0, em, hm1, hm0, vm⟩ := pad2 ok.mo
  obtain ⟨d1, d0, ed, hd1, hd0, vd⟩ := pad2 ok.d
  obtain ⟨h1, h0, eh, hh1, hh0, vh⟩ := pad2 ok.h
  obtain ⟨i1, i0, ei, hi1, hi0, vi⟩ := pad2 ok.mi
  obtain ⟨s1, s0, es, hs1, hs0, vs⟩ := pad2 ok.s
  have e0 : isoL v = (yearL v.y ++ [45, m1, m0, 45, d1, d0, 84, h1, h0, 58, i1, i0, 58, s1, s0] ++ fracL v.a) ++ [90] := by
    unfold isoL midL; rw [em, ed, eh, ei, es]; simp
  have hY := year_len ok.y
  have hn := year_no84 ok.y
  obtain ⟨y1, y2⟩ := ry_year ok.y
  obtain ⟨f1, f2⟩ := rf_frac ok.a
  rw [e0]
  unfold shapeP
  dsimp only
  rw [trim_suf, (suf_one _ _).2 ⟨_, rfl⟩]
  generalize yearL v.y = Y at *
  generalize fracL v.a = F at *
  have e1 : Y ++ [45, m1, m0, 45, d1, d0, 84, h1, h0, 58, i1, i0, 58, s1, s0] ++ F = (Y ++ [45, m1, m0, 45, d1, d0]) ++ 84 :: ([h1, h0, 58, i1, i0, 58, s1, s0] ++ F) := by simp
  have hi : Lib.indexByte (Y ++ [45, m1, m0, 45, d1, d0, 84, h1, h0, 58, i1, i0, 58, s1, s0] ++ F) 84 = (Y.length : Int) + 6 := by
    rw [e1, idx_at]
    · simp
    · rw [List.mem_append]
      rintro (h | h)
      · exact hn h
      · have := dig_not hm1; have := dig_not hm0; have := dig_not hd1; have := dig_not hd0
        simp only [List.mem_cons, List.not_mem_nil, or_false] at h
        rcases h with h | h | h | h | h | h <;> first | (revert h; decide) | (subst h; simp_all)
  rw [hi, show ((Y.length : Int) + 6 - 6).toNat = Y.length by omega, show ((Y.length : Int) + 6 - 5).toNat = Y.length + 1 by omega, show ((Y.length : Int) + 6 + 1).toNat = Y.length + 7 by omega, show ((Y.length : Int) + 6 + 9).toNat = Y.length + 15 by omega]
  rw [if_neg (by simp; omega)]
  rw [List.append_assoc, List.take_left' rfl, drop_add, drop_add, drop_add, getD_add]
  simp only [List.nil_append, List.cons_append, List.drop_succ_cons, List.drop_zero, List.take_succ_cons, List.take_zero, List.getD_cons_zero]
  have o5 : ok5 45 [m1, m0, 45, d1, d0] = true := by simp [ok5, hm1, hm0, hd1, hd0]
  have o8 : ok8 58 [h1, h0, 58, i1, i0, 58, s1, s0] = true := by simp [ok8, hh1, hh0, hi1, hi0, hs1, hs0]
  rw [if_pos (by rw [y1, o5, o8, f1]; rfl), y2, f2]
  show some (IsoV.mk v.y (n2 m1 m0) (n2 d1 d0) (n2 h1 h0) (n2 i1 i0) (n2 s1 s0) v.a) = _
  rw [vm, vd, vh, vi, vs]
theorem list5 {l : List UInt8} (h : l.length = 5) : l = [l.getD 0 0, l.getD 1 0, l.getD 2 0, l.getD 3 0, l.getD 4 0] := by
  match l, h with
  | [_, _, _, _, _], _ => rfl
theorem list8 {l : List UInt8} (h : l.length = 8) : l = [l.getD 0 0, l.getD 1 0, l.getD 2 0, l.getD 3 0, l.getD 4 0, l.getD 5 0, l.getD 6 0, l.getD 7 0] := by
  match l, h with
  | [_, _, _, _, _, _, _, _], _ => rfl
theorem shape_back {l : List UInt8} {v : IsoV} (h : shapeP l = some v) : IsoOk v ∧ l = isoL v := by
  unfold shapeP at h
  dsimp only at h
  split at h
  · cases h
  rename_i hc
  simp only [Bool.or_eq_true, Bool.not_eq_true', decide_eq_true_eq, not_or, Bool.not_eq_false] at hc
  obtain ⟨c1, c2, c3⟩ := hc
  obtain ⟨s, rfl⟩ := (suf_one _ _).1 c1
  rw [trim_suf] at *
  split at h
  case isFalse => cases h
  rename_i hk
  simp only [Bool.and_eq_true, decide_eq_true_eq] at hk
  obtain ⟨k1, k2, k3, k4, k5⟩ := hk
  cases h
  obtain ⟨p, q, e, hp⟩ := idx_split 84 s (by omega)
  clear c1
  generalize hI : Lib.indexByte s 84 = I at *
  subst hp
  have hq : 8 ≤ q.length := by
    have := congrArg List.length e
    rw [List.length_append, List.length_cons] at this; omega
  rw [show ((p.length : Int) - 6).toNat = p.length - 6 by omega, show ((p.length : Int) - 5).toNat = p.length - 5 by omega, show ((p.length : Int) + 1).toNat = p.length + 1 by omega, show ((p.length : Int) + 9).toNat = p.length + 9 by omega] at *
  have hYl := ry_back k1
  have hFl := rf_back k4
  have hyb := ryV_in (s.take (p.length - 6))
  have hfb := rfV_in (s.drop (p.length + 9))
  have lD : ((s.drop (p.length - 5)).take 5).length = 5 := by rw [List.length_take, List.length_drop]; omega
  have lT : ((s.drop (p.length + 1)).take 8).length = 8 := by rw [List.length_take, List.length_drop]; omega
  have hs : s = s.take (p.length - 6) ++ ([s.getD (p.length - 6) 0] ++ ((s.drop (p.length - 5)).take 5 ++ ([84] ++ ((s.drop (p.length + 1)).take 8 ++ s.drop (p.length + 9))))) := by
    have t1 := (List.take_append_drop (p.length - 6) s).symm
    have t2 : s.drop (p.length - 6) = s.getD (p.length - 6) 0 :: s.drop (p.length - 6 + 1) := by
      rw [List.drop_eq_getElem_cons (by omega), List.getD_eq_getElem?_getD, List.getElem?_eq_getElem (by omega)]; rfl
    have t3 : s.drop (p.length - 5) = (s.drop (p.length - 5)).take 5 ++ s.drop p.length := by
      have := (List.take_append_drop 5 (s.drop (p.length - 5))).symm
      rw [List.drop_drop, show p.length - 5 + 5 = p.length by omega] at this
      exact this
    have t4 : s.drop p.length = 84 :: s.drop (p.length + 1) := by
      rw [e, List.drop_left', List.drop_append, List.drop_of_length_le (by omega)]
      · simp
      · rfl
    have t5 : s.drop (p.length + 1) = (s.drop (p.length + 1)).take 8 ++ s.drop (p.length + 9) := by
      have := (List.take_append_drop 8 (s.drop (p.length + 1))).symm
      rw [List.drop_drop, show p.length + 1 + 8 = p.length + 9 by omega] at this
      exact this
    rw [t2, show p.length - 6 + 1 = p.length - 5 by omega] at t1
    rw [t3, t4] at t1
    rw [t5] at t1
    simpa using t1
  generalize s.take (p.length - 6) = Y at *
  generalize s.drop (p.length + 9) = F at *
  generalize (s.drop (p.length - 5)).take 5 = D at *
  generalize (s.drop (p.length + 1)).take 8 = T at *
  rw [k5] at hs
  unfold ok5 at k2
  unfold ok8 at k3
  simp only [Bool.and_eq_true, decide_eq_true_eq] at k2 k3
  obtain ⟨⟨a1, a2⟩, a3, a4, a5⟩ := k2
  obtain ⟨⟨b1, b2⟩, b3, ⟨b4, b5⟩, b6, b7, b8⟩ := k3
  have e5 := list5 lD
  have e8 := list8 lT
  obtain ⟨x1, x2, x3⟩ := n2_ok a1 a2
  obtain ⟨y1, y2, y3⟩ := n2_ok a4 a5
  obtain ⟨z1, z2, z3⟩ := n2_ok b1 b2
  obtain ⟨u1, u2, u3⟩ := n2_ok b4 b5
  obtain ⟨w1, w2, w3⟩ := n2_ok b7 b8
  refine ⟨⟨hyb, ⟨x1, x2⟩, ⟨y1, y2⟩, ⟨z1, z2⟩, ⟨u1, u2⟩, ⟨w1, w2⟩, hfb⟩, ?_⟩
  unfold isoL midL at2
  dsimp only
  rw [x3, y3, z3, u3, w3, ← hYl, ← hFl]
  rw [a3] at e5
  rw [b3, b6] at e8
  rw [hs, e5, e8]
  simp
theorem shape_iff (l : List UInt8) (v : IsoV) : shapeP l = some v ↔ IsoOk v ∧ l = isoL v :=
  ⟨shape_back, fun ⟨h1, h2⟩ => h2 ▸ shape_iso h1⟩
end Go.Sy
