/-
  Whole numbers by their digits to the base 65536, in plain words.
-/
import Derived.Test.YtldofkogmkfpjaaGreatDoorWPDec
namespace Go.Sy
set_option linter.unusedVariables false

def valD : List Int → Int
  | [] => 0
  | d :: l => d + 65536 * valD l
def bigD (n : Nat) : List Int := if h : n = 0 then [] else ((n % 65536 : Nat) : Int) :: bigD (n / 65536)
termination_by n
decreasing_by omega
def trimL : List Int → List Int
  | [] => []
  | d :: l => match trimL l with
    | [] => if d = 0 then [] else [d]
    | e :: t => d :: e :: t
def dgt (l : List Int) : Prop := ∀ d ∈ l, 0 ≤ d ∧ d < 65536
instance (l : List Int) : Decidable (dgt l) := inferInstanceAs (Decidable (∀ d ∈ l, 0 ≤ d ∧ d < 65536))
/-- The digits of a number, none too many. -/
def canon (l : List Int) : Prop := l = bigD (valD l).toNat
instance (l : List Int) : Decidable (canon l) := inferInstanceAs (Decidable (l = bigD (valD l).toNat))
theorem bigD_0 : bigD 0 = [] := by rw [bigD]; rfl
theorem bigD_pos {n : Nat} (h : n ≠ 0) : bigD n = ((n % 65536 : Nat) : Int) :: bigD (n / 65536) := by rw [bigD, dif_neg h]
theorem valD_bigD (n : Nat) : valD (bigD n) = n := by
  induction n using Nat.strongRecOn with
  | _ n ih =>
    by_cases h : n = 0
    · subst h; rw [bigD_0]; rfl
    · rw [bigD_pos h, valD, ih (n / 65536) (by omega)]; omega
theorem dgt_bigD (n : Nat) : dgt (bigD n) := by
  induction n using Nat.strongRecOn with
  | _ n ih =>
    by_cases h : n = 0
    · subst h; rw [bigD_0]; intro d hd; cases hd
    · rw [bigD_pos h]
      intro d hd
      rcases List.mem_cons.1 hd with rfl | hd
      · omega
      · exact ih (n / 65536) (by omega) d hd
theorem canon_bigD (n : Nat) : canon (bigD n) := by unfold canon; rw [valD_bigD, Int.toNat_natCast]
theorem canon_ex {l : List Int} (h : canon l) : ∃ n : Nat, l = bigD n := ⟨_, h⟩
theorem valD_nonneg {l : List Int} (h : dgt l) : 0 ≤ valD l := by
  induction l with
  | nil => exact Int.le_refl _
  | cons d l ih =>
    have h1 := h d (by simp)
    have h2 := ih fun x hx => h x (by simp [hx])
    rw [valD]; omega
theorem bigD_nil {n : Nat} : bigD n = [] ↔ n = 0 := by
  constructor
  · intro h
    have := valD_bigD n
    rw [h] at this
    have e : valD [] = 0 := rfl
    omega
  · rintro rfl; exact bigD_0
theorem trim_bigD {l : List Int} (h : dgt l) : trimL l = bigD (valD l).toNat := by
  induction l with
  | nil => rw [show valD [] = 0 from rfl, show (0 : Int).toNat = 0 from rfl, bigD_0]; rfl
  | cons d l ih =>
    have h1 := h d (by simp)
    have h2 : dgt l := fun x hx => h x (by simp [hx])
    have h3 := valD_nonneg h2
    have e := ih h2
    rw [trimL, e, valD]
    generalize valD l = v at *
    by_cases hv : v = 0
    · subst hv
      rw [show (0 : Int).toNat = 0 from rfl, bigD_0]
      by_cases hd : d = 0
      · subst hd
        rw [show ((0 : Int) + 65536 * 0).toNat = 0 from rfl, bigD_0]; rfl
      · simp only [if_neg hd]
        rw [bigD_pos (by omega), show (d + 65536 * 0).toNat / 65536 = 0 by omega, bigD_0]
        congr 1; omega
    · have hn : v.toNat ≠ 0 := by omega
      cases hb : bigD v.toNat with
      | nil => exact absurd (bigD_nil.1 hb) hn
      | cons x t =>
        simp only
        rw [← hb, bigD_pos (show (d + 65536 * v).toNat ≠ 0 by omega), show (d + 65536 * v).toNat / 65536 = v.toNat by omega]
        congr 1; omega
theorem trim_snoc0 (a : List Int) : trimL (a ++ [0]) = trimL a := by
  induction a with
  | nil => rfl
  | cons d a ih => rw [List.cons_append, trimL, ih, trimL]
theorem trim_snoc {d : Int} (h : d ≠ 0) (a : List Int) : trimL (a ++ [d]) = a ++ [d] := by
  induction a with
  | nil => simp [trimL, h]
  | cons e a ih =>
    rw [List.cons_append, trimL, ih]
    cases a <;> rfl
theorem valD_append (a b : List Int) : valD (a ++ b) = valD a + 65536 ^ a.length * valD b := by
  induction a with
  | nil => simp [valD]
  | cons d a ih =>
    rw [List.cons_append, valD, ih, valD, List.length_cons, Int.pow_succ, Int.mul_add, ← Int.mul_assoc, Int.mul_comm 65536 (65536 ^ a.length)]
    omega
theorem dgt_snoc {a : List Int} {d : Int} (h : dgt a) (hd : 0 ≤ d ∧ d < 65536) : dgt (a ++ [d]) := by
  intro x hx
  rcases List.mem_append.1 hx with hx | hx
  · exact h x hx
  · simp at hx; subst hx; exact hd
/-- A number with a sign. -/
def bV (s : Bool) (l : List Int) : Int := if s then - valD l else valD l
def isBig (s : Bool) (l : List Int) : Prop := canon l ∧ (s = true → l ≠ [])
instance (s : Bool) (l : List Int) : Decidable (isBig s l) := inferInstanceAs (Decidable (canon l ∧ (s = true → l ≠ [])))
theorem isBig_mk (v : Int) : isBig (decide (v < 0)) (bigD v.natAbs) ∧ bV (decide (v < 0)) (bigD v.natAbs) = v := by
  refine ⟨⟨canon_bigD _, fun h => ?_⟩, ?_⟩
  · rw [ne_eq, bigD_nil]
    have := of_decide_eq_true h
    omega
  · unfold bV
    rw [valD_bigD]
    by_cases h : v < 0
    · rw [decide_eq_true h, if_pos rfl]; omega
    · rw [decide_eq_false h, if_neg (by simp)]; omega
/-! ### which one is greater -/
theorem valD_lt {a : List Int} (h : dgt a) : valD a < 65536 ^ a.length := by
  induction a with
  | nil => simp [valD]
  | cons d a ih =>
    have h1 := h d (by simp)
    have h2 := ih fun x hx => h x (by simp [hx])
    rw [valD, List.length_cons, Int.pow_succ]; omega
theorem bigD_low : ∀ (n : Nat), n ≠ 0 → (65536 : Int) ^ ((bigD n).length - 1) ≤ n := by
  intro n
  induction n using Nat.strongRecOn with
  | _ n ih =>
    intro h
    rw [bigD_pos h, List.length_cons, Nat.add_sub_cancel]
    by_cases h2 : n / 65536 = 0
    · rw [h2, bigD_0]; simp; omega
    · have h3 := ih (n / 65536) (by omega) h2
      have h4 : (bigD (n / 65536)).length ≠ 0 := fun e => h2 (bigD_nil.1 (List.length_eq_zero_iff.1 e))
      obtain ⟨k, hk⟩ : ∃ k, (bigD (n / 65536)).length = k + 1 := ⟨_, (Nat.succ_pred h4).symm⟩
      rw [hk, Nat.add_sub_cancel] at h3
      rw [hk, Int.pow_succ]; omega
theorem big_len {m n : Nat} (h : (bigD m).length < (bigD n).length) : m < n := by
  have h1 := valD_lt (dgt_bigD m)
  rw [valD_bigD] at h1
  have hn : n ≠ 0 := fun e => by subst e; rw [bigD_0] at h; simp at h
  have h2 := bigD_low n hn
  have h3 : (65536 : Int) ^ (bigD m).length ≤ 65536 ^ ((bigD n).length - 1) := by
    have := Nat.pow_le_pow_right (n := 65536) (by omega) (show (bigD m).length ≤ (bigD n).length - 1 by omega)
    have e : ∀ k : Nat, (65536 : Int) ^ k = ((65536 ^ k : Nat) : Int) := fun k => by rw [Int.natCast_pow]; rfl
    rw [e, e]
    exact Int.ofNat_le.2 this
  omega
theorem valD_snoc (a : List Int) (x : Int) : valD (a ++ [x]) = valD a + 65536 ^ a.length * x := by
  rw [valD_append]; simp [valD]
theorem cmp_snoc {a b : List Int} {x y : Int} (ha : dgt a) (hb : dgt b) (hl : a.length = b.length) :
    (x = y → cmpV (valD (a ++ [x])) (valD (b ++ [y])) = cmpV (valD a) (valD b)) ∧ (x < y → cmpV (valD (a ++ [x])) (valD (b ++ [y])) = -1) ∧ (y < x → cmpV (valD (a ++ [x])) (valD (b ++ [y])) = 1) := by
  rw [valD_snoc, valD_snoc, ← hl]
  have a0 := valD_nonneg ha
  have a1 := valD_lt ha
  have b0 := valD_nonneg hb
  have b1 := valD_lt hb
  rw [← hl] at b1
  generalize (65536 : Int) ^ a.length = p at *
  refine ⟨fun h => ?_, fun h => ?_, fun h => ?_⟩
  · subst h
    unfold cmpV
    by_cases h1 : valD a = valD b
    · rw [if_pos h1, if_pos (by omega)]
    · rw [if_neg h1, if_neg (by omega)]
      by_cases h2 : valD a < valD b
      · rw [if_pos h2, if_pos (by omega)]
      · rw [if_neg h2, if_neg (by omega)]
  · have : p * (x + 1) ≤ p * y := Int.mul_le_mul_of_nonneg_left (by omega) (by omega)
    rw [Int.mul_add, Int.mul_one] at this
    unfold cmpV
    rw [if_neg (by omega), if_pos (by omega)]
  · have : p * (y + 1) ≤ p * x := Int.mul_le_mul_of_nonneg_left (by omega) (by omega)
    rw [Int.mul_add, Int.mul_one] at this
    unfold cmpV
    rw [if_neg (by omega), if_neg (by omega)]
theorem dgt_take {a : List Int} (h : dgt a) (i : Nat) : dgt (a.take i) := fun x hx => h x (List.mem_of_mem_take hx)

/-! ### sums, digit by digit -/
theorem push_ok {α : Type} {b nl : Bool} {l : List Int} {x : Int} {K : Option α} (hr : roomB (l.length + 1) 8 = true) :
    (bif b == b && true && decide (l.length ≤ l.length) && roomB (l.length + 1) 8 then bif nl == nl && decide (l.length + 1 = (List.take l.length l ++ [x]).length) then K else none else none) = K := by
  rw [hr, List.take_length]
  cases b <;> cases nl <;> simp
theorem room_ok {n : Nat} (h : n ≤ 1000000000000) : roomB (n + 1) 8 = true := by
  unfold roomB
  rw [Bool.and_eq_true, decide_eq_true_eq, decide_eq_true_eq]; omega
theorem drop_val {a : List Int} (i : Nat) : valD (a.drop i) = a.getD i 0 + 65536 * valD (a.drop (i + 1)) := by
  by_cases h : i < a.length
  · rw [List.drop_eq_getElem_cons h, valD, List.getD_eq_getElem?_getD, List.getElem?_eq_getElem h]; rfl
  · rw [List.drop_eq_nil_of_le (by omega), List.drop_eq_nil_of_le (by omega), List.getD_eq_getElem?_getD, List.getElem?_eq_none (by omega)]; rfl
theorem dgt_getD {a : List Int} (h : dgt a) (i : Nat) : 0 ≤ a.getD i 0 ∧ a.getD i 0 < 65536 := by
  rw [List.getD_eq_getElem?_getD]
  by_cases hi : i < a.length
  · rw [List.getElem?_eq_getElem hi]; exact h _ (List.getElem_mem hi)
  · rw [List.getElem?_eq_none (by omega)]; simp
/-- One digit of a sum. -/
theorem add_step {a b out : List Int} {c : Int} {i : Nat} {T : Int} (hl : out.length = i) (h : valD out + 65536 ^ i * (c + valD (a.drop i) + valD (b.drop i)) = T) (hc : 0 ≤ c) :
    valD (out ++ [(c + a.getD i 0 + b.getD i 0) % 65536]) + 65536 ^ (i + 1) * ((c + a.getD i 0 + b.getD i 0) / 65536 + valD (a.drop (i + 1)) + valD (b.drop (i + 1))) = T := by
  rw [drop_val (a := a) i, drop_val (a := b) i] at h
  rw [valD_snoc, hl, ← h, Int.pow_succ, Int.mul_assoc (65536 ^ i), Int.add_assoc, ← Int.mul_add]
  congr 2
  omega

/-! ### differences, digit by digit -/
theorem sub_step {a b out : List Int} {c : Int} {i : Nat} {T : Int} (hl : out.length = i) (h : valD out + 65536 ^ i * (valD (a.drop i) - valD (b.drop i) - c) = T) :
    valD (out ++ [(a.getD i 0 - c - b.getD i 0) % 65536]) + 65536 ^ (i + 1) * (valD (a.drop (i + 1)) - valD (b.drop (i + 1)) - (-((a.getD i 0 - c - b.getD i 0) / 65536))) = T := by
  rw [drop_val (a := a) i, drop_val (a := b) i] at h
  rw [valD_snoc, hl, ← h, Int.pow_succ, Int.mul_assoc (65536 ^ i), Int.add_assoc, ← Int.mul_add]
  congr 2
  omega
theorem sub_end {out : List Int} {c V : Int} {n : Nat} (hd : dgt out) (hl : out.length = n) (h : valD out + 65536 ^ n * (0 - 0 - c) = V) (h0 : 0 ≤ V) (c0 : 0 ≤ c) (c1 : c ≤ 1) : valD out = V := by
  have h1 := valD_lt hd
  rw [hl] at h1
  have h2 : c = 0 ∨ c = 1 := by omega
  rcases h2 with rfl | rfl
  · simpa using h
  · generalize (65536 : Int) ^ n = p at *
    omega
theorem len_le {a b : List Int} (ha : canon a) (hb : canon b) (h : valD b ≤ valD a) : b.length ≤ a.length := by
  obtain ⟨m, rfl⟩ := canon_ex ha
  obtain ⟨n, rfl⟩ := canon_ex hb
  rcases Nat.lt_or_ge (bigD m).length (bigD n).length with g | g
  · have := big_len g
    rw [valD_bigD, valD_bigD] at h; omega
  · exact g
theorem big_pos (n : Nat) : (0 : Int) < ((bigD n).length : Nat) ↔ n ≠ 0 := by
  have h1 := @bigD_nil n
  rw [← List.length_eq_zero_iff] at h1
  omega
/-- A number with a sign, by its size. -/
theorem big_sgn {s : Bool} {l : List Int} (h : isBig s l) : ∃ n : Nat, l = bigD n ∧ (s = true → n ≠ 0) ∧ bV s l = (if s then -(n : Int) else n) := by
  obtain ⟨h1, h2⟩ := h
  obtain ⟨n, rfl⟩ := canon_ex h1
  refine ⟨n, rfl, fun e hn => h2 e (bigD_nil.2 hn), ?_⟩
  unfold bV; rw [valD_bigD]
theorem bV_mk (v : Int) : bV (decide (v < 0)) (bigD v.natAbs) = v := (isBig_mk v).2
theorem bigD_len {n k : Nat} (h : n < 65536 ^ k) : (bigD n).length ≤ k := by
  by_cases hn : n = 0
  · subst hn; rw [bigD_0]; simp
  have h1 := bigD_low n hn
  rcases Nat.lt_or_ge k (bigD n).length with g | g
  · exfalso
    have := Nat.pow_le_pow_right (n := 65536) (by omega) (show k ≤ (bigD n).length - 1 by omega)
    have e : ∀ k : Nat, (65536 : Int) ^ k = ((65536 ^ k : Nat) : Int) := fun k => by rw [Int.natCast_pow]; rfl
    rw [e] at h1
    have := Int.ofNat_le.1 h1
    omega
  · exact g

/-! ### products -/
theorem valD_set : ∀ (d : List Int) (p : Nat) (x : Int), p < d.length → valD (d.set p x) = valD d + 65536 ^ p * (x - d.getD p 0)
  | [], p, x, h => by simp at h
  | e :: d, 0, x, _ => by simp [valD]; omega
  | e :: d, p + 1, x, h => by
    have := valD_set d p x (by simpa using h)
    simp only [List.set_cons_succ, valD, this, Int.pow_succ, List.getD_cons_succ, Int.mul_add]
    rw [Int.mul_comm (65536 ^ p) 65536, Int.mul_assoc]; omega
theorem dgt_set {d : List Int} {p : Nat} {x : Int} (h : dgt d) (hx : 0 ≤ x ∧ x < 65536) : dgt (d.set p x) := fun y hy => by
  rcases List.mem_or_eq_of_mem_set hy with h1 | rfl
  · exact h y h1
  · exact hx
theorem getD_set {d : List Int} {p q : Nat} {x : Int} (hp : p < d.length) : (d.set p x).getD q 0 = if q = p then x else d.getD q 0 := by
  rw [List.getD_eq_getElem?_getD, List.getD_eq_getElem?_getD, List.getElem?_set]
  by_cases h : q = p
  · subst h; simp [hp]
  · rw [if_neg (fun e => h e.symm), if_neg h]
theorem valD_zeros (n : Nat) : valD (List.replicate n 0) = 0 := by
  induction n with
  | zero => rfl
  | succ n ih => rw [List.replicate_succ, valD, ih]; rfl
theorem dgt_zeros (n : Nat) : dgt (List.replicate n 0) := fun d hd => by
  rw [List.mem_replicate] at hd; omega
theorem mul_dig {x y d c : Int} (hx : 0 ≤ x ∧ x < 65536) (hy : 0 ≤ y ∧ y < 65536) (hd : 0 ≤ d ∧ d < 65536) (hc : 0 ≤ c ∧ c < 65536) : 0 ≤ x * y ∧ x * y ≤ 4294836225 ∧ 0 ≤ d + x * y + c ∧ (d + x * y + c) / 65536 < 65536 := by
  have h1 : 0 ≤ x * y := Int.mul_nonneg hx.1 hy.1
  have h2 : x * y ≤ 65535 * 65535 := Int.mul_le_mul (by omega) (by omega) hy.1 (by omega)
  omega
/-- One digit of a product. -/
theorem mul_step {d b : List Int} {x c K : Int} {i j : Nat} (hp : i + j < d.length) (h : valD d + 65536 ^ (i + j) * (c + x * valD (b.drop j)) = K) :
    valD (d.set (i + j) ((d.getD (i + j) 0 + x * b.getD j 0 + c) % 65536)) + 65536 ^ (i + (j + 1)) * ((d.getD (i + j) 0 + x * b.getD j 0 + c) / 65536 + x * valD (b.drop (j + 1))) = K := by
  rw [drop_val (a := b) j] at h
  rw [valD_set _ _ _ hp, ← h, ← Nat.add_assoc, Int.pow_succ, Int.mul_assoc (65536 ^ (i + j)), Int.add_assoc, ← Int.mul_add]
  congr 2
  rw [Int.mul_add x, Int.mul_add 65536, ← Int.mul_assoc x 65536, Int.mul_comm x 65536, Int.mul_assoc 65536 x]
  omega
theorem mul_row {d a b : List Int} {c T : Int} {i : Nat} (hp : i + b.length < d.length) (hz : d.getD (i + b.length) 0 = 0) (h : valD d + 65536 ^ (i + b.length) * (c + a.getD i 0 * 0) = T) :
    valD (d.set (i + b.length) c) = T := by
  rw [valD_set _ _ _ hp, hz, ← h, Int.mul_zero, Int.add_zero, Int.sub_zero]

/-! ### small numbers -/
theorem lenBg {n : Nat} (h : n < 115792089237316195423570985008687907853269984665640564039457584007913129639936) : (bigD n).length ≤ 1000000000 :=
  Nat.le_trans (bigD_len (k := 16) (Nat.lt_of_lt_of_le h (by decide))) (by omega)
theorem bVn (n : Nat) : bV false (bigD n) = n := valD_bigD n
theorem isBn (n : Nat) : isBig false (bigD n) := ⟨canon_bigD n, by simp⟩
theorem bigD_pow2 (q : Nat) (x : Int) (h : 0 < x ∧ x < 65536) : bigD (65536 ^ q * x).toNat = List.replicate q 0 ++ [x] := by
  have hd : dgt (List.replicate q 0 ++ [x]) := dgt_snoc (dgt_zeros q) (by omega)
  have := trim_bigD hd
  rw [trim_snoc (by omega), valD_snoc, valD_zeros, List.length_replicate, Int.zero_add] at this
  exact this.symm
theorem set_last (q : Nat) (x : Int) : (List.replicate (q + 1) (0 : Int)).set q x = List.replicate q 0 ++ [x] := by
  rw [List.replicate_succ', List.set_append_right _ _ (by simp)]
  simp
theorem bVt (n : Nat) : bV true (bigD n) = -(n : Int) := by unfold bV; rw [valD_bigD, if_pos rfl]
theorem bigD_one {n : Nat} (h : n < 65536) : (bigD n).getD 0 0 = n := by
  by_cases hn : n = 0
  · subst hn; rw [bigD_0]; rfl
  · rw [bigD_pos hn, List.getD_cons_zero]; omega
theorem textOf_one (n : Nat) (h : n < 256) : Ev.textOf [(n : Int)] = tx [UInt8.ofNat n] := by
  simp [Ev.textOf, tx]
theorem drop_set {q : List Int} {j : Nat} {x : Int} (h : j < q.length) : valD ((q.set j x).drop j) = x + 65536 * valD (q.drop (j + 1)) := by
  rw [drop_val, getD_set h, if_pos rfl, List.drop_set_of_lt (by omega)]
theorem len_lt {m n : Nat} (h : m < n) : (bigD m).length ≤ (bigD n).length := by
  rcases Nat.lt_or_ge (bigD n).length (bigD m).length with g | g
  · have := big_len g; omega
  · exact g
/-- A quotient of a number with a sign, by that of its size. -/
theorem neg_div {m Q R D : Int} (hD : 0 < D) (h : Q * D + R = m) (r0 : 0 ≤ R) (r1 : R < D) :
    (-m) / D = (if R = 0 then -Q else -Q - 1) ∧ (-m) % D = (if R = 0 then 0 else D - R) := by
  split
  · rename_i hR
    subst hR
    exact quo_uniq hD (by rw [Int.neg_mul]; omega) (by omega) hD
  · exact quo_uniq hD (by rw [Int.sub_mul, Int.neg_mul]; omega) (by omega) (by omega)
theorem room_ok2 {n : Nat} (h : n ≤ 1000000000000) : roomB (1 + n) 8 = true := by rw [Nat.add_comm]; exact room_ok h
end Go.Sy
