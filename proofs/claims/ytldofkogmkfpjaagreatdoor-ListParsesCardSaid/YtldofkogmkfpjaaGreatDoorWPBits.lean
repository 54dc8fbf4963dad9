/-
  Bits of whole numbers, by natural numbers.
-/
import Derived.Test.YtldofkogmkfpjaaGreatDoorWPLexLaw
namespace Go.Sy
open Go.Ev
/-- Natural numbers as whole ones. -/
def castL (l : List Nat) : List Int := l.map fun n : Nat => (n : Int)
def nthN (l : List Nat) (i : Nat) : Nat := l.getD i 0
theorem castL_length (l : List Nat) : (castL l).length = l.length := by simp [castL]
theorem nth_castL (l : List Nat) (i : Nat) : (castL l).getD i 0 = ((nthN l i : Nat) : Int) := by
  unfold nthN castL
  simp only [List.getD_eq_getElem?_getD, List.getElem?_map]
  cases l[i]? <;> rfl
theorem castL_append (a b : List Nat) : castL a ++ castL b = castL (a ++ b) := by simp [castL]
theorem castL_snoc (a : List Nat) (n : Nat) : castL a ++ [(n : Int)] = castL (a ++ [n]) := by simp [castL]
theorem castL_take (l : List Nat) (n : Nat) : (castL l).take n = castL (l.take n) := by simp [castL]
theorem castL_drop (l : List Nat) (n : Nat) : (castL l).drop n = castL (l.drop n) := by simp [castL]
theorem castL_replicate (n m : Nat) : castL (List.replicate n m) = List.replicate n (m : Int) := by simp [castL]
theorem castL_cons (n : Nat) (l : List Nat) : castL (n :: l) = (n : Int) :: castL l := rfl
theorem castL_nil : castL [] = [] := rfl
theorem set_castL (l : List Nat) (i x : Nat) : (castL l).set i (x : Int) = castL (l.set i x) := by simp [castL]
theorem nthN_lt {l : List Nat} {i : Nat} (h : i < l.length) : nthN l i = l[i] := by simp [nthN, List.getD_eq_getElem?_getD, h]
theorem nthN_append_left {a b : List Nat} {i : Nat} (h : i < a.length) : nthN (a ++ b) i = nthN a i := by simp [nthN, List.getD_eq_getElem?_getD, List.getElem?_append_left h]
theorem nthN_append_right {a b : List Nat} {i : Nat} (h : a.length ≤ i) : nthN (a ++ b) i = nthN b (i - a.length) := by simp [nthN, List.getD_eq_getElem?_getD, List.getElem?_append_right h]
theorem nthN_take {l : List Nat} {n i : Nat} (h : i < n) : nthN (l.take n) i = nthN l i := by simp [nthN, List.getD_eq_getElem?_getD, h]
theorem nthN_drop {l : List Nat} {n i : Nat} : nthN (l.drop n) i = nthN l (n + i) := by simp [nthN, List.getD_eq_getElem?_getD]
theorem nthN_replicate {n i : Nat} : nthN (List.replicate n 0) i = 0 := by
  simp only [nthN, List.getD_eq_getElem?_getD, List.getElem?_replicate]
  split <;> rfl
theorem nthN_mid {c s : List Nat} {n : Nat} (hc : n ≤ c.length) (j : Nat) (hj : n ≤ j) : nthN (c.take n ++ s.drop n) j = nthN s j := by
  rw [nthN_append_right (by simp; omega), nthN_drop]; congr 1; simp; omega
theorem set_mid {c s : List Nat} {n : Nat} (hc : n < c.length) (hs : n < s.length) : (c.take n ++ s.drop n).set n (nthN c n) = c.take (n + 1) ++ s.drop (n + 1) := by
  rw [List.set_append_right _ _ (by simp; omega), List.drop_eq_getElem_cons hs, nthN_lt hc]
  have : n - (c.take n).length = 0 := by simp; omega
  rw [this, List.set_cons_zero, List.take_succ_eq_append_getElem hc, List.append_assoc]; rfl
theorem nthN_all {l : List Nat} {p : Nat → Prop} (h : ∀ x ∈ l, p x) (h0 : p 0) (i : Nat) : p (nthN l i) := by
  unfold nthN
  rw [List.getD_eq_getElem?_getD]
  cases e : l[i]? with
  | none => exact h0
  | some x => exact h x (List.mem_of_getElem? e)

theorem castL_inj {a b : List Nat} : castL a = castL b ↔ a = b := by
  constructor
  · intro h
    induction a generalizing b with
    | nil => cases b with
      | nil => rfl
      | cons _ _ => simp [castL] at h
    | cons x a ih => cases b with
      | nil => simp [castL] at h
      | cons y b =>
        simp only [castL, List.map_cons, List.cons.injEq] at h
        rw [ih h.2, Int.ofNat_inj.1 h.1]
  · intro h; rw [h]
theorem wrap_u {k : IntKind} (hk : k.signed = false) (n : Nat) : k.wrap (n : Int) = ((n % 2 ^ k.bits : Nat) : Int) := by
  unfold IntKind.wrap
  simp only [hk, Bool.false_and, Bool.false_eq_true, if_false]
  rw [Int.natCast_emod, Int.natCast_pow]; rfl
theorem wrap_u32 (n : Nat) : IntKind.u32.wrap (n : Int) = ((n % 4294967296 : Nat) : Int) := wrap_u rfl n
theorem wrap_u64 (n : Nat) : IntKind.u64.wrap (n : Int) = ((n % 18446744073709551616 : Nat) : Int) := wrap_u rfl n
theorem wrap_u8 (n : Nat) : IntKind.u8.wrap (n : Int) = ((n % 256 : Nat) : Int) := wrap_u rfl n
theorem ofInt_nat (w n : Nat) : BitVec.ofInt w (n : Int) = BitVec.ofNat w n := by simp
theorem and_lt {w a b : Nat} (ha : a < 2 ^ w) : a &&& b < 2 ^ w := Nat.lt_of_le_of_lt Nat.and_le_left ha
theorem or_lt {w a b : Nat} (ha : a < 2 ^ w) (hb : b < 2 ^ w) : a ||| b < 2 ^ w := Nat.or_lt_two_pow ha hb
theorem xor_lt {w a b : Nat} (ha : a < 2 ^ w) (hb : b < 2 ^ w) : a ^^^ b < 2 ^ w := Nat.xor_lt_two_pow ha hb
theorem andI_u {k : IntKind} (hk : k.signed = false) {a b : Nat} (ha : a < 2 ^ k.bits) (hb : b < 2 ^ k.bits) : andI k (a : Int) (b : Int) = ((a &&& b : Nat) : Int) := by
  unfold andI
  rw [ofInt_nat, ofInt_nat, BitVec.toNat_and, BitVec.toNat_ofNat, BitVec.toNat_ofNat, Nat.mod_eq_of_lt ha, Nat.mod_eq_of_lt hb, wrap_u hk, Nat.mod_eq_of_lt (and_lt ha)]
theorem orI_u {k : IntKind} (hk : k.signed = false) {a b : Nat} (ha : a < 2 ^ k.bits) (hb : b < 2 ^ k.bits) : orI k (a : Int) (b : Int) = ((a ||| b : Nat) : Int) := by
  unfold orI
  rw [ofInt_nat, ofInt_nat, BitVec.toNat_or, BitVec.toNat_ofNat, BitVec.toNat_ofNat, Nat.mod_eq_of_lt ha, Nat.mod_eq_of_lt hb, wrap_u hk, Nat.mod_eq_of_lt (or_lt ha hb)]
theorem xorI_u {k : IntKind} (hk : k.signed = false) {a b : Nat} (ha : a < 2 ^ k.bits) (hb : b < 2 ^ k.bits) : xorI k (a : Int) (b : Int) = ((a ^^^ b : Nat) : Int) := by
  unfold xorI
  rw [ofInt_nat, ofInt_nat, BitVec.toNat_xor, BitVec.toNat_ofNat, BitVec.toNat_ofNat, Nat.mod_eq_of_lt ha, Nat.mod_eq_of_lt hb, wrap_u hk, Nat.mod_eq_of_lt (xor_lt ha hb)]
theorem notI_u {k : IntKind} (hk : k.signed = false) {a : Nat} (ha : a < 2 ^ k.bits) : notI k (a : Int) = ((2 ^ k.bits - 1 - a : Nat) : Int) := by
  unfold notI
  have hm : k.max = ((2 ^ k.bits - 1 : Nat) : Int) := by
    have : 1 ≤ 2 ^ k.bits := Nat.one_le_two_pow
    unfold IntKind.max
    rw [hk]; simp only [Bool.false_eq_true, if_false]
    rw [Int.natCast_sub this, Int.natCast_pow]; rfl
  simp only [hk, Bool.false_eq_true, if_false]
  rw [hm, ofInt_nat, ofInt_nat, BitVec.toNat_xor, BitVec.toNat_ofNat, BitVec.toNat_ofNat, Nat.mod_eq_of_lt ha, Nat.mod_eq_of_lt (by have : 1 ≤ 2 ^ k.bits := Nat.one_le_two_pow; omega), wrap_u hk]
  have e : (2 ^ k.bits - 1) ^^^ a = 2 ^ k.bits - 1 - a := by
    apply Nat.eq_of_testBit_eq
    intro i
    have h1 : 2 ^ k.bits - 1 - a = 2 ^ k.bits - (a + 1) := by omega
    rw [Nat.testBit_xor, Nat.testBit_two_pow_sub_one, h1, Nat.testBit_two_pow_sub_succ ha]
    by_cases hi : i < k.bits
    · simp [hi]
    · have : a.testBit i = false := Nat.testBit_lt_two_pow (Nat.lt_of_lt_of_le ha (Nat.pow_le_pow_right (by omega) (by omega)))
      simp [hi, this]
  rw [e, Nat.mod_eq_of_lt (by have : 1 ≤ 2 ^ k.bits := Nat.one_le_two_pow; omega)]
theorem shlI_u {k : IntKind} (hk : k.signed = false) (a n : Nat) (hn : n ≤ k.bits) : shlI k (a : Int) (n : Int) = ((a * 2 ^ n % 2 ^ k.bits : Nat) : Int) := by
  unfold shlI
  rw [Int.toNat_natCast, Nat.min_eq_left hn]
  have : (a : Int) * 2 ^ n = ((a * 2 ^ n : Nat) : Int) := by rw [Int.natCast_mul, Int.natCast_pow]; rfl
  rw [this, wrap_u hk]
theorem shrI_u (k : IntKind) (a n : Nat) (hn : n ≤ k.bits) : shrI k (a : Int) (n : Int) = ((a / 2 ^ n : Nat) : Int) := by
  unfold shrI
  rw [Int.toNat_natCast, Nat.min_eq_left hn]
  have : (2 : Int) ^ n = ((2 ^ n : Nat) : Int) := by rw [Int.natCast_pow]; rfl
  rw [this, Int.fdiv_eq_ediv_of_nonneg _ (Int.natCast_nonneg _), ← Int.natCast_ediv]
/-- Of int, where nothing is below 0. -/
theorem wrap_i64 (n : Nat) (h : n < 9223372036854775808) : IntKind.i64.wrap (n : Int) = (n : Int) := by
  unfold IntKind.wrap
  have h3 : (2 : Int) ^ (IntKind.bits .i64) = 18446744073709551616 := by decide
  have h4 : (2 : Int) ^ (IntKind.bits .i64 - 1) = 9223372036854775808 := by decide
  have : IntKind.signed .i64 = true := rfl
  simp only [this, h3, h4]
  have : (n : Int) % 18446744073709551616 = n := Int.emod_eq_of_lt (by omega) (by omega)
  rw [this]
  have : ¬ ((n : Int) ≥ 9223372036854775808) := by omega
  simp [this]
theorem andI_i {a b : Nat} (ha : a < 9223372036854775808) (hb : b < 9223372036854775808) : andI .i64 (a : Int) (b : Int) = ((a &&& b : Nat) : Int) := by
  unfold andI
  have ha' : a < 2 ^ IntKind.bits .i64 := by have : (2:Nat) ^ IntKind.bits .i64 = 18446744073709551616 := by decide
                                             omega
  have hb' : b < 2 ^ IntKind.bits .i64 := by have : (2:Nat) ^ IntKind.bits .i64 = 18446744073709551616 := by decide
                                             omega
  rw [ofInt_nat, ofInt_nat, BitVec.toNat_and, BitVec.toNat_ofNat, BitVec.toNat_ofNat, Nat.mod_eq_of_lt ha', Nat.mod_eq_of_lt hb', wrap_i64 _ (Nat.lt_of_le_of_lt Nat.and_le_left ha)]
theorem orI_i {a b : Nat} (ha : a < 9223372036854775808) (hb : b < 9223372036854775808) : orI .i64 (a : Int) (b : Int) = ((a ||| b : Nat) : Int) := by
  unfold orI
  have h63 : (9223372036854775808 : Nat) = 2 ^ 63 := by decide
  have ha' : a < 2 ^ IntKind.bits .i64 := by have : (2:Nat) ^ IntKind.bits .i64 = 18446744073709551616 := by decide
                                             omega
  have hb' : b < 2 ^ IntKind.bits .i64 := by have : (2:Nat) ^ IntKind.bits .i64 = 18446744073709551616 := by decide
                                             omega
  rw [ofInt_nat, ofInt_nat, BitVec.toNat_or, BitVec.toNat_ofNat, BitVec.toNat_ofNat, Nat.mod_eq_of_lt ha', Nat.mod_eq_of_lt hb', wrap_i64 _ (by rw [h63] at *; exact or_lt ha hb)]
theorem xorI_i {a b : Nat} (ha : a < 9223372036854775808) (hb : b < 9223372036854775808) : xorI .i64 (a : Int) (b : Int) = ((a ^^^ b : Nat) : Int) := by
  unfold xorI
  have h63 : (9223372036854775808 : Nat) = 2 ^ 63 := by decide
  have ha' : a < 2 ^ IntKind.bits .i64 := by have : (2:Nat) ^ IntKind.bits .i64 = 18446744073709551616 := by decide
                                             omega
  have hb' : b < 2 ^ IntKind.bits .i64 := by have : (2:Nat) ^ IntKind.bits .i64 = 18446744073709551616 := by decide
                                             omega
  rw [ofInt_nat, ofInt_nat, BitVec.toNat_xor, BitVec.toNat_ofNat, BitVec.toNat_ofNat, Nat.mod_eq_of_lt ha', Nat.mod_eq_of_lt hb', wrap_i64 _ (by rw [h63] at *; exact xor_lt ha hb)]
theorem shlI_i (a n : Nat) (hn : n ≤ 64) (h : a * 2 ^ n < 9223372036854775808) : shlI .i64 (a : Int) (n : Int) = ((a * 2 ^ n : Nat) : Int) := by
  unfold shlI
  rw [Int.toNat_natCast, Nat.min_eq_left (show n ≤ IntKind.bits .i64 from hn)]
  have : (a : Int) * 2 ^ n = ((a * 2 ^ n : Nat) : Int) := by rw [Int.natCast_mul, Int.natCast_pow]; rfl
  rw [this, wrap_i64 _ h]
/-- Whole numbers as natural ones. -/
def natL (l : List Int) : List Nat := l.map Int.toNat
def bytesOk (l : List Int) : Prop := (l.all fun x => decide (0 ≤ x) && decide (x < 256)) = true
instance (l : List Int) : Decidable (bytesOk l) := by unfold bytesOk; exact inferInstance
theorem natL_castL (l : List Nat) : natL (castL l) = l := by
  unfold natL castL
  rw [List.map_map]
  conv => rhs; rw [← List.map_id l]
  exact List.map_congr_left fun a _ => rfl
theorem castL_natL {l : List Int} (h : ∀ x ∈ l, 0 ≤ x) : castL (natL l) = l := by
  unfold natL castL
  rw [List.map_map]
  conv => rhs; rw [← List.map_id l]
  exact List.map_congr_left fun a ha => by have := h a ha; simp; omega
theorem bytes_nat {l : List Int} (h : bytesOk l) : ∃ m : List Nat, l = castL m ∧ natL l = m ∧ ∀ x ∈ m, x < 256 := by
  unfold bytesOk at h
  rw [List.all_eq_true] at h
  have h' : ∀ x ∈ l, 0 ≤ x ∧ x < 256 := fun x hx => by
    have := h x hx
    rw [Bool.and_eq_true, decide_eq_true_eq, decide_eq_true_eq] at this; exact this
  refine ⟨natL l, (castL_natL fun x hx => (h' x hx).1).symm, rfl, fun x hx => ?_⟩
  unfold natL at hx
  obtain ⟨y, hy, rfl⟩ := List.mem_map.1 hx
  have := h' y hy
  omega
end Go.Sy
