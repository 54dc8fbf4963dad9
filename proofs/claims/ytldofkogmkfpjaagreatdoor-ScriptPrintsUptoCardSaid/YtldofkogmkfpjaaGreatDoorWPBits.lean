/-
  Bits of whole numbers, by natural numbers.
-/
import Derived.Test.YtldofkogmkfpjaaGreatDoorWPLexLaw
namespace Go.Sy
open Go.Ev
/-- Natural numbers as whole ones. -/
def castL (l : List Nat) : List Int := l.map fun n : Nat => (n : Int)
def nthN (l : List Nat) (i : Nat) : Nat := l.getD i 0
theorem castL_length (l : List Nat) : (castL l).length = l.length := by simp [castL]
theorem nth_castL (l : List Nat) (i : Nat) : (castL l).getD i 0 = ((nthN l i : Nat) : Int) := by
  unfold nthN castL
  simp only [List.getD_eq_getElem?_getD, List.getElem?_map]
  cases l[i]? <;> rfl
theorem castL_append (a b : List Nat) : castL a ++ castL b = castL (a ++ b) := by simp [castL]
theorem nthN_lt {l : List Nat} {i : Nat} (h : i < l.length) : nthN l i = l[i] := by simp [nthN, List.getD_eq_getElem?_getD, h]
theorem nthN_all {l : List Nat} {p : Nat → Prop} (h : ∀ x ∈ l, p x) (h0 : p 0) (i : Nat) : p (nthN l i) := by
  unfold nthN
  rw [List.getD_eq_getElem?_getD]
  cases e : l[i]? with
  | none => exact h0
  | some x => exact h x (List.mem_of_getElem? e)

theorem wrap_u {k : IntKind} (hk : k.signed = false) (n : Nat) : k.wrap (n : Int) = ((n % 2 ^ k.bits : Nat) : Int) := by
  unfold IntKind.wrap
  simp only [hk, Bool.false_and, Bool.false_eq_true, if_false]
  rw [Int.natCast_emod, Int.natCast_pow]; rfl
theorem wrap_u8 (n : Nat) : IntKind.u8.wrap (n : Int) = ((n % 256 : Nat) : Int) := wrap_u rfl n
theorem ofInt_nat (w n : Nat) : BitVec.ofInt w (n : Int) = BitVec.ofNat w n := by simp
theorem and_lt {w a b : Nat} (ha : a < 2 ^ w) : a &&& b < 2 ^ w := Nat.lt_of_le_of_lt Nat.and_le_left ha
theorem andI_u {k : IntKind} (hk : k.signed = false) {a b : Nat} (ha : a < 2 ^ k.bits) (hb : b < 2 ^ k.bits) : andI k (a : Int) (b : Int) = ((a &&& b : Nat) : Int) := by
  unfold andI
  rw [ofInt_nat, ofInt_nat, BitVec.toNat_and, BitVec.toNat_ofNat, BitVec.toNat_ofNat, Nat.mod_eq_of_lt ha, Nat.mod_eq_of_lt hb, wrap_u hk, Nat.mod_eq_of_lt (and_lt ha)]
theorem shrI_u (k : IntKind) (a n : Nat) (hn : n ≤ k.bits) : shrI k (a : Int) (n : Int) = ((a / 2 ^ n : Nat) : Int) := by
  unfold shrI
  rw [Int.toNat_natCast, Nat.min_eq_left hn]
  have : (2 : Int) ^ n = ((2 ^ n : Nat) : Int) := by rw [Int.natCast_pow]; rfl
  rw [this, Int.fdiv_eq_ediv_of_nonneg _ (Int.natCast_nonneg _), ← Int.natCast_ediv]
/-- Of int, where nothing is below 0. -/
theorem wrap_i64 (n : Nat) (h : n < 9223372036854775808) : IntKind.i64.wrap (n : Int) = (n : Int) := by
  unfold IntKind.wrap
  have h3 : (2 : Int) ^ (IntKind.bits .i64) = 18446744073709551616 := by decide
  have h4 : (2 : Int) ^ (IntKind.bits .i64 - 1) = 9223372036854775808 := by decide
  have : IntKind.signed .i64 = true := rfl
  simp only [this, h3, h4]
  have : (n : Int) % 18446744073709551616 = n := Int.emod_eq_of_lt (by omega) (by omega)
  rw [this]
  have : ¬ ((n : Int) ≥ 9223372036854775808) := by omega
  simp [this]
/-- Whole numbers as natural ones. -/
def natL (l : List Int) : List Nat := l.map Int.toNat
def bytesOk (l : List Int) : Prop := (l.all fun x => decide (0 ≤ x) && decide (x < 256)) = true
instance (l : List Int) : Decidable (bytesOk l) := by unfold bytesOk; exact inferInstance
theorem castL_natL {l : List Int} (h : ∀ x ∈ l, 0 ≤ x) : castL (natL l) = l := by
  unfold natL castL
  rw [List.map_map]
  conv => rhs; rw [← List.map_id l]
  exact List.map_congr_left fun a ha => by have := h a ha; simp; omega
theorem bytes_nat {l : List Int} (h : bytesOk l) : ∃ m : List Nat, l = castL m ∧ natL l = m ∧ ∀ x ∈ m, x < 256 := by
  unfold bytesOk at h
  rw [List.all_eq_true] at h
  have h' : ∀ x ∈ l, 0 ≤ x ∧ x < 256 := fun x hx => by
    have := h x hx
    rw [Bool.and_eq_true, decide_eq_true_eq, decide_eq_true_eq] at this; exact this
  refine ⟨natL l, (castL_natL fun x hx => (h' x hx).1).symm, rfl, fun x hx => ?_⟩
  unfold natL at hx
  obtain ⟨y, hy, rfl⟩ := List.mem_map.1 hx
  have := h' y hy
  omega
end Go.Sy
