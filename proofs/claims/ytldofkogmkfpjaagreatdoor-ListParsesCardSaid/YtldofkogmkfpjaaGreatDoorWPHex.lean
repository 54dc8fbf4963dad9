/-
  Numbers to the base 16, plainly.
-/
import Derived.Test.YtldofkogmkfpjaaGreatDoorWPListLaw
import Derived.Lib.Repeat
namespace Go.Sy
open Go.Ev
set_option linter.unusedVariables false

/-- The digits of a number, to the base 16. -/
def hexD (n : Nat) : List UInt8 := if h : n < 16 then [hexc n] else hexD (n / 16) ++ [hexc (n % 16)]
theorem hexD_small {n : Nat} (h : n < 16) : hexD n = [hexc n] := by rw [hexD, dif_pos h]
theorem hexD_big {n : Nat} (h : ¬ n < 16) : hexD n = hexD (n / 16) ++ [hexc (n % 16)] := by rw [hexD, dif_neg h]
def hexK (k w : Nat) : List UInt8 := (List.range k).map fun j => hexc (w / 16 ^ (k - 1 - j) % 16)
theorem hexK_succ (k w : Nat) : hexK (k + 1) w = hexK k (w / 16) ++ [hexc (w % 16)] := by
  unfold hexK
  rw [List.range_succ, List.map_append]
  congr 1
  · apply List.map_congr_left
    intro j hj
    have := List.mem_range.1 hj
    rw [show k + 1 - 1 - j = (k - 1 - j) + 1 by omega, Nat.pow_succ, Nat.mul_comm, ← Nat.div_div_eq_div_mul]
  · simp
theorem hexD_len {k n : Nat} (h : n < 16 ^ (k + 1)) : (hexD n).length ≤ k + 1 := by
  induction k generalizing n with
  | zero => rw [hexD_small (by simpa using h)]; simp
  | succ k ih =>
    by_cases g : n < 16
    · rw [hexD_small g]; simp
    · rw [hexD_big g, List.length_append]
      have := ih (n := n / 16) (by rw [Nat.div_lt_iff_lt_mul (by decide)]; rw [Nat.pow_succ] at h; exact h)
      simp only [List.length_cons, List.length_nil]; omega
theorem hexD_pad : ∀ (k n : Nat), n < 16 ^ (k + 1) → List.replicate (k + 1 - (hexD n).length) 48 ++ hexD n = hexK (k + 1) n
  | 0, n, h => by
    have h : n < 16 := by simpa using h
    rw [hexD_small h, hexK_succ]
    show _ = [] ++ [hexc (n % 16)]
    rw [Nat.mod_eq_of_lt h]; rfl
  | k + 1, n, h => by
    rw [hexK_succ]
    by_cases g : n < 16
    · rw [hexD_small g, ← hexD_pad k (n / 16) (by rw [Nat.div_eq_of_lt g]; exact Nat.pow_pos (by decide)), Nat.div_eq_of_lt g, hexD_small (by decide), Nat.mod_eq_of_lt g]
      show List.replicate (k + 1) 48 ++ [hexc n] = List.replicate k 48 ++ [48] ++ [hexc n]
      rw [List.replicate_succ']
    · rw [hexD_big g, ← hexD_pad k (n / 16) (by rw [Nat.div_lt_iff_lt_mul (by decide)]; rw [Nat.pow_succ] at h; exact h), List.length_append]
      show List.replicate (k + 1 + 1 - ((hexD (n / 16)).length + 1)) 48 ++ _ = _
      rw [show k + 1 + 1 - ((hexD (n / 16)).length + 1) = k + 1 - (hexD (n / 16)).length by omega, List.append_assoc]
theorem hex8_pad {w : Nat} (h : w < 4294967296) : List.replicate (8 - (hexD w).length) 48 ++ hexD w = hex8 w := hexD_pad 7 w h
theorem dig_tab : ∀ d < 16, (bytesI (tx [48, 49, 50, 51, 52, 53, 54, 55, 56, 57, 97, 98, 99, 100, 101, 102, 103, 104, 105, 106, 107, 108, 109, 110, 111, 112, 113, 114, 115, 116, 117, 118, 119, 120, 121, 122])).getD d 0 = ((hexc d).toNat : Int) := by decide
end Go.Sy
