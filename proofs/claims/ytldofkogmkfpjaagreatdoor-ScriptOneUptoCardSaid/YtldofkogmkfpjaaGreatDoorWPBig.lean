/-
  Whole numbers by their digits to the base 65536, in plain words.
-/
import Derived.Test.YtldofkogmkfpjaaGreatDoorWPDec
namespace Go.Sy
set_option linter.unusedVariables false

def valD : List Int → Int
  | [] => 0
  | d :: l => d + 65536 * valD l
def bigD (n : Nat) : List Int := if h : n = 0 then [] else ((n % 65536 : Nat) : Int) :: bigD (n / 65536)
termination_by n
decreasing_by omega
def dgt (l : List Int) : Prop := ∀ d ∈ l, 0 ≤ d ∧ d < 65536
instance (l : List Int) : Decidable (dgt l) := inferInstanceAs (Decidable (∀ d ∈ l, 0 ≤ d ∧ d < 65536))
/-- The digits of a number, none too many. -/
def canon (l : List Int) : Prop := l = bigD (valD l).toNat
instance (l : List Int) : Decidable (canon l) := inferInstanceAs (Decidable (l = bigD (valD l).toNat))
def isBig (s : Bool) (l : List Int) : Prop := canon l ∧ (s = true → l ≠ [])
instance (s : Bool) (l : List Int) : Decidable (isBig s l) := inferInstanceAs (Decidable (canon l ∧ (s = true → l ≠ [])))
/-! ### which one is greater -/
/-! ### sums, digit by digit -/
/-! ### differences, digit by digit -/
/-! ### products -/
/-! ### small numbers -/
end Go.Sy
