/-
  Layer 11 (list), plainly: what is printed is read again.
-/
import Derived.Test.YtldofkogmkfpjaaGreatDoorWPListD
namespace Go.Sy
open Go.Ev Go.Sy.Sh
set_option linter.unusedVariables false
set_option linter.unusedSimpArgs false

theorem hexc_all : ∀ d < 16, isHex (hexc d) = true ∧ isBl (hexc d) = false ∧ hexd (hexc d) = (d : Int) ∧ hexc d ≠ 10 := by decide
/-! ### lines in order -/

end Go.Sy
