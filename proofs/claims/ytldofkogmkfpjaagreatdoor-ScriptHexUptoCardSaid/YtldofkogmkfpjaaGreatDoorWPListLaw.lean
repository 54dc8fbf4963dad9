/-
  Layer 11 (list), plainly: what is printed is read again.
-/
import Derived.Test.YtldofkogmkfpjaaGreatDoorWPListD
namespace Go.Sy
open Go.Ev Go.Sy.Sh
set_option linter.unusedVariables false
set_option linter.unusedSimpArgs false

/-! ### lines in order -/

end Go.Sy
