/-
  The contracts of the document's whole numbers (epactref01).
-/
import Derived.Test.YtldofkogmkfpjaaGreatDoorWZzSyDec
import Derived.Test.YtldofkogmkfpjaaGreatDoorWPBig
namespace Go.Proofs.YtldofkogmkfpjaaGreatDoor
open Go Go.Ev Go.Sy
set_option linter.unusedSimpArgs false
set_option linter.unusedVariables false
set_option maxRecDepth 10000
set_option maxHeartbeats 4000000
/-! ### epactref01.trim -/
/-! ### epactref01.Word -/
/-! ### epactref01.cmp -/
/-! ### epactref01.add -/
/-! ### epactref01.sub -/
/-! ### epactref01.Neg -/
/-! ### epactref01.Add -/
/-! ### epactref01.Sub -/
/-! ### epactref01.Mul -/
end Go.Proofs.YtldofkogmkfpjaaGreatDoor
