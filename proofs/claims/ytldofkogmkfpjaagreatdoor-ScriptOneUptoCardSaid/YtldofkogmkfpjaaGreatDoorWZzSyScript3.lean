/-
  The contracts of the document's functions for layer 29 (epactref28).
-/
import Derived.Test.YtldofkogmkfpjaaGreatDoorWZzSyScript2
import Derived.Test.YtldofkogmkfpjaaGreatDoorWPScrE
namespace Go.Proofs.YtldofkogmkfpjaaGreatDoor
open Go Go.Ev Go.Sy
set_option linter.unusedSimpArgs false
set_option linter.unusedVariables false
set_option maxRecDepth 10000
set_option maxHeartbeats 4000000
/-! ### epactref28.Hex -/
/-! ### epactref28.flag -/
/-! ### epactref28.Number -/
/-! ### epactref28.Line -/
/-! ### epactref28.Print -/
/-! ### epactref28.words -/
/-! ### epactref01.Same -/
/-! ### epactref05.Small -/
/-! ### epactref28.small -/
/-! ### epactref28.data -/
/-! ### epactref28.ReadLine -/
/-! ### epactref28.Read -/
end Go.Proofs.YtldofkogmkfpjaaGreatDoor
