/-
  The contracts of the document's whole numbers (epactref01), second part.
-/
import Derived.Test.YtldofkogmkfpjaaGreatDoorWZzSyRef01
import Derived.Test.YtldofkogmkfpjaaGreatDoorWPBig
import Derived.Test.YtldofkogmkfpjaaGreatDoorWPLex
namespace Go.Proofs.YtldofkogmkfpjaaGreatDoor
open Go Go.Ev Go.Sy
set_option linter.unusedSimpArgs false
set_option linter.unusedVariables false
set_option maxRecDepth 10000
set_option maxHeartbeats 4000000

/-! ### epactref01.Int -/
/-! ### epactref01.Pow2 -/
/-! ### epactref01.Of -/
/-! ### epactref01.Cmp -/
/-! ### epactref01.word -/
/-! ### epactref01.Wide -/
/-! ### epactref01.digit -/
/-! ### epactref01.Div -/
/-! ### epactref04.Text -/
/-! ### epactref04.Number -/
end Go.Proofs.YtldofkogmkfpjaaGreatDoor
