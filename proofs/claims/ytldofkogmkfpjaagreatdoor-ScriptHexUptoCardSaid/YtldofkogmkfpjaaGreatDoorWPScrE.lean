/-
  Layer 29 (script), plainly: the program's reading and the document's are one.
-/
import Derived.Test.YtldofkogmkfpjaaGreatDoorWPScrD
import Derived.Test.YtldofkogmkfpjaaGreatDoorWPDecLaw
namespace Go.Sy
open Go.Ev
set_option linter.unusedVariables false
set_option linter.unusedSimpArgs false
set_option maxRecDepth 20000

/-! ### Atoi of what Itoa gives -/
/-! ### the words of a request -/
/-! ### what is read is a request's line -/
/-! ### texts -/
/-! ### what is read can be told -/
end Go.Sy
