/-
  Lines, joined and taken apart again.
-/
import Derived.Test.YtldofkogmkfpjaaGreatDoorWPLexLaw
namespace Go.Sy
set_option linter.unusedVariables false
end Go.Sy
