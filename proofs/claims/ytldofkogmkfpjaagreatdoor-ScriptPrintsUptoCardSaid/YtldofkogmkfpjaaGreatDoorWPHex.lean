/-
  Numbers to the base 16, plainly.
-/
import Derived.Test.YtldofkogmkfpjaaGreatDoorWPListLaw
import Derived.Lib.Repeat
namespace Go.Sy
open Go.Ev
set_option linter.unusedVariables false

end Go.Sy
