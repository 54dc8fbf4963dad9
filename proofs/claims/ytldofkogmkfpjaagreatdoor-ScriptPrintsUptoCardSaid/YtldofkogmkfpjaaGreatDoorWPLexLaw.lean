/-
  A line of data, as it is written: two numbers, blanks between, blanks and a note behind.
-/
import Derived.Test.YtldofkogmkfpjaaGreatDoorWPDecLaw
namespace Go.Sy
set_option linter.unusedVariables false
end Go.Sy
