/-
  Layer 11 (list), plainly: how a file is read; what is printed.
-/
import Derived.Test.YtldofkogmkfpjaaGreatDoorWPList
import Derived.Test.YtldofkogmkfpjaaGreatDoorWPLexJ
import Derived.Test.YtldofkogmkfpjaaGreatDoorWPSha
import Derived.Test.YtldofkogmkfpjaaGreatDoorWEvC
namespace Go.Sy
open Go.Ev Go.Sy.Sh
set_option linter.unusedVariables false

/-- A file that is read, so far. -/
structure RS where
  u : Int
  x : Int
  w : List Int
  m : List (Int × Int)
  L : List (List D)
/-! ### what is printed -/

def hexc (d : Nat) : UInt8 := UInt8.ofNat (if d < 10 then 48 + d else 87 + d)
end Go.Sy
