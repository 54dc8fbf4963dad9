/-
  Layer 11 (list), plainly.
-/
import Derived.Test.YtldofkogmkfpjaaGreatDoorWPLexLaw
import Derived.Test.YtldofkogmkfpjaaGreatDoorWSyJoin
namespace Go.Sy
open Go.Ev
set_option linter.unusedVariables false

def ofR (r : List D) : Int := (r.getD 1 (.i 0)).toI
def lastR (L : List (List D)) : List D := L.getD (L.length - 1) []
/-- The last entry's offset is one that may be. -/
def lastOk (L : List (List D)) : Prop := L = [] ∨ (0 ≤ ofR (lastR L) ∧ ofR (lastR L) ≤ 1000)
instance (L : List (List D)) : Decidable (lastOk L) := by unfold lastOk; exact inferInstance
theorem itoa_len64 {v : Int} (h : isH v) : (Lib.itoa v).length ≤ 41 := itoa_len (by unfold isH at h; unfold isI; omega)
end Go.Sy
