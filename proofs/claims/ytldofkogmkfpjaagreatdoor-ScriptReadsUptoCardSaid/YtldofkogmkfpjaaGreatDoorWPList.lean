/-
  Layer 11 (list), plainly.
-/
import Derived.Test.YtldofkogmkfpjaaGreatDoorWPLexLaw
import Derived.Test.YtldofkogmkfpjaaGreatDoorWSyJoin
namespace Go.Sy
open Go.Ev
set_option linter.unusedVariables false

def atR (r : List D) : Int := (r.getD 0 (.i 0)).toI
def ofR (r : List D) : Int := (r.getD 1 (.i 0)).toI
def lastR (L : List (List D)) : List D := L.getD (L.length - 1) []
def lastOk (L : List (List D)) : Prop := L = [] ∨ (0 ≤ ofR (lastR L) ∧ ofR (lastR L) ≤ 1000)
instance (L : List (List D)) : Decidable (lastOk L) := by unfold lastOk; exact inferInstance
def numR (u x : Int) (L : List (List D)) : List (List D) := [[.s (tx (Lib.itoa u))], [.s (tx (Lib.itoa x))]] ++ L.flatMap fun r => [[.s (tx (Lib.itoa (atR r)))], [.s (tx (Lib.itoa (ofR r)))]]
theorem itoa_len64 {v : Int} (h : isH v) : (Lib.itoa v).length ≤ 41 := itoa_len (by unfold isH at h; unfold isI; omega)
end Go.Sy
