/-
  Layer 11 (list), plainly.
-/
import Derived.Test.YtldofkogmkfpjaaGreatDoorWPLexLaw
import Derived.Test.YtldofkogmkfpjaaGreatDoorWSyJoin
namespace Go.Sy
open Go.Ev
set_option linter.unusedVariables false

/-- An entry of a list of rows: when, and how much. -/
def atR (r : List D) : Int := (r.getD 0 (.i 0)).toI
def ofR (r : List D) : Int := (r.getD 1 (.i 0)).toI
def lastR (L : List (List D)) : List D := L.getD (L.length - 1) []
/-- The last entry's offset is one that may be. -/
def lastOk (L : List (List D)) : Prop := L = [] ∨ (0 ≤ ofR (lastR L) ∧ ofR (lastR L) ≤ 1000)
instance (L : List (List D)) : Decidable (lastOk L) := by unfold lastOk; exact inferInstance
/-- All of a table, in order, as texts. -/
def numR (u x : Int) (L : List (List D)) : List (List D) := [[.s (tx (Lib.itoa u))], [.s (tx (Lib.itoa x))]] ++ L.flatMap fun r => [[.s (tx (Lib.itoa (atR r)))], [.s (tx (Lib.itoa (ofR r)))]]
end Go.Sy
