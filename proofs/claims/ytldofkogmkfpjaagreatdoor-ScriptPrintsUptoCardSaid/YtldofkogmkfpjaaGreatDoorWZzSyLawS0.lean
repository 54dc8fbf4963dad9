/-
  What the statements of layer 29 share.
-/
import Derived.Test.YtldofkogmkfpjaaGreatDoorWZzSyScript4
namespace Go.Proofs.YtldofkogmkfpjaaGreatDoor
open Go Go.Ev Go.Sy
set_option linter.unusedSimpArgs false
set_option linter.unusedVariables false
set_option maxRecDepth 10000
set_option maxHeartbeats 4000000
theorem eqB_self (s : ByteArray) : eqB s s = true := by unfold eqB; exact beq_self_eq_true _
theorem prn_len {L : List (List D)} (h : allR L) : L.length ≤ (prnQ L).length := by
  have := prn_i h (Nat.le_refl L.length)
  rwa [List.take_length] at this
end Go.Proofs.YtldofkogmkfpjaaGreatDoor
