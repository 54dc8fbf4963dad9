/-
  Layer 29: the requests that a claim opens can be told.
-/
import Derived.Test.YtldofkogmkfpjaaGreatDoorWSyReq
import Derived.Test.YtldofkogmkfpjaaGreatDoorWSyB
import Derived.Test.YtldofkogmkfpjaaGreatDoorWPScrE
namespace Go.Sy
open Go Go.Ev
set_option linter.unusedVariables false
set_option linter.unusedSimpArgs false
theorem bytes_ok {l : List Int} (h : ∀ n ∈ l, (Lit.int .u8 n).wf = true) : bytesOk l := by
  unfold bytesOk
  rw [List.all_eq_true]
  intro x hx
  have := wf_u8 (h x hx)
  rw [Bool.and_eq_true, decide_eq_true_eq, decide_eq_true_eq]
  exact this
end Go.Sy
