/-
  Whole numbers as texts, and back: in plain words.
-/
import Derived.Test.YtldofkogmkfpjaaGreatDoorWPLex
namespace Go.Sy
set_option linter.unusedVariables false

theorem itoa_len {v : Int} (h : isI v) : (Lib.itoa v).length ≤ 41 := by
  unfold isI at h
  by_cases hv : v < 0
  · rw [itoa_neg hv, List.length_cons]
    have := dec_len (k := 39) (show (-v).toNat < 10 ^ 40 by omega)
    omega
  · rw [itoa_pos (by omega)]
    have := dec_len (k := 39) (show v.toNat < 10 ^ 40 by omega)
    omega
end Go.Sy
