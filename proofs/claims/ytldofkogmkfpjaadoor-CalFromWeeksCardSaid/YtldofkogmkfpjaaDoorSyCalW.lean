/-
  The walks of layer 8: from the contracts to the world that a claim speaks of.
-/
import Derived.Test.YtldofkogmkfpjaaDoorSyCalL
import Derived.Test.YtldofkogmkfpjaaDoorSyLaid
namespace Go.Proofs.YtldofkogmkfpjaaDoor
open Go Go.Sy Go.RowKit
set_option linter.unusedVariables false
theorem i64_wf {n : Int} (h : (Lit.int .i64 n).wf = true) : -9223372036854775808 ≤ n ∧ n ≤ 9223372036854775807 := by
  simp [Lit.wf, IntKind.min, IntKind.max, IntKind.signed, IntKind.bits] at h
  omega
theorem calWeekdays_walk (a0 : Int) (w0 : (Lit.int .i64 a0).wf = true) (W : World) (hL : laidMetH Tryd.prog laidL W) : Calls Tryd.prog 3 #[.int .i64 a0] W fun e W' => e = .returned (.bool true) ∧ Below W.heap.size W W' :=
  law_calls (C := cfg) (wf_laid hL) (lwd_ok a0 (i64_wf w0).1) rfl fun i h1 h2 => by
    match i, h1 with
    | 0, _ => exact rep_lit _
theorem calYears_walk (a0 : Int) (w0 : (Lit.int .i64 a0).wf = true) (W : World) (hL : laidMetH Tryd.prog laidL W) : Calls Tryd.prog 4 #[.int .i64 a0] W fun e W' => e = .returned (.bool true) ∧ Below W.heap.size W W' :=
  law_calls (C := cfg) (wf_laid hL) (lyr_ok a0) rfl fun i h1 h2 => by
    match i, h1 with
    | 0, _ => exact rep_lit _
theorem calFromYears_walk (a0 : Int) (w0 : (Lit.int .i64 a0).wf = true) (a1 : Int) (w1 : (Lit.int .i64 a1).wf = true) (W : World) (hL : laidMetH Tryd.prog laidL W) : Calls Tryd.prog 5 #[.int .i64 a0, .int .i64 a1] W fun e W' => e = .returned (.bool true) ∧ Below W.heap.size W W' :=
  law_calls (C := cfg) (wf_laid hL) (lfy_ok a0 a1) rfl fun i h1 h2 => by
    match i, h1 with
    | 0, _ => exact rep_lit _
    | 1, _ => exact rep_lit _
theorem calWeeks_walk (a0 : Int) (w0 : (Lit.int .i64 a0).wf = true) (W : World) (hL : laidMetH Tryd.prog laidL W) : Calls Tryd.prog 6 #[.int .i64 a0] W fun e W' => e = .returned (.bool true) ∧ Below W.heap.size W W' :=
  law_calls (C := cfg) (wf_laid hL) (lwk_ok a0) rfl fun i h1 h2 => by
    match i, h1 with
    | 0, _ => exact rep_lit _
theorem calFromWeeks_walk (a0 : Int) (w0 : (Lit.int .i64 a0).wf = true) (a1 : Int) (w1 : (Lit.int .i64 a1).wf = true) (a2 : Int) (w2 : (Lit.int .i64 a2).wf = true) (W : World) (hL : laidMetH Tryd.prog laidL W) : Calls Tryd.prog 7 #[.int .i64 a0, .int .i64 a1, .int .i64 a2] W fun e W' => e = .returned (.bool true) ∧ Below W.heap.size W W' :=
  law_calls (C := cfg) (wf_laid hL) (lfw_ok a0 a1 a2) rfl fun i h1 h2 => by
    match i, h1 with
    | 0, _ => exact rep_lit _
    | 1, _ => exact rep_lit _
    | 2, _ => exact rep_lit _
end Go.Proofs.YtldofkogmkfpjaaDoor
