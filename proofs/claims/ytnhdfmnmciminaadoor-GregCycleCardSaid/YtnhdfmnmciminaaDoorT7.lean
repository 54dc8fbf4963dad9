/-
  The walks of the laws of layer 5 about dates, over the listed variable's datum.
-/
import Derived.Test.YtnhdfmnmciminaaDoorT3
import Derived.Test.YtnhdfmnmciminaaDoorT6
namespace Go.Proofs.YtnhdfmnmciminaaDoor
open Go Go.Ev
open Go.ChangeShapes Go.WideShapes Go.ChangeAt Go.WideMaps Go.WideElems Go.RowKit
theorem gregDates_walk (n : Int) (W : World) (hL : laidMetH Tryd.prog laidL W) : Calls Tryd.prog 5 #[.int .i64 n] W fun e W' => e = .returned (.bool true) ∧ Below W.heap.size W W' :=
  law_calls (C := cfg) (wf_lens (of_laid hL)) (ldates_ok n) rfl fun i h1 h2 => by
    match i, h1 with
    | 0, _ => exact rep_lit _
theorem gregNext_walk (n : Int) (W : World) (hL : laidMetH Tryd.prog laidL W) : Calls Tryd.prog 6 #[.int .i64 n] W fun e W' => e = .returned (.bool true) ∧ Below W.heap.size W W' :=
  law_calls (C := cfg) (wf_lens (of_laid hL)) (lnext_ok n) rfl fun i h1 h2 => by
    match i, h1 with
    | 0, _ => exact rep_lit _
theorem gregCycle_walk (y m d : Int) (W : World) (hL : laidMetH Tryd.prog laidL W) : Calls Tryd.prog 7 #[.agg #[.int .i64 y, .int .i64 m, .int .i64 d]] W fun e W' => e = .returned (.bool true) ∧ Below W.heap.size W W' :=
  law_calls (C := cfg) (wf_lens (of_laid hL)) (lcycle_ok y m d) rfl fun i h1 h2 => by
    match i, h1 with
    | 0, _ => exact rep_lits [.int .i64 y, .int .i64 m, .int .i64 d]
end Go.Proofs.YtnhdfmnmciminaaDoor
