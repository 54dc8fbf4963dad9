/-
  What the listed variables give the walks.
-/
import Derived.Test.YtldofkogmkfpjaaDoorSyB
import Derived.Test.YtldofkogmkfpjaaDoorDeSyTy
import Derived.Test.YtldofkogmkfpjaaDoorRows
namespace Go.Proofs.YtldofkogmkfpjaaDoor
open Go Go.Sy Go.Ev
set_option maxRecDepth 100000
theorem g_pow10 : Tryd.prog.globalNamed "internal/strconv.uint64pow10" = some 2 := by kernel_rfl
theorem t_pow10 : (Tryd.prog.globals[2]?).map (·.type) = some 217 := by kernel_rfl
theorem tab_pow10 {W : World} {laid : List (String × DataW Unit)} (hf : laid.filter (fun x => x.1 == "internal/strconv.uint64pow10") = [("internal/strconv.uint64pow10", Lib.tabData .u64 Lib.pow10Tab)]) (h : laidMetH Tryd.prog laid W) : Lib.TabIs Tryd.prog W "internal/strconv.uint64pow10" .u64 Lib.pow10Tab :=
  laid_tab h _ .u64 Lib.pow10Tab hf g_pow10 t_pow10 Tryd.underlying217 Tryd.underlying39 (by kernel_rfl) (by kernel_rfl)
theorem wf_dec {W : World} (h : laidMetH Tryd.prog Rows.decPrintsRow.laid W) : Ev.Wf cfg (memOf W) :=
  wf_memOf W (fun g flat e => by cases e) fun g vs e => by
    match g, e with
    | 2, e =>
      have e : some ((Lib.pow10Tab.map fun z => Value.int .u64 z).toArray) = some vs := e
      cases e
      exact tab_fix (tab_pow10 (laid := Rows.decPrintsRow.laid) (by kernel_rfl) h) g_pow10 (by decide)
    | 0, e => cases e
    | 1, e => cases e
    | n + 3, e => cases e
end Go.Proofs.YtldofkogmkfpjaaDoor
