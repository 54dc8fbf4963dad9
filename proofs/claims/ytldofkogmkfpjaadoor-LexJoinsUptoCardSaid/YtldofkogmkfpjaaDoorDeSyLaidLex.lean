/-
  What the listed variables give the walks of layer 10.
-/
import Derived.Test.YtldofkogmkfpjaaDoorDeSyLaid
namespace Go.Proofs.YtldofkogmkfpjaaDoor
open Go Go.Sy Go.Ev
set_option maxRecDepth 100000
theorem wf_lex {W : World} (h : laidMetH Tryd.prog Rows.lexScansRow.laid W) : Ev.Wf cfg (memOf W) :=
  wf_memOf W (fun g flat e => by cases e) fun g vs e => by
    match g, e with
    | 2, e =>
      have e : some ((Lib.pow10Tab.map fun z => Value.int .u64 z).toArray) = some vs := e
      cases e
      exact tab_fix (tab_pow10 (laid := Rows.lexScansRow.laid) (by kernel_rfl) h) g_pow10 (by decide)
    | 0, e => cases e
    | 1, e => cases e
    | n + 3, e => cases e
end Go.Proofs.YtldofkogmkfpjaaDoor
