/-
  What the listed variables give the walks of layer 25.
-/
import Derived.Test.YtldofkogmkfpjaaGreatDoorSyB
import Derived.Test.YtldofkogmkfpjaaGreatDoorIzSyTy
import Derived.Test.YtldofkogmkfpjaaGreatDoorRows
namespace Go.Proofs.YtldofkogmkfpjaaGreatDoor
open Go Go.Sy Go.Ev
set_option maxRecDepth 100000
theorem g_pow10 : Tryz.prog.globalNamed "internal/strconv.uint64pow10" = some 2 := by kernel_rfl
theorem t_pow10 : (Tryz.prog.globals[2]?).map (·.type) = some 246 := by kernel_rfl
theorem tab_pow10 {W : World} {laid : List (String × DataW Unit)} (hf : laid.filter (fun x => x.1 == "internal/strconv.uint64pow10") = [("internal/strconv.uint64pow10", Lib.tabData .u64 Lib.pow10Tab)]) (h : laidMetH Tryz.prog laid W) : Lib.TabIs Tryz.prog W "internal/strconv.uint64pow10" .u64 Lib.pow10Tab :=
  laid_tab h _ .u64 Lib.pow10Tab hf g_pow10 t_pow10 Tryz.underlying246 Tryz.underlying59 (by kernel_rfl) (by kernel_rfl)
theorem g_lens : Tryz.prog.globalNamed "epact/greg.lengths" = some 0 := by kernel_rfl
theorem t_lens : (Tryz.prog.globals[0]?).map (·.type) = some 186 := by kernel_rfl
def lensTab : List Int := [31, 28, 31, 30, 31, 30, 31, 31, 30, 31, 30, 31]
theorem tab_lens {W : World} {laid : List (String × DataW Unit)} (hf : laid.filter (fun x => x.1 == "epact/greg.lengths") = [("epact/greg.lengths", Lib.tabData .i64 lensTab)]) (h : laidMetH Tryz.prog laid W) : Lib.TabIs Tryz.prog W "epact/greg.lengths" .i64 lensTab :=
  laid_tab h _ .i64 lensTab hf g_lens t_lens Tryz.underlying186 Tryz.underlying3 (by kernel_rfl) (by kernel_rfl)
theorem wf_iso {W : World} (h : laidMetH Tryz.prog Rows.isoPrintsRow.laid W) : Ev.Wf cfg (memOf W) :=
  wf_memOf W (fun g flat e => by
    by_cases hg : g = 0
    · subst hg
      have e : some (denE [.arr .i64 12 lensTab]) = some flat := e
      cases e
      exact rep_var (l := lensTab) (tab_glob (tab_lens (laid := Rows.isoPrintsRow.laid) (by kernel_rfl) h) g_lens)
    · have e2 : glob g = none := by
        unfold glob
        split
        · exact absurd rfl hg
        · rfl
      have e : (glob g).map denE = some flat := e
      rw [e2] at e; cases e) fun g vs e => by
    by_cases hg : g = 2
    · subst hg
      have e : some ((Lib.pow10Tab.map fun z => Value.int .u64 z).toArray) = some vs := e
      cases e
      exact tab_fix (tab_pow10 (laid := Rows.isoPrintsRow.laid) (by kernel_rfl) h) g_pow10 (by decide)
    · have e2 : fixv g = none := by
        unfold fixv
        split
        · exact absurd rfl hg
        · rfl
      have e : fixv g = some vs := e
      rw [e2] at e; cases e
end Go.Proofs.YtldofkogmkfpjaaGreatDoor
