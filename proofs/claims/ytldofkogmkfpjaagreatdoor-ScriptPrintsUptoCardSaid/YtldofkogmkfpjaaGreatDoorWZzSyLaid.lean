/-
  What the listed variables give the walks of layer 29.
-/
import Derived.Test.YtldofkogmkfpjaaGreatDoorWSyLaidE
import Derived.Test.YtldofkogmkfpjaaGreatDoorWZzSyTy
import Derived.Test.YtldofkogmkfpjaaGreatDoorRows
namespace Go.Proofs.YtldofkogmkfpjaaGreatDoor
open Go Go.Sy Go.Ev
set_option maxRecDepth 100000
theorem g_pow10 : Tryz.prog.globalNamed "internal/strconv.uint64pow10" = some 2 := by kernel_rfl
theorem t_pow10 : (Tryz.prog.globals[2]?).map (·.type) = some 246 := by kernel_rfl
theorem tab_pow10 {W : World} {laid : List (String × DataW Unit)} (hf : laid.filter (fun x => x.1 == "internal/strconv.uint64pow10") = [("internal/strconv.uint64pow10", Lib.tabData .u64 Lib.pow10Tab)]) (h : laidMetH Tryz.prog laid W) : Lib.TabIs Tryz.prog W "internal/strconv.uint64pow10" .u64 Lib.pow10Tab :=
  laid_tab h _ .u64 Lib.pow10Tab hf g_pow10 t_pow10 Tryz.underlying246 Tryz.underlying59 (by kernel_rfl) (by kernel_rfl)
theorem g_ErrSyntax : Tryz.prog.globalNamed "strconv.ErrSyntax" = some 3 := by kernel_rfl
theorem t_ErrSyntax : (Tryz.prog.globals[3]?).map (·.type) = some 100 := by kernel_rfl
theorem g_ErrRange : Tryz.prog.globalNamed "strconv.ErrRange" = some 4 := by kernel_rfl
theorem t_ErrRange : (Tryz.prog.globals[4]?).map (·.type) = some 100 := by kernel_rfl
theorem wf_script {W : World} (h : laidMetH Tryz.prog Rows.scriptPrintsUptoRow.laid W) : Ev.Wf cfg (memOf W) :=
  wf_memOf W (fun g flat e => by
    by_cases hg3 : g = 3
    · subst hg3
      have e : some (denE [.err]) = some flat := e
      cases e
      obtain ⟨v, hc, hv⟩ := laid_err h "strconv.ErrSyntax" "*errors.errorString" (.ptr (.agg [.lit (.string [105, 110, 118, 97, 108, 105, 100, 32, 115, 121, 110, 116, 97, 120])])) (by kernel_rfl) (by kernel_rfl) g_ErrSyntax t_ErrSyntax Tryz.underlying100
      exact rep_gerr hc hv
    by_cases hg4 : g = 4
    · subst hg4
      have e : some (denE [.err]) = some flat := e
      cases e
      obtain ⟨v, hc, hv⟩ := laid_err h "strconv.ErrRange" "*errors.errorString" (.ptr (.agg [.lit (.string [118, 97, 108, 117, 101, 32, 111, 117, 116, 32, 111, 102, 32, 114, 97, 110, 103, 101])])) (by kernel_rfl) (by kernel_rfl) g_ErrRange t_ErrRange Tryz.underlying100
      exact rep_gerr hc hv
    · have e2 : glob g = none := by
        unfold glob
        split
        · exact absurd rfl hg3
        · exact absurd rfl hg4
        · rfl
      have e : (glob g).map denE = some flat := e
      rw [e2] at e; cases e) fun g vs e => by
    by_cases hg : g = 2
    · subst hg
      have e : some ((Lib.pow10Tab.map fun z => Value.int .u64 z).toArray) = some vs := e
      cases e
      exact tab_fix (tab_pow10 (laid := Rows.scriptPrintsUptoRow.laid) (by kernel_rfl) h) g_pow10 (by decide)
    · have e2 : fixv g = none := by
        unfold fixv
        split
        · exact absurd rfl hg
        · rfl
      have e : fixv g = some vs := e
      rw [e2] at e; cases e
end Go.Proofs.YtldofkogmkfpjaaGreatDoor
