/-
  What the listed variables give the walks of layer 11.
-/
import Derived.Test.YtldofkogmkfpjaaGreatDoorWSyB
import Derived.Test.YtldofkogmkfpjaaGreatDoorWSyPairs
import Derived.Test.YtldofkogmkfpjaaGreatDoorWLzSyTy
import Derived.Test.YtldofkogmkfpjaaGreatDoorRows
namespace Go.Proofs.YtldofkogmkfpjaaGreatDoor
open Go Go.Sy Go.Ev
set_option maxRecDepth 100000
theorem g_pow10 : Tryz.prog.globalNamed "internal/strconv.uint64pow10" = some 2 := by kernel_rfl
theorem t_pow10 : (Tryz.prog.globals[2]?).map (·.type) = some 246 := by kernel_rfl
theorem tab_pow10 {W : World} {laid : List (String × DataW Unit)} (hf : laid.filter (fun x => x.1 == "internal/strconv.uint64pow10") = [("internal/strconv.uint64pow10", Lib.tabData .u64 Lib.pow10Tab)]) (h : laidMetH Tryz.prog laid W) : Lib.TabIs Tryz.prog W "internal/strconv.uint64pow10" .u64 Lib.pow10Tab :=
  laid_tab h _ .u64 Lib.pow10Tab hf g_pow10 t_pow10 Tryz.underlying246 Tryz.underlying59 (by kernel_rfl) (by kernel_rfl)
theorem g_db64 : Tryz.prog.globalNamed "math/bits.deBruijn64tab" = some 8 := by kernel_rfl
theorem t_db64 : (Tryz.prog.globals[8]?).map (·.type) = some 286 := by kernel_rfl
def db64Tab : List Int := [0,1,56,2,57,49,28,3,61,58,42,50,38,29,17,4,62,47,59,36,45,43,51,22,53,39,33,30,24,18,12,5,63,55,48,27,60,41,37,16,46,35,44,21,52,32,23,11,54,26,40,15,34,20,31,10,25,14,19,9,13,8,7,6]
theorem tab_db64 {W : World} {laid : List (String × DataW Unit)} (hf : laid.filter (fun x => x.1 == "math/bits.deBruijn64tab") = [("math/bits.deBruijn64tab", Lib.tabData .u8 db64Tab)]) (h : laidMetH Tryz.prog laid W) : Lib.TabIs Tryz.prog W "math/bits.deBruijn64tab" .u8 db64Tab :=
  laid_tab h _ .u8 db64Tab hf g_db64 t_db64 Tryz.underlying286 Tryz.underlying5 (by kernel_rfl) (by kernel_rfl)
theorem wf_list {W : World} (h : laidMetH Tryz.prog Rows.listChecksRow.laid W) : Ev.Wf cfg (memOf W) :=
  wf_memOf W (fun g flat e => by
    by_cases hg : g = 8
    · subst hg
      have e : some (denE [.arr .u8 64 db64Tab]) = some flat := e
      cases e
      exact rep_var (l := db64Tab) (tab_glob (tab_db64 (laid := Rows.listChecksRow.laid) (by kernel_rfl) h) g_db64)
    · have e2 : glob g = none := by
        unfold glob
        split
        · exact absurd rfl hg
        · rfl
      have e : (glob g).map denE = some flat := e
      rw [e2] at e; cases e) fun g vs e => by
    by_cases hg : g = 2
    · subst hg
      have e : some ((Lib.pow10Tab.map fun z => Value.int .u64 z).toArray) = some vs := e
      cases e
      exact tab_fix (tab_pow10 (laid := Rows.listChecksRow.laid) (by kernel_rfl) h) g_pow10 (by decide)
    · have e2 : fixv g = none := by
        unfold fixv
        split
        · exact absurd rfl hg
        · rfl
      have e : fixv g = some vs := e
      rw [e2] at e; cases e
end Go.Proofs.YtldofkogmkfpjaaGreatDoor
