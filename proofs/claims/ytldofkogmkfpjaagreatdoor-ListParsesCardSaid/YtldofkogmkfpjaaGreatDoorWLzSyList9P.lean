/-
  The contract of layer 11's statement ListParses.
-/
import Derived.Test.YtldofkogmkfpjaaGreatDoorWLzSyR10P
import Derived.Test.YtldofkogmkfpjaaGreatDoorWLzSyLawC
namespace Go.Proofs.YtldofkogmkfpjaaGreatDoor
open Go Go.Ev Go.Sy
set_option linter.unusedSimpArgs false
set_option linter.unusedVariables false
set_option maxRecDepth 10000
set_option maxHeartbeats 4000000
open Go.Sy.Sh
/-! ### epactlaw11.ListParses -/
noncomputable def lk8_e : Ev' := ⟨Tryz.prog, glob, Γof [(28, c_lprs), (32, c_rpz), (31, c_rsame), (25, c_lans)]⟩
theorem lk8_g : Gd cfg lk8_e := gd (env_cons c_lprs_ok (env_cons c_rpz_ok (env_cons c_rsame_ok (env_cons c_lans_ok (env_nil _)))))
noncomputable def lk8_f : FnD := ⟨8, Tryz.f8, noSh, Tryz.f8.resultTypes.toList, 0⟩
theorem lk8_ent (h : Hd) (s : ByteArray) : lk8_f.ent lk8_e [] h [vS s] [] = let v1 : List (List D) := (parT s.data.toList).fst.snd.snd; let v2 : Nat := v1.length; let v3 : Int := (parT s.data.toList).fst.snd.fst; bif decide ((parT s.data.toList).snd.fst = (parT s.data.toList).snd.fst) then bif decide ((parT s.data.toList).snd.snd = (parT s.data.toList).snd.snd) then bif decide (v2 ≤ (9000000000000000000 : Nat)) then ret (vB (sameP (parT s.data.toList).fst.fst v3 v1 (parT s.data.toList).fst.fst v3 v1)) else none else ret (vB false) else ret (vB false) := by kernel_rfl
theorem lk8_run (s : ByteArray) : ∃ fu, lk8_f.run lk8_e [] fu [vS s] [] = some ⟨vB true, []⟩ := by
  refine ⟨0, ?_⟩
  rw [FnD.run, lk8_ent]
  have hl := parT_len s.data.toList
  dsimp only
  refine condT rfl (condT rfl (condT (by omega) ?_))
  rw [sameP_self]
theorem lk8_ok (s : ByteArray) : FnOk cfg 8 ([vS s].map SV.den) (vB true : SV).den := by
  obtain ⟨nn, h⟩ := lk8_run s
  exact FnD.ok lk8_g lk8_f mixed Tryz.func8 rfl rfl rfl rfl rfl rfl h
end Go.Proofs.YtldofkogmkfpjaaGreatDoor
