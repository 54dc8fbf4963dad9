/-
  The contracts of layer 29's statements: same, answers.
-/
import Derived.Test.YtldofkogmkfpjaaGreatDoorWZzSyScript3
namespace Go.Proofs.YtldofkogmkfpjaaGreatDoor
open Go Go.Ev Go.Sy
set_option linter.unusedSimpArgs false
set_option linter.unusedVariables false
set_option maxRecDepth 10000
set_option maxHeartbeats 4000000
/-! ### epactref28.SameRequest -/
/-! ### epactlaw29.same -/
/-! ### epactlaw29.answers -/
noncomputable def sanw_e : Ev' := ⟨Tryz.prog, glob, Γof [(85, c_wof), (34, c_sprint), (35, c_sparse), (41, c_shex)]⟩
theorem sanw_g : Gd cfg sanw_e := gd (env_cons c_wof_ok (env_cons c_sprint_ok (env_cons c_sparse_ok (env_cons c_shex_ok (env_nil _)))))
noncomputable def sanw_f : FnD := ⟨36, Tryz.f36, noSh, Tryz.f36.resultTypes.toList, 0⟩
theorem sanw_ent (h : Hd)  : sanw_f.ent sanw_e [] h [] [] = ret (vB true) := by kernel_rfl
theorem sanw_run  : ∃ fu, sanw_f.run sanw_e [] fu [] [] = some ⟨vB true, []⟩ := by
  refine ⟨0, ?_⟩
  rw [FnD.run, sanw_ent]
theorem sanw_ok  : FnOk cfg 36 ([].map SV.den) (vB true : SV).den := by
  obtain ⟨nn, h⟩ := sanw_run 
  exact FnD.ok sanw_g sanw_f mixed Tryz.func36 rfl rfl rfl rfl rfl rfl h
noncomputable def c_sanw : SpecF := fun args _ K => match args with
  | [] => K (vB true) []
  | _ => none
theorem c_sanw_ok : SpecOk cfg 36 c_sanw := by
  intro args bx K out h
  unfold c_sanw at h
  split at h
  · exact ⟨_, _, h, .inl (sanw_ok  _), by simp [isTupS]⟩
  · cases h
end Go.Proofs.YtldofkogmkfpjaaGreatDoor
