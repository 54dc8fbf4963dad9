/-
  The contracts of the laws of layer 25: what a program that does nothing does not answer.
-/
import Derived.Test.YtldofkogmkfpjaaGreatDoorIzSyIsoB
namespace Go.Proofs.YtldofkogmkfpjaaGreatDoor
open Go Go.Ev Go.Sy
set_option linter.unusedSimpArgs false
set_option linter.unusedVariables false
set_option maxRecDepth 10000
set_option maxHeartbeats 4000000
/-! ### epactlaw25.answers -/
noncomputable def ianswers_e : Ev' := ⟨Tryz.prog, glob, Γof [(17, c_iprint), (20, c_iparse)]⟩
theorem ianswers_g : Gd cfg ianswers_e := gd (env_cons c_iprint_ok (env_cons c_iparse_ok (env_nil _)))
noncomputable def ianswers_f : FnD := ⟨19, Tryz.f19, noSh, Tryz.f19.resultTypes.toList⟩
theorem ianswers_ent (h : Hd)  : ianswers_f.ent ianswers_e [] h [] [] = ret (vB true) := by kernel_rfl
theorem ianswers_run  : ∃ fu, ianswers_f.run ianswers_e [] fu [] [] = some ⟨vB true, []⟩ := by
  refine ⟨0, ?_⟩
  rw [FnD.run, ianswers_ent]
theorem ianswers_ok  : FnOk cfg 19 ([].map SV.den) (vB true : SV).den := by
  obtain ⟨nn, h⟩ := ianswers_run 
  exact FnD.ok ianswers_g ianswers_f mixed Tryz.func19 rfl rfl rfl rfl rfl rfl h
noncomputable def c_ianswers : SpecF := fun args _ K => match args with
  | [] => K (vB true) []
  | _ => none
theorem c_ianswers_ok : SpecOk cfg 19 c_ianswers := by
  intro args bx K out h
  unfold c_ianswers at h
  split at h
  · exact ⟨_, _, h, .inl (ianswers_ok  _), by simp [isTupS]⟩
  · cases h
end Go.Proofs.YtldofkogmkfpjaaGreatDoor
