/-
  IsoSame.
-/
import Derived.Test.YtldofkogmkfpjaaDoorIdSyIsoAns
namespace Go.Proofs.YtldofkogmkfpjaaDoor
open Go Go.Ev Go.Sy
set_option linter.unusedSimpArgs false
set_option linter.unusedVariables false
set_option maxRecDepth 10000
set_option maxHeartbeats 4000000
/-! ### epactlaw25.IsoSame -/
noncomputable def isosame_e : Ev' := ⟨Tryd.prog, glob, Γof [(46, c_iprint), (44, c_iparse), (45, c_ianswers)]⟩
theorem isosame_g : Gd cfg isosame_e := gd (env_cons c_iprint_ok (env_cons c_iparse_ok (env_cons c_ianswers_ok (env_nil _))))
noncomputable def isosame_f : FnD := ⟨16, Tryd.f16, noSh, Tryd.f16.resultTypes.toList⟩
theorem isosame_ent (h : Hd) (s : ByteArray) : isosame_f.ent isosame_e [] h [vS s] [] = let v1 : Int := if secOk (parS s.data.toList) (parA s.data.toList) = true then if inR (parN s.data.toList) = true then (0 : Int) else (2 : Int) else (1 : Int); bif decide (s.size ≤ (9223372036854775700 : Nat)) then bif !decide (parE s.data.toList = (0 : Int)) then ret (vB (decide (parN s.data.toList = (0 : Int)) && (decide (parS s.data.toList = (0 : Int)) && (decide (parA s.data.toList = (0 : Int)) && true)))) else bif decide (v1 = (0 : Int)) then ret (vB (eqB (if (secOk (parS s.data.toList) (parA s.data.toList) && inR (parN s.data.toList)) = true then tx (isoL (labV (parN s.data.toList) (parS s.data.toList) (parA s.data.toList))) else tx []) s)) else ret (vB false) else none := by kernel_rfl
theorem isosame_run (s : ByteArray) (hp : s.size ≤ 9223372036854775600) : ∃ fu, isosame_f.run isosame_e [] fu [vS s] [] = some ⟨vB true, []⟩ := by
  refine ⟨0, ?_⟩
  rw [FnD.run, isosame_ent]
  dsimp only
  obtain ⟨l, rfl, hl⟩ := tx_get s
  simp only [tx_toList, tx_size] at *
  refine condT (by omega) ?_
  by_cases hE : parE l = 0
  · obtain ⟨h1, h2, h3⟩ := par_same hE
    refine condN (by rw [Bool.not_eq_false', decide_eq_true_eq]; exact hE) ?_
    rw [h1, h2, h3]
    refine condT rfl (retBB ?_)
    rw [if_pos (by rfl), eqB_tx, decide_eq_true rfl]
  · refine condB (by rw [Bool.not_eq_true', decide_eq_false_iff_not]; exact hE) (retBB ?_)
    unfold parN parS parA
    rw [if_neg hE, if_neg hE, if_neg hE]; rfl
theorem isosame_ok (s : ByteArray) (hp : s.size ≤ 9223372036854775600) : FnOk cfg 16 ([vS s].map SV.den) (vB true : SV).den := by
  obtain ⟨nn, h⟩ := isosame_run s hp
  exact FnD.ok isosame_g isosame_f mixed Tryd.func16 rfl rfl rfl rfl rfl rfl h
noncomputable def c_isosame : SpecF := fun args _ K => match args with
  | [.one (.c (.str s))] => bif decide (s.size ≤ 9223372036854775600) then K (vB true) [] else none
  | _ => none
theorem c_isosame_ok : SpecOk cfg 16 c_isosame := by
  intro args bx K out h
  unfold c_isosame at h
  split at h
  · obtain ⟨hp, h⟩ := bif_some h
    exact ⟨_, _, h, .inl (isosame_ok _ (of_decide_eq_true hp) _), by simp [isTupS]⟩
  · cases h
end Go.Proofs.YtldofkogmkfpjaaDoor
