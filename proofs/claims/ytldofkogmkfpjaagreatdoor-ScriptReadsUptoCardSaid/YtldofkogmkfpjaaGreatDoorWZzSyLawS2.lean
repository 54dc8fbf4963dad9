/-
  The contract of a statement of layer 29.
-/
import Derived.Test.YtldofkogmkfpjaaGreatDoorWZzSyLawS0
namespace Go.Proofs.YtldofkogmkfpjaaGreatDoor
open Go Go.Ev Go.Sy
set_option linter.unusedSimpArgs false
set_option linter.unusedVariables false
set_option maxRecDepth 10000
set_option maxHeartbeats 4000000
noncomputable def sl2_e : Ev' := ⟨Tryz.prog, glob, Γof [(35, c_sparse), (39, c_rread), (38, c_ssame), (36, c_sanw)]⟩
theorem sl2_g : Gd cfg sl2_e := gd (env_cons c_sparse_ok (env_cons c_rread_ok (env_cons c_ssame_ok (env_cons c_sanw_ok (env_nil _)))))
noncomputable def sl2_f : FnD := ⟨13, Tryz.f13, noSh, Tryz.f13.resultTypes.toList, 0⟩
theorem sl2_ent (h : Hd) (s : ByteArray) : sl2_f.ent sl2_e [] h [vS s] [] = let v1 : Int := if (psP s.data.toList).snd = (0 : Int) then (0 : Int) else (14 : Int); let v2 : Int := if (rsP s.data.toList).snd = (0 : Int) then (0 : Int) else (14 : Int); bif decide (s.size ≤ 100000000) then bif decide (s.size ≤ 100000000) then bif decide ((psP s.data.toList).snd = (rsP s.data.toList).snd) then bif decide (v1 = v2) then bif decide (allR (psP s.data.toList).fst ∧ allR (rsP s.data.toList).fst ∧ (psP s.data.toList).fst.length ≤ 1000000000) then ret (vB (decide (List.map lnR (psP s.data.toList).fst = List.map lnR (rsP s.data.toList).fst))) else none else ret (vB false) else ret (vB false) else none else none := by kernel_rfl
theorem sl2_run (s : ByteArray) (hp : s.size ≤ 100000000) : ∃ fu, sl2_f.run sl2_e [] fu [vS s] [] = some ⟨vB true, []⟩ := by
  refine ⟨0, ?_⟩
  rw [FnD.run, sl2_ent]
  have hs : s.data.toList.length = s.size := Array.length_toList
  obtain ⟨h1, h2⟩ := psP_ok (t := s.data.toList) (by omega)
  try dsimp only
  rw [rsP_ps]
  refine condT hp (condT hp (condT rfl (condT rfl (condT ⟨h1, h1, by omega⟩ (retV ?_)))))
  rw [decide_eq_true rfl]
theorem sl2_ok (s : ByteArray) (hp : s.size ≤ 100000000) : FnOk cfg 13 ([vS s].map SV.den) (vB true : SV).den := by
  obtain ⟨nn, h⟩ := sl2_run s hp
  exact FnD.ok sl2_g sl2_f mixed Tryz.func13 rfl rfl rfl rfl rfl rfl h
end Go.Proofs.YtldofkogmkfpjaaGreatDoor
