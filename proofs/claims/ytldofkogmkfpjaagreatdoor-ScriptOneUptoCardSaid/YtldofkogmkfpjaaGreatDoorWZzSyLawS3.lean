/-
  The contract of a statement of layer 29.
-/
import Derived.Test.YtldofkogmkfpjaaGreatDoorWZzSyLawS0
namespace Go.Proofs.YtldofkogmkfpjaaGreatDoor
open Go Go.Ev Go.Sy
set_option linter.unusedSimpArgs false
set_option linter.unusedVariables false
set_option maxRecDepth 10000
set_option maxHeartbeats 4000000
/-! ### epactlaw29.ScriptOne -/
noncomputable def sl3_e : Ev' := ⟨Tryz.prog, glob, Γof [(35, c_sparse), (34, c_sprint), (36, c_sanw)]⟩
theorem sl3_g : Gd cfg sl3_e := gd (env_cons c_sparse_ok (env_cons c_sprint_ok (env_cons c_sanw_ok (env_nil _))))
noncomputable def sl3_f : FnD := ⟨14, Tryz.f14, noSh, Tryz.f14.resultTypes.toList, 0⟩
theorem sl3_ent (h : Hd) (s : ByteArray) : sl3_f.ent sl3_e [] h [vS s] [] = let v1 : Int := if (psP s.data.toList).snd = (0 : Int) then (0 : Int) else (14 : Int); bif decide (s.size ≤ (100000000 : Nat)) then bif !decide (v1 = (0 : Int)) then bif decide ((↑(psP s.data.toList).fst.length : Int) = (0 : Int)) then ret (vB (decide ((0 : Int) < (psP s.data.toList).snd))) else ret (vB false) else bif decide (allR (psP s.data.toList).fst ∧ (prnQ (psP s.data.toList).fst).length ≤ (1000000000 : Nat)) then ret (vB (eqB (tx (prnQ (psP s.data.toList).fst)) s)) else none else none := by kernel_rfl
theorem sl3_run (s : ByteArray) (hp : s.size ≤ 100000000) : ∃ fu, sl3_f.run sl3_e [] fu [vS s] [] = some ⟨vB true, []⟩ := by
  refine ⟨0, ?_⟩
  rw [FnD.run, sl3_ent]
  obtain ⟨l, rfl, hl⟩ := tx_get s
  rw [tx_size] at hp
  obtain ⟨h1, h2⟩ := psP_ok (t := l) hp
  obtain ⟨g1, g2⟩ := psP_of l
  try dsimp only
  rw [tx_toList, tx_size]
  by_cases h : (psP l).2 = 0
  · have e := g1 h
    rw [if_pos h, e, eqB_self]
    exact condT hp (condN rfl (condT ⟨h1, by omega⟩ rfl))
  · obtain ⟨e1, e2⟩ := g2 h
    rw [if_neg h, e1, decide_eq_true e2]
    exact condT hp (condB rfl (condT rfl rfl))
theorem sl3_ok (s : ByteArray) (hp : s.size ≤ 100000000) : FnOk cfg 14 ([vS s].map SV.den) (vB true : SV).den := by
  obtain ⟨nn, h⟩ := sl3_run s hp
  exact FnD.ok sl3_g sl3_f mixed Tryz.func14 rfl rfl rfl rfl rfl rfl h
end Go.Proofs.YtldofkogmkfpjaaGreatDoor
