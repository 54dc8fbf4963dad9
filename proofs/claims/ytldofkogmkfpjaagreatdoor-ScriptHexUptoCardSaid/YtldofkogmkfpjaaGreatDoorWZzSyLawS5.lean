/-
  The contract of a statement of layer 29.
-/
import Derived.Test.YtldofkogmkfpjaaGreatDoorWZzSyLawS0
namespace Go.Proofs.YtldofkogmkfpjaaGreatDoor
open Go Go.Ev Go.Sy
set_option linter.unusedSimpArgs false
set_option linter.unusedVariables false
set_option maxRecDepth 10000
set_option maxHeartbeats 4000000
/-! ### epactlaw29.ScriptHex -/
noncomputable def sl5_e : Ev' := ⟨Tryz.prog, glob, Γof [(41, c_shex), (42, c_rhex), (36, c_sanw)]⟩
theorem sl5_g : Gd cfg sl5_e := gd (env_cons c_shex_ok (env_cons c_rhex_ok (env_cons c_sanw_ok (env_nil _))))
noncomputable def sl5_f : FnD := ⟨16, Tryz.f16, noSh, Tryz.f16.resultTypes.toList, 0⟩
theorem sl5_ent (h : Hd) (l : List Int) : sl5_f.ent sl5_e [] h [c1 (.ints .u8 l)] [] = bif decide (bytesOk l ∧ l.length ≤ (1000000000 : Nat)) then bif decide (bytesOk l ∧ l.length ≤ (1000000000 : Nat)) then ret (vB (eqB (tx (hexB (toB l))) (tx (hexB (toB l))))) else none else none := by kernel_rfl
theorem sl5_run (l : List Int) (hp : bytesOk l ∧ l.length ≤ 1000000000) : ∃ fu, sl5_f.run sl5_e [] fu [c1 (.ints .u8 l)] [] = some ⟨vB true, []⟩ := by
  refine ⟨0, ?_⟩
  rw [FnD.run, sl5_ent]
  rw [eqB_self]
  exact condT hp (condT hp rfl)
theorem sl5_ok (l : List Int) (hp : bytesOk l ∧ l.length ≤ 1000000000) : FnOk cfg 16 ([c1 (.ints .u8 l)].map SV.den) (vB true : SV).den := by
  obtain ⟨nn, h⟩ := sl5_run l hp
  exact FnD.ok sl5_g sl5_f mixed Tryz.func16 rfl rfl rfl rfl rfl rfl h
end Go.Proofs.YtldofkogmkfpjaaGreatDoor
