/-
  The contract of a statement of layer 29.
-/
import Derived.Test.YtldofkogmkfpjaaGreatDoorWZzSyLawS0
namespace Go.Proofs.YtldofkogmkfpjaaGreatDoor
open Go Go.Ev Go.Sy
set_option linter.unusedSimpArgs false
set_option linter.unusedVariables false
set_option maxRecDepth 10000
set_option maxHeartbeats 4000000
/-! ### epactlaw29.ScriptPrints -/
noncomputable def sl1_e : Ev' := ⟨Tryz.prog, glob, Γof [(34, c_sprint), (35, c_sparse), (37, c_rprint), (38, c_ssame), (36, c_sanw)]⟩
theorem sl1_g : Gd cfg sl1_e := gd (env_cons c_sprint_ok (env_cons c_sparse_ok (env_cons c_rprint_ok (env_cons c_ssame_ok (env_cons c_sanw_ok (env_nil _))))))
noncomputable def sl1_f : FnD := ⟨12, Tryz.f12, noSh, Tryz.f12.resultTypes.toList, 0⟩
theorem sl1_ent (h : Hd) (L : List (List D)) : sl1_f.ent sl1_e [] h [c1 (.rows [.int .i64, .int .i64, .int .i64, .int .i64, .int .u64, .int .i64, .int .i64, .int .i64, .int .i64, .bool, .int .i64, .int .i64, .int .i64, .ints .u8, .int .i64, .int .u64, .int .i64, .int .u64, .int .i64, .int .i64, .int .i64] L)] [] = let v1 : Int := if (psP (tx (prnQ L)).data.toList).snd = (0 : Int) then (0 : Int) else (14 : Int); bif decide (allR L ∧ (prnQ L).length ≤ (1000000000 : Nat)) then bif decide ((tx (prnQ L)).size ≤ (100000000 : Nat)) then bif decide (allR L ∧ (prnQ L).length ≤ (1000000000 : Nat)) then bif eqB (tx (prnQ L)) (tx (prnQ L)) then bif decide (v1 = (0 : Int)) then bif decide ((psP (tx (prnQ L)).data.toList).snd = (0 : Int)) then bif decide (allR L ∧ allR (psP (tx (prnQ L)).data.toList).fst ∧ L.length ≤ (1000000000 : Nat)) then ret (vB (decide (List.map lnR L = List.map lnR (psP (tx (prnQ L)).data.toList).fst))) else none else ret (vB false) else ret (vB false) else ret (vB false) else none else none else none := by kernel_rfl
theorem sl1_run (L : List (List D)) (hp : allR L ∧ (prnQ L).length ≤ 100000000) : ∃ fu, sl1_f.run sl1_e [] fu [c1 (.rows [.int .i64, .int .i64, .int .i64, .int .i64, .int .u64, .int .i64, .int .i64, .int .i64, .int .i64, .bool, .int .i64, .int .i64, .int .i64, .ints .u8, .int .i64, .int .u64, .int .i64, .int .u64, .int .i64, .int .i64, .int .i64] L)] [] = some ⟨vB true, []⟩ := by
  refine ⟨0, ?_⟩
  rw [FnD.run, sl1_ent]
  have hm : (L.map nrR).map lnR = L.map lnR := by
    rw [List.map_map]
    exact List.map_congr_left fun r hr => lnR_nr (hp.1 r hr)
  have hn : allR (L.map nrR) := fun r hr => by
    obtain ⟨x, hx, rfl⟩ := List.mem_map.1 hr
    exact nrR_ok (hp.1 x hx)
  have hlen := prn_len hp.1
  have h2 := hp.2
  try dsimp only
  rw [tx_toList, psP_prn hp.1, tx_size]
  refine condT ⟨hp.1, by omega⟩ (condT hp.2 (condT ⟨hp.1, by omega⟩ (condB (eqB_self _) (condT rfl (condT rfl (condT ⟨hp.1, hn, by omega⟩ (retV ?_)))))))
  rw [hm, decide_eq_true rfl]
theorem sl1_ok (L : List (List D)) (hp : allR L ∧ (prnQ L).length ≤ 100000000) : FnOk cfg 12 ([c1 (.rows [.int .i64, .int .i64, .int .i64, .int .i64, .int .u64, .int .i64, .int .i64, .int .i64, .int .i64, .bool, .int .i64, .int .i64, .int .i64, .ints .u8, .int .i64, .int .u64, .int .i64, .int .u64, .int .i64, .int .i64, .int .i64] L)].map SV.den) (vB true : SV).den := by
  obtain ⟨nn, h⟩ := sl1_run L hp
  exact FnD.ok sl1_g sl1_f mixed Tryz.func12 rfl rfl rfl rfl rfl rfl h
end Go.Proofs.YtldofkogmkfpjaaGreatDoor
