/-
  DecPrints returns true for every input, and never panics; the input reads as it did. On the condition of the row: the listed variables read as the text lays them; the card ties that to the program's text.
-/
import Derived.Test.YtldofkogmkfpjaaDoorRows
import Derived.Test.YtldofkogmkfpjaaDoorCards
import Derived.Test.YtldofkogmkfpjaaDoorTie
import Derived.Test.YtldofkogmkfpjaaDoorDeSyDecLaw
import Derived.Test.YtldofkogmkfpjaaDoorDeSyLaid
import Derived.WalkKit
import Derived.ShutString
import Derived.SevenTiedAt
namespace Go.Proofs.YtldofkogmkfpjaaDoor.decPrints
open Go Go.Ev Go.Sy Go.ChangeShapes Go.WideShapes Go.ChangeAt Go.WideMaps Go.WideElems Go.RowKit Go.Joins
open Go.ChangeMaps (open_string shut_string)
set_option linter.unusedVariables false
set_option linter.unusedSimpArgs false
set_option maxRecDepth 100000
theorem own : ownKnob Tryd.prog.godebug = none := by kernel_rfl
theorem laidOut : laidOutB Tryd.prog = true := by kernel_rfl
theorem door_met (os : Os) : laidMetH Tryd.prog Rows.decPrintsRow.laid ((World.doorLaid Tryd.prog 400 os).forCall (fun _ _ => 0) ⟨#[], #[.agg #[.int .i64 0, .int .u64 0]], []⟩).memory :=
  laidMetH_of_parts3 (fuel := 8) (laidMet_of_run' 8 (by kernel_rfl) (by kernel_rfl)) (by kernel_rfl) (by kernel_rfl)
theorem reads (os : Os) {H : Type} (enc : TypeId × Value → H) : ∃ places, DataW.whole enc Tryd.prog ((World.doorLaid Tryd.prog 400 os).forCall (fun _ _ => 0) ⟨#[], #[.agg #[.int .i64 0, .int .u64 0]], []⟩).memory Tryd.f8.params.toList Rows.decPrintsSpec.vars false #[.agg #[.int .i64 0, .int .u64 0]].toList 8 = some ([.agg [.lit (.int .i64 0), .lit (.int .u64 0)]], [], places) :=
  ⟨[], by kernel_rfl⟩
theorem lifted (os : Os) (started : os.Started) (H : Type) (enc : TypeId × Value → H) (F : Stop.Interp) :
    ReturnsInHanded {} Tryd.checked os 8 .any ((OpenSpec.ofChange Rows.decPrintsSpec).preRow enc Tryd.prog Tryd.f8 Rows.decPrintsRow.domain false Rows.decPrintsRow.laid) (((OpenSpec.ofChange Rows.decPrintsSpec).at F).post enc Tryd.prog Tryd.f8 false true false false) := by
  obtain ⟨places, hx⟩ := reads os enc
  refine returnsInHanded_of_row (C := Tryd.checked) (s := OpenSpec.ofChange Rows.decPrintsSpec) own started (by kernel_rfl) Tryd.func8
    (witness_row_sh (enc := enc) (C := Tryd.checked) (World.doorLaid Tryd.prog 400 os) #[.agg #[.int .i64 0, .int .u64 0]] rfl (World.shaped_of_RefB (by kernel_rfl) (by kernel_rfl)) (by kernel_rfl)
      (OpenSpec.preRow_of_cond 8 hx (by kernel_rfl) (fun k hk => by cases hk) (by kernel_rfl) (door_met os))) ?_
  intro W base args ds gs before hval0 hW _ hcond hsz0 hL _ _
  have hval : ∀ (j : Nat) t v, Tryd.f8.params[j]? = some t → args[j]? = some v → Value.okWide Tryd.prog W .any base t v := hval0
  have hW' := hW
  obtain ⟨p, q, hA0, hV, rfl, hfz, hnd⟩ := hW
  have hA : DataW.TrodAll enc Tryd.prog W 0 (fun _ => true) true Tryd.f8.params.toList args.toList ds p := hA0
  rw [Tryd.params8] at hA hval
  obtain ⟨v0, vs0, d0, ds0, p0, q0, hargs, rfl, rfl, h0, r0⟩ := trodAll_cons hA
  obtain ⟨rfl, rfl, rfl⟩ := trodAll_nil r0
  obtain rfl : args = #[v0] := by cases args; simp_all
  obtain ⟨rfl, rfl⟩ := trodVars_none hV
  clear hA0 hval0 hsz0
  have hk0 := h0
  have hlt0 : ∀ y ∈ p0, y.block < W.heap.size := fun y hy => by simpa using hW'.lt y (by simp [hy])
  obtain ⟨c0, c1, y0, y1, m, rfl, rfl, rfl, hy0, hy1⟩ := open_agg2 Tryd.underlying41 (by kernel_rfl) (show Tryd.prog.cellsOf 41 = 2 by kernel_rfl) (hval 0 41 v0 rfl rfl) h0
  obtain ⟨c0_0, e0, rfl, wc0_0⟩ := DataW.trod_int Tryd.underlying2 hy0
  have wc0_0 := wf_i64 wc0_0
  obtain ⟨c0_1, e1, rfl, wc0_1⟩ := DataW.trod_int Tryd.underlying39 hy1
  have wc0_1 := wf_u64 wc0_1
  simp at e0 e1
  subst e0 e1
  refine (law_calls (C := cfg) (wf_dec hL) (ldprints_ok c0_0 c0_1 ⟨wc0_0, wc0_1⟩) rfl fun i h1 h2 => by
    match i, h1 with
    | 0, _ => exact rep_lits [.int .i64 c0_0, .int .u64 c0_1]
    ).mono fun e W' ⟨he, bel⟩ => ?_
  subst he
  exact ⟨_, rfl, _, _, _, [], _, [], hW', trodAll_mk1 (shut_bool Tryd.underlying4 _), (trodAll_cons_mk (Below.trod laidOut (by kernel_rfl) (of_decide_eq_true (by kernel_rfl)) hk0 bel hlt0) trodAll_mk0), rfl, bel.frame _, fun h => by cases h⟩
theorem over : Rows.DecPrintsSaid :=
  OpenClaim.holds_of_cond 8 Tryd.f8 rfl rfl rfl rfl rfl rfl rfl ⟨rfl, rfl, rfl, rfl, rfl⟩ rfl rfl rfl rfl rfl (by kernel_rfl) Tryd.func8 (by kernel_rfl)
    (of_decide_eq_true (by kernel_rfl)) (by unfold Func.isWrapper; first | (rw [if_pos (by decide +kernel)]; kernel_rfl) | (rw [if_neg (by decide +kernel)]; exact ⟨rfl, rfl⟩))
    (fun os started H enc _ F => by rw [OpenClaim.pre_eq_preRow]; exact lifted os started H enc F)
theorem plain (f : FuncId) (fn : Func) (hf : Tryd.pinned.checked.prog.funcNamed "epact/epactlaw04.DecPrints" = some f) (hfn : Tryd.pinned.checked.prog.funcs[f]? = some fn) :
    true = Tryd.pinned.checked.prog.looks [] ∧ ∀ (j : Nat) t, fn.params[j]? = some t → Tryd.pinned.checked.prog.wantsStandIn t = false := by
  obtain rfl : f = 8 := Option.some.inj ((show Tryd.prog.funcNamed "epact/epactlaw04.DecPrints" = some 8 by kernel_rfl).symm.trans hf) |>.symm
  obtain rfl : fn = Tryd.f8 := (Option.some.inj (Tryd.func8.symm.trans hfn)).symm
  refine ⟨by kernel_rfl, fun j t ht => ?_⟩
  rw [Tryd.params8] at ht
  have hm : t ∈ [41] := by simpa using Array.mem_of_getElem? ht
  have hall : ([41].all fun u => !Tryd.prog.wantsStandIn u) = true := by kernel_rfl
  exact (show Tryd.prog.wantsStandIn t = false by simpa using List.all_eq_true.1 hall t hm)
theorem card : Rows.DecPrintsCardSaid :=
  Claim7.holds_tied_plain_at .later [] _ _ _ _ over (fun _ h => by cases h) (by kernel_rfl) (fun _ h => by cases h) decPrints_row_tie rfl ⟨rfl, rfl⟩ (by kernel_rfl) rfl plain (by kernel_rfl)
#print axioms card
end Go.Proofs.YtldofkogmkfpjaaDoor.decPrints
namespace Go.Proofs.YtldofkogmkfpjaaDoor
theorem decPrints_card : Rows.DecPrintsCardSaid := decPrints.card
end Go.Proofs.YtldofkogmkfpjaaDoor
