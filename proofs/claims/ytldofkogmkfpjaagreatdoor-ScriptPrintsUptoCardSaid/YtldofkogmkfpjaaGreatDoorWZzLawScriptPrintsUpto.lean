/-
  ScriptPrints returns true for every input, and never panics; the input reads as it did. On the condition of the row: what is read is of bulk at most 1048576, and the listed variables read as the text lays them; the card ties that to the program's text.
-/
import Derived.Test.YtldofkogmkfpjaaGreatDoorRows
import Derived.Test.YtldofkogmkfpjaaGreatDoorCards
import Derived.Test.YtldofkogmkfpjaaGreatDoorTie
import Derived.Test.YtldofkogmkfpjaaGreatDoorWZzSyLawS1
import Derived.Test.YtldofkogmkfpjaaGreatDoorWZzSyLaid
import Derived.Test.YtldofkogmkfpjaaGreatDoorWSyReqQ
import Derived.Lay
import Derived.WalkKit
import Derived.ShutString
import Derived.SevenTiedAt
namespace Go.Proofs.YtldofkogmkfpjaaGreatDoor.scriptPrintsUpto
open Go Go.Ev Go.Sy Go.ChangeShapes Go.WideShapes Go.ChangeAt Go.WideMaps Go.WideElems Go.RowKit Go.Joins
open Go.ChangeMaps (open_string shut_string)
set_option linter.unusedVariables false
set_option linter.unusedSimpArgs false
set_option maxRecDepth 100000
theorem own : ownKnob Tryz.prog.godebug = none := by kernel_rfl
theorem laidOut : laidOutB Tryz.prog = true := by kernel_rfl
theorem bulk_ok {H : Type} : BulkOk (H := H) Rows.uptoBulk Rows.uptoBulkAll :=
  ⟨fun l => by cases l <;> simp [Rows.uptoBulk], fun b => by simp [Rows.uptoBulk], by simp [Rows.uptoBulk], fun e s => by simp only [Rows.uptoBulk]; omega, fun p => by simp only [Rows.uptoBulk]; omega, fun d r => by simp only [Rows.uptoBulkAll]⟩
theorem fact0 : (Rows.scriptPrintsUptoRow.wf (OpenSpec.ofChange (Rows.OpenSpec.upto Rows.scriptPrintsSpec).bare)) = true := by kernel_rfl
theorem fact1 : (laidOutB Tryz.prog) = true := by kernel_rfl
theorem fact2 : (mapsRowed Tryz.prog) = true := by kernel_rfl
theorem fact3 : (Tryz.f12.params.all (Tryz.prog.readableRec ·)) = true := by kernel_rfl
theorem fact4 : (namedTie Tryz.prog Rows.scriptPrintsUptoRow.named (Rows.OpenSpec.upto Rows.scriptPrintsSpec).bare.vars) = true := by kernel_rfl
theorem fact5 : ((Rows.scriptPrintsUptoRow.stops == [])) = true := by kernel_rfl
theorem fact6 : ((Tryz.prog.stops == [])) = true := by kernel_rfl
theorem fact7 : ((Rows.scriptPrintsUptoRow.knobs == [])) = true := by kernel_rfl
theorem fact8 : ((Tryz.prog.stopKnobs == [])) = true := by kernel_rfl
theorem fact9 : ((Rows.scriptPrintsUptoRow.inPlace == Tryz.prog.inPlace 12)) = true := by kernel_rfl
theorem fact10 : ((Rows.scriptPrintsUptoRow.unfollowed == Tryz.prog.unfollowed 12)) = true := by kernel_rfl
theorem fact11 : ((Rows.scriptPrintsUptoRow.recurses == Tryz.prog.recurses 12)) = true := by kernel_rfl
theorem fact12 : ((Rows.scriptPrintsUptoRow.named == Tryz.prog.varsNamed 12)) = true := by kernel_rfl
theorem fact13 : ((Rows.scriptPrintsUptoRow.maps == (Tryz.f12.params.toList ++ (Rows.OpenSpec.upto Rows.scriptPrintsSpec).bare.plain.varTypes Tryz.prog).any (Tryz.prog.mapsRec ·))) = true := by kernel_rfl
theorem fact14 : ((Rows.scriptPrintsUptoRow.ifaces == (Tryz.f12.params.toList ++ (Rows.OpenSpec.upto Rows.scriptPrintsSpec).bare.plain.varTypes Tryz.prog).any (Tryz.prog.ifacesRec ·))) = true := by kernel_rfl
theorem fact15 : ((Rows.scriptPrintsUptoRow.mapsOut == Tryz.prog.mapsAmong Tryz.f12.resultTypes.toList)) = true := by kernel_rfl
theorem fact16 : ((Rows.scriptPrintsUptoRow.loops == (Tryz.f12.params.toList ++ (Rows.OpenSpec.upto Rows.scriptPrintsSpec).bare.plain.varTypes Tryz.prog).any (Tryz.prog.loopsFrom ·))) = true := by kernel_rfl
theorem fact17 : ((Rows.scriptPrintsUptoRow.wideKeys == (Tryz.f12.params.toList ++ (Rows.OpenSpec.upto Rows.scriptPrintsSpec).bare.plain.varTypes Tryz.prog ++ Tryz.f12.resultTypes.toList).any (Tryz.prog.wideKeysFrom ·))) = true := by kernel_rfl
theorem fact18 : ((Rows.OpenSpec.upto Rows.scriptPrintsSpec).bare.vars.all (Tryz.prog.varReadable ·)) = true := by kernel_rfl
theorem fact19 : (Tryz.f12.resultTypes.all (fun t => Tryz.prog.readableRec t && decide (t < Tryz.prog.types.size))) = true := by kernel_rfl
theorem fact20 : ((Rows.scriptPrintsUptoRow.ifacesOut == Tryz.f12.resultTypes.toList.any (Tryz.prog.ifacesRec ·))) = true := by kernel_rfl
theorem fact21 : ((Rows.scriptPrintsUptoRow.loopsOut == Tryz.f12.resultTypes.toList.any (Tryz.prog.loopsFrom ·))) = true := by kernel_rfl
theorem fact22 : ((Rows.scriptPrintsUptoRow.plainKeys == Tryz.prog.plainKeys)) = true := by kernel_rfl
theorem fact23 : (Rows.scriptPrintsUptoRow.shortTexts.isNone) = true := by kernel_rfl
theorem fact24 : (Tryz.prog.stopsHeard) = true := by kernel_rfl
theorem fact25 : (Tryz.prog.mayEnter) = true := by kernel_rfl
theorem fact26 : ((Rows.scriptPrintsUptoRow.lifted == Tryz.prog.liftsFinal)) = true := by kernel_rfl
theorem fact27 : ((Tryz.prog.make == some Rows.scriptPrintsUptoRow.make)) = true := by kernel_rfl
theorem fact28 : ((Rows.scriptPrintsUptoRow.pinned == Rows.scriptPrintsUptoRow.pinnedBy)) = true := by kernel_rfl
theorem fact29 : ((Rows.scriptPrintsUptoRow.veiled == (Tryz.f12.params.toList ++ (Rows.OpenSpec.upto Rows.scriptPrintsSpec).bare.plain.varTypes Tryz.prog ++ Tryz.f12.resultTypes.toList).any (Tryz.prog.veiledRec ·))) = true := by kernel_rfl
theorem fact30 : (Rows.scriptPrintsUptoRow.veiledFits Tryz.prog Tryz.f12.params.toList (Tryz.f12.params.toList ++ (Rows.OpenSpec.upto Rows.scriptPrintsSpec).bare.plain.varTypes Tryz.prog ++ Tryz.f12.resultTypes.toList)) = true := by kernel_rfl
theorem closed : joinedFacts Tryz.prog 12 Tryz.f12 (Rows.OpenSpec.upto Rows.scriptPrintsSpec).bare Rows.scriptPrintsUptoRow = true := by
  unfold joinedFacts
  rw [fact0, fact1, fact2, fact3, fact4, fact5, fact6, fact7, fact8, fact9, fact10, fact11, fact12, fact13, fact14, fact15, fact16, fact17, fact18, fact19, fact20, fact21, fact22, fact23, fact24, fact25, fact26, fact27, fact28, fact29, fact30]
  kernel_rfl
theorem door_met (os : Os) : laidMetH Tryz.prog Rows.scriptPrintsUptoRow.laid ((World.laidAll Tryz.prog os Rows.scriptPrintsUptoRow.laid).forCall (fun _ _ => 0) ⟨#[], #[.slice none 0 0], []⟩).memory :=
  by rw [MakeChecks.laidMetH_plain _ _ _ (by kernel_rfl)]; exact laidMet_laidAll _ (by kernel_rfl) (by kernel_rfl)
theorem reads (os : Os) {H : Type} (enc : TypeId × Value → H) : ∃ places, DataW.whole enc Tryz.prog ((World.laidAll Tryz.prog os Rows.scriptPrintsUptoRow.laid).forCall (fun _ _ => 0) ⟨#[], #[.slice none 0 0], []⟩).memory Tryz.f12.params.toList Rows.scriptPrintsSpec.vars false #[.slice none 0 0].toList 8 = some ([.nil], [], places) :=
  ⟨[], by kernel_rfl⟩
theorem lifted (os : Os) (started : os.Started) (H : Type) (enc : TypeId × Value → H) (F : Stop.Interp) :
    ReturnsInHanded {} Tryz.checked os 12 .any ((Rows.OpenSpec.upto Rows.scriptPrintsSpec).preRow enc Tryz.prog Tryz.f12 Rows.scriptPrintsUptoRow.domain false Rows.scriptPrintsUptoRow.laid) (((Rows.OpenSpec.upto Rows.scriptPrintsSpec).at F).post enc Tryz.prog Tryz.f12 false true false false) := by
  obtain ⟨places, hx⟩ := reads os enc
  refine returnsInHanded_of_row (C := Tryz.checked) (s := Rows.OpenSpec.upto Rows.scriptPrintsSpec) own started (by kernel_rfl) Tryz.func12
    (witness_row_sh (enc := enc) (C := Tryz.checked) (World.laidAll Tryz.prog os Rows.scriptPrintsUptoRow.laid) #[.slice none 0 0] (World.laidAll_os _ _ _) (World.shaped_of_ZipB (by kernel_rfl) (by kernel_rfl)) (by kernel_rfl)
      (OpenSpec.preRow_of_cond 8 hx (by kernel_rfl) (fun k hk => by cases hk; kernel_rfl) (by kernel_rfl) (door_met os))) ?_
  intro W base args ds gs before hval0 hW _ hcond hsz0 hL _ _
  have hval : ∀ (j : Nat) t v, Tryz.f12.params[j]? = some t → args[j]? = some v → Value.okWide Tryz.prog W .any base t v := hval0
  have hW' := hW
  obtain ⟨p, q, hA0, hV, rfl, hfz, hnd⟩ := hW
  have hA : DataW.TrodAll enc Tryz.prog W 0 (fun _ => true) true Tryz.f12.params.toList args.toList ds p := hA0
  have hsz := hsz0
  rw [Tryz.params12] at hA hval hsz
  obtain ⟨v0, vs0, d0, ds0, p0, q0, hargs, rfl, rfl, h0, r0⟩ := trodAll_cons hA
  obtain ⟨rfl, rfl, rfl⟩ := trodAll_nil r0
  obtain rfl : args = #[v0] := by cases args; simp_all
  obtain ⟨rfl, rfl⟩ := trodVars_none hV
  clear hA0 hval0 hsz0
  have hbulk := of_decide_eq_true (hcond _ rfl)
  have hk0 := h0
  have hlt0 : ∀ y ∈ p0, y.block < W.heap.size := fun y hy => by simpa using hW'.lt y (by simp [hy])
  obtain ⟨o0, len0, cap0, rfl⟩ := okWide_slice Tryz.underlying53 (hval 0 53 v0 rfl rfl)
  have hi0 : ∃ L : List (List D), L.length ≤ maxLen ∧ (∀ r ∈ L, WfR r) ∧ (L.map (wtL KR)).sum + 1 ≤ Rows.uptoBulk d0 ∧ Rep1 cfg id (memOf W) (.c (Cl.rows KR L).den) (.slice o0 len0 cap0) := by
    obtain ⟨fuel, hf⟩ := h0
    have hf' : DataW.trod _ Tryz.prog W 0 _ _ fuel 53 [Value.slice o0 len0 cap0] = some (d0, p0) := hf
    exact open_rows (C := cfg) (n := 8) bulk_ok Tryz.underlying53 (by kernel_rfl) (by kernel_rfl) (by decide) hf'
  obtain ⟨L0, lL0, wL0, bL0, hr0⟩ := hi0
  simp only [Rows.uptoBulkAll, List.append_nil, List.nil_append, List.cons_append] at hbulk
  refine (law_calls (C := cfg) (wf_script hL) (sl1_ok L0 (have q := reqs_ok wL0 (by omega); ⟨q.1, by have := q.2.1; omega⟩)) rfl fun i h1 h2 => by
    match i, h1 with
    | 0, _ => exact hr0
    ).mono fun e W' ⟨he, bel⟩ => ?_
  subst he
  exact ⟨_, rfl, _, _, _, [], _, [], hW', trodAll_mk1 (shut_bool Tryz.underlying4 _), (trodAll_cons_mk (Below.trod laidOut (by kernel_rfl) (of_decide_eq_true (by kernel_rfl)) hk0 bel hlt0) trodAll_mk0), rfl, bel.frame _, fun h => by cases h⟩
theorem over : Rows.ScriptPrintsUptoSaid :=
  OpenClaim.holds_of_cond 12 Tryz.f12 rfl rfl rfl rfl rfl rfl rfl ⟨rfl, rfl, rfl, rfl, rfl⟩ rfl rfl rfl rfl rfl (by kernel_rfl) Tryz.func12 closed
    (of_decide_eq_true (by kernel_rfl)) (by unfold Func.isWrapper; first | (rw [if_pos (by decide +kernel)]; kernel_rfl) | (rw [if_neg (by decide +kernel)]; exact ⟨rfl, rfl⟩))
    (fun os started H enc _ F => by rw [OpenClaim.pre_eq_preRow]; exact lifted os started H enc F)
theorem plain (f : FuncId) (fn : Func) (hf : Tryz.pinned.checked.prog.funcNamed "epact/epactlaw29.ScriptPrints" = some f) (hfn : Tryz.pinned.checked.prog.funcs[f]? = some fn) :
    true = Tryz.pinned.checked.prog.looks [] ∧ ∀ (j : Nat) t, fn.params[j]? = some t → Tryz.pinned.checked.prog.wantsStandIn t = false := by
  obtain rfl : f = 12 := Option.some.inj ((show Tryz.prog.funcNamed "epact/epactlaw29.ScriptPrints" = some 12 by kernel_rfl).symm.trans hf) |>.symm
  obtain rfl : fn = Tryz.f12 := (Option.some.inj (Tryz.func12.symm.trans hfn)).symm
  refine ⟨by kernel_rfl, fun j t ht => ?_⟩
  rw [Tryz.params12] at ht
  have hm : t ∈ [53] := by simpa using Array.mem_of_getElem? ht
  have hall : ([53].all fun u => !Tryz.prog.wantsStandIn u) = true := by kernel_rfl
  exact (show Tryz.prog.wantsStandIn t = false by simpa using List.all_eq_true.1 hall t hm)
theorem card : Rows.ScriptPrintsUptoCardSaid :=
  Claim7.holds_tied_plain_at .later [] _ _ _ _ over (fun _ h => by cases h) (by kernel_rfl) (fun _ h => by cases h) scriptPrintsUpto_row_tie rfl ⟨rfl, rfl⟩ (by kernel_rfl) rfl plain (by kernel_rfl)
#print axioms card
end Go.Proofs.YtldofkogmkfpjaaGreatDoor.scriptPrintsUpto
namespace Go.Proofs.YtldofkogmkfpjaaGreatDoor
theorem scriptPrintsUpto_card : Rows.ScriptPrintsUptoCardSaid := scriptPrintsUpto.card
end Go.Proofs.YtldofkogmkfpjaaGreatDoor
