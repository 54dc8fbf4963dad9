/-
  ScriptHex returns true for every input, and never panics; the input reads as it did. On the condition of the row: what is read is of bulk at most 1048576, and the listed variables read as the text lays them; the card ties that to the program's text.
-/
import Derived.Test.YtldofkogmkfpjaaGreatDoorRows
import Derived.Test.YtldofkogmkfpjaaGreatDoorCards
import Derived.Test.YtldofkogmkfpjaaGreatDoorTie
import Derived.Test.YtldofkogmkfpjaaGreatDoorWZzSyLawS5
import Derived.Test.YtldofkogmkfpjaaGreatDoorWZzSyLaid
import Derived.Test.YtldofkogmkfpjaaGreatDoorWSyReqQ
import Derived.Lay
import Derived.WalkKit
import Derived.ShutString
import Derived.SevenTiedAt
namespace Go.Proofs.YtldofkogmkfpjaaGreatDoor.scriptHexUpto
open Go Go.Ev Go.Sy Go.ChangeShapes Go.WideShapes Go.ChangeAt Go.WideMaps Go.WideElems Go.RowKit Go.Joins
open Go.ChangeMaps (open_string shut_string)
set_option linter.unusedVariables false
set_option linter.unusedSimpArgs false
set_option maxRecDepth 100000
theorem own : ownKnob Tryz.prog.godebug = none := by kernel_rfl
theorem laidOut : laidOutB Tryz.prog = true := by kernel_rfl
theorem bulk_ok {H : Type} : BulkOk (H := H) Rows.uptoBulk Rows.uptoBulkAll :=
  ⟨fun l => by cases l <;> simp [Rows.uptoBulk], fun b => by simp [Rows.uptoBulk], by simp [Rows.uptoBulk], fun e s => by simp only [Rows.uptoBulk]; omega, fun p => by simp only [Rows.uptoBulk]; omega, fun d r => by simp only [Rows.uptoBulkAll]⟩
theorem fact0 : (Rows.scriptHexUptoRow.wf (OpenSpec.ofChange (Rows.OpenSpec.upto Rows.scriptHexSpec).bare)) = true := by kernel_rfl
theorem fact1 : (laidOutB Tryz.prog) = true := by kernel_rfl
theorem fact2 : (mapsRowed Tryz.prog) = true := by kernel_rfl
theorem fact3 : (Tryz.f16.params.all (Tryz.prog.readableRec ·)) = true := by kernel_rfl
theorem fact4 : (namedTie Tryz.prog Rows.scriptHexUptoRow.named (Rows.OpenSpec.upto Rows.scriptHexSpec).bare.vars) = true := by kernel_rfl
theorem fact5 : ((Rows.scriptHexUptoRow.stops == [])) = true := by kernel_rfl
theorem fact6 : ((Tryz.prog.stops == [])) = true := by kernel_rfl
theorem fact7 : ((Rows.scriptHexUptoRow.knobs == [])) = true := by kernel_rfl
theorem fact8 : ((Tryz.prog.stopKnobs == [])) = true := by kernel_rfl
theorem fact9 : ((Rows.scriptHexUptoRow.inPlace == Tryz.prog.inPlace 16)) = true := by kernel_rfl
theorem fact10 : ((Rows.scriptHexUptoRow.unfollowed == Tryz.prog.unfollowed 16)) = true := by kernel_rfl
theorem fact11 : ((Rows.scriptHexUptoRow.recurses == Tryz.prog.recurses 16)) = true := by kernel_rfl
theorem fact12 : ((Rows.scriptHexUptoRow.named == Tryz.prog.varsNamed 16)) = true := by kernel_rfl
theorem fact13 : ((Rows.scriptHexUptoRow.maps == (Tryz.f16.params.toList ++ (Rows.OpenSpec.upto Rows.scriptHexSpec).bare.plain.varTypes Tryz.prog).any (Tryz.prog.mapsRec ·))) = true := by kernel_rfl
theorem fact14 : ((Rows.scriptHexUptoRow.ifaces == (Tryz.f16.params.toList ++ (Rows.OpenSpec.upto Rows.scriptHexSpec).bare.plain.varTypes Tryz.prog).any (Tryz.prog.ifacesRec ·))) = true := by kernel_rfl
theorem fact15 : ((Rows.scriptHexUptoRow.mapsOut == Tryz.prog.mapsAmong Tryz.f16.resultTypes.toList)) = true := by kernel_rfl
theorem fact16 : ((Rows.scriptHexUptoRow.loops == (Tryz.f16.params.toList ++ (Rows.OpenSpec.upto Rows.scriptHexSpec).bare.plain.varTypes Tryz.prog).any (Tryz.prog.loopsFrom ·))) = true := by kernel_rfl
theorem fact17 : ((Rows.scriptHexUptoRow.wideKeys == (Tryz.f16.params.toList ++ (Rows.OpenSpec.upto Rows.scriptHexSpec).bare.plain.varTypes Tryz.prog ++ Tryz.f16.resultTypes.toList).any (Tryz.prog.wideKeysFrom ·))) = true := by kernel_rfl
theorem fact18 : ((Rows.OpenSpec.upto Rows.scriptHexSpec).bare.vars.all (Tryz.prog.varReadable ·)) = true := by kernel_rfl
theorem fact19 : (Tryz.f16.resultTypes.all (fun t => Tryz.prog.readableRec t && decide (t < Tryz.prog.types.size))) = true := by kernel_rfl
theorem fact20 : ((Rows.scriptHexUptoRow.ifacesOut == Tryz.f16.resultTypes.toList.any (Tryz.prog.ifacesRec ·))) = true := by kernel_rfl
theorem fact21 : ((Rows.scriptHexUptoRow.loopsOut == Tryz.f16.resultTypes.toList.any (Tryz.prog.loopsFrom ·))) = true := by kernel_rfl
theorem fact22 : ((Rows.scriptHexUptoRow.plainKeys == Tryz.prog.plainKeys)) = true := by kernel_rfl
theorem fact23 : (Rows.scriptHexUptoRow.shortTexts.isNone) = true := by kernel_rfl
theorem fact24 : (Tryz.prog.stopsHeard) = true := by kernel_rfl
theorem fact25 : (Tryz.prog.mayEnter) = true := by kernel_rfl
theorem fact26 : ((Rows.scriptHexUptoRow.lifted == Tryz.prog.liftsFinal)) = true := by kernel_rfl
theorem fact27 : ((Tryz.prog.make == some Rows.scriptHexUptoRow.make)) = true := by kernel_rfl
theorem fact28 : ((Rows.scriptHexUptoRow.pinned == Rows.scriptHexUptoRow.pinnedBy)) = true := by kernel_rfl
theorem fact29 : ((Rows.scriptHexUptoRow.veiled == (Tryz.f16.params.toList ++ (Rows.OpenSpec.upto Rows.scriptHexSpec).bare.plain.varTypes Tryz.prog ++ Tryz.f16.resultTypes.toList).any (Tryz.prog.veiledRec ·))) = true := by kernel_rfl
theorem fact30 : (Rows.scriptHexUptoRow.veiledFits Tryz.prog Tryz.f16.params.toList (Tryz.f16.params.toList ++ (Rows.OpenSpec.upto Rows.scriptHexSpec).bare.plain.varTypes Tryz.prog ++ Tryz.f16.resultTypes.toList)) = true := by kernel_rfl
theorem closed : joinedFacts Tryz.prog 16 Tryz.f16 (Rows.OpenSpec.upto Rows.scriptHexSpec).bare Rows.scriptHexUptoRow = true := by
  unfold joinedFacts
  rw [fact0, fact1, fact2, fact3, fact4, fact5, fact6, fact7, fact8, fact9, fact10, fact11, fact12, fact13, fact14, fact15, fact16, fact17, fact18, fact19, fact20, fact21, fact22, fact23, fact24, fact25, fact26, fact27, fact28, fact29, fact30]
  kernel_rfl
theorem door_met (os : Os) : laidMetH Tryz.prog Rows.scriptHexUptoRow.laid ((World.laidAll Tryz.prog os Rows.scriptHexUptoRow.laid).forCall (fun _ _ => 0) ⟨#[], #[.slice none 0 0], []⟩).memory :=
  by rw [MakeChecks.laidMetH_plain _ _ _ (by kernel_rfl)]; exact laidMet_laidAll _ (by kernel_rfl) (by kernel_rfl)
theorem reads (os : Os) {H : Type} (enc : TypeId × Value → H) : ∃ places, DataW.whole enc Tryz.prog ((World.laidAll Tryz.prog os Rows.scriptHexUptoRow.laid).forCall (fun _ _ => 0) ⟨#[], #[.slice none 0 0], []⟩).memory Tryz.f16.params.toList Rows.scriptHexSpec.vars false #[.slice none 0 0].toList 8 = some ([.nil], [], places) :=
  ⟨[], by kernel_rfl⟩
theorem lifted (os : Os) (started : os.Started) (H : Type) (enc : TypeId × Value → H) (F : Stop.Interp) :
    ReturnsInHanded {} Tryz.checked os 16 .any ((Rows.OpenSpec.upto Rows.scriptHexSpec).preRow enc Tryz.prog Tryz.f16 Rows.scriptHexUptoRow.domain false Rows.scriptHexUptoRow.laid) (((Rows.OpenSpec.upto Rows.scriptHexSpec).at F).post enc Tryz.prog Tryz.f16 false true false false) := by
  obtain ⟨places, hx⟩ := reads os enc
  refine returnsInHanded_of_row (C := Tryz.checked) (s := Rows.OpenSpec.upto Rows.scriptHexSpec) own started (by kernel_rfl) Tryz.func16
    (witness_row_sh (enc := enc) (C := Tryz.checked) (World.laidAll Tryz.prog os Rows.scriptHexUptoRow.laid) #[.slice none 0 0] (World.laidAll_os _ _ _) (World.shaped_of_ZipB (by kernel_rfl) (by kernel_rfl)) (by kernel_rfl)
      (OpenSpec.preRow_of_cond 8 hx (by kernel_rfl) (fun k hk => by cases hk; kernel_rfl) (by kernel_rfl) (door_met os))) ?_
  intro W base args ds gs before hval0 hW _ hcond hsz0 hL _ _
  have hval : ∀ (j : Nat) t v, Tryz.f16.params[j]? = some t → args[j]? = some v → Value.okWide Tryz.prog W .any base t v := hval0
  have hW' := hW
  obtain ⟨p, q, hA0, hV, rfl, hfz, hnd⟩ := hW
  have hA : DataW.TrodAll enc Tryz.prog W 0 (fun _ => true) true Tryz.f16.params.toList args.toList ds p := hA0
  have hsz := hsz0
  rw [Tryz.params16] at hA hval hsz
  obtain ⟨v0, vs0, d0, ds0, p0, q0, hargs, rfl, rfl, h0, r0⟩ := trodAll_cons hA
  obtain ⟨rfl, rfl, rfl⟩ := trodAll_nil r0
  obtain rfl : args = #[v0] := by cases args; simp_all
  obtain ⟨rfl, rfl⟩ := trodVars_none hV
  clear hA0 hval0 hsz0
  have hbulk := of_decide_eq_true (hcond _ rfl)
  have hk0 := h0
  have hlt0 : ∀ y ∈ p0, y.block < W.heap.size := fun y hy => by simpa using hW'.lt y (by simp [hy])
  obtain ⟨o0, len0, cap0, rfl⟩ := okWide_slice Tryz.underlying48 (hval 0 48 v0 rfl rfl)
  have hi0 : ∃ L : List Int, L.length ≤ maxLen ∧ (∀ n ∈ L, (Lit.int .u8 n).wf = true) ∧ L.length + 1 ≤ Rows.uptoBulk d0 ∧ Rep1 cfg id (memOf W) (.c (Cl.ints .u8 L).den) (.slice o0 len0 cap0) := by
    obtain ⟨fuel, hf⟩ := h0
    have hf' : DataW.trod _ Tryz.prog W 0 _ _ fuel 48 [Value.slice o0 len0 cap0] = some (d0, p0) := hf
    obtain ⟨v, l, hv, hr, hm, hw, hb⟩ := open_slice (C := cfg) bulk_ok Tryz.underlying48 Tryz.underlying5 (by kernel_rfl) hf'
    cases hv
    exact ⟨l, hm, hw, hb, RepC.of_I (μ := id) hr⟩
  obtain ⟨L0, lL0, wL0, bL0, hr0⟩ := hi0
  simp only [Rows.uptoBulkAll, List.append_nil, List.nil_append, List.cons_append] at hbulk
  refine (law_calls (C := cfg) (wf_script hL) (sl5_ok L0 ⟨bytes_ok wL0, by omega⟩) rfl fun i h1 h2 => by
    match i, h1 with
    | 0, _ => exact hr0
    ).mono fun e W' ⟨he, bel⟩ => ?_
  subst he
  exact ⟨_, rfl, _, _, _, [], _, [], hW', trodAll_mk1 (shut_bool Tryz.underlying4 _), (trodAll_cons_mk (Below.trod laidOut (by kernel_rfl) (of_decide_eq_true (by kernel_rfl)) hk0 bel hlt0) trodAll_mk0), rfl, bel.frame _, fun h => by cases h⟩
theorem over : Rows.ScriptHexUptoSaid :=
  OpenClaim.holds_of_cond 16 Tryz.f16 rfl rfl rfl rfl rfl rfl rfl ⟨rfl, rfl, rfl, rfl, rfl⟩ rfl rfl rfl rfl rfl (by kernel_rfl) Tryz.func16 closed
    (of_decide_eq_true (by kernel_rfl)) (by unfold Func.isWrapper; first | (rw [if_pos (by decide +kernel)]; kernel_rfl) | (rw [if_neg (by decide +kernel)]; exact ⟨rfl, rfl⟩))
    (fun os started H enc _ F => by rw [OpenClaim.pre_eq_preRow]; exact lifted os started H enc F)
theorem plain (f : FuncId) (fn : Func) (hf : Tryz.pinned.checked.prog.funcNamed "epact/epactlaw29.ScriptHex" = some f) (hfn : Tryz.pinned.checked.prog.funcs[f]? = some fn) :
    true = Tryz.pinned.checked.prog.looks [] ∧ ∀ (j : Nat) t, fn.params[j]? = some t → Tryz.pinned.checked.prog.wantsStandIn t = false := by
  obtain rfl : f = 16 := Option.some.inj ((show Tryz.prog.funcNamed "epact/epactlaw29.ScriptHex" = some 16 by kernel_rfl).symm.trans hf) |>.symm
  obtain rfl : fn = Tryz.f16 := (Option.some.inj (Tryz.func16.symm.trans hfn)).symm
  refine ⟨by kernel_rfl, fun j t ht => ?_⟩
  rw [Tryz.params16] at ht
  have hm : t ∈ [48] := by simpa using Array.mem_of_getElem? ht
  have hall : ([48].all fun u => !Tryz.prog.wantsStandIn u) = true := by kernel_rfl
  exact (show Tryz.prog.wantsStandIn t = false by simpa using List.all_eq_true.1 hall t hm)
theorem card : Rows.ScriptHexUptoCardSaid :=
  Claim7.holds_tied_plain_at .later [] _ _ _ _ over (fun _ h => by cases h) (by kernel_rfl) (fun _ h => by cases h) scriptHexUpto_row_tie rfl ⟨rfl, rfl⟩ (by kernel_rfl) rfl plain (by kernel_rfl)
#print axioms card
end Go.Proofs.YtldofkogmkfpjaaGreatDoor.scriptHexUpto
namespace Go.Proofs.YtldofkogmkfpjaaGreatDoor
theorem scriptHexUpto_card : Rows.ScriptHexUptoCardSaid := scriptHexUpto.card
end Go.Proofs.YtldofkogmkfpjaaGreatDoor
