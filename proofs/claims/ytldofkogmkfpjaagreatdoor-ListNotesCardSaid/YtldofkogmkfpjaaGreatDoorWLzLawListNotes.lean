/-
  ListNotes returns true for every input, and never panics; the input reads as it did. On the condition of the row: the listed variables read as the text lays them; the card ties that to the program's text.
-/
import Derived.Test.YtldofkogmkfpjaaGreatDoorRows
import Derived.Test.YtldofkogmkfpjaaGreatDoorCards
import Derived.Test.YtldofkogmkfpjaaGreatDoorTie
import Derived.Test.YtldofkogmkfpjaaGreatDoorWLzSyList10
import Derived.Test.YtldofkogmkfpjaaGreatDoorWLzSyLaid
import Derived.Lay
import Derived.WalkKit
import Derived.ShutString
import Derived.SevenTiedAt
namespace Go.Proofs.YtldofkogmkfpjaaGreatDoor.listNotes
open Go Go.Ev Go.Sy Go.ChangeShapes Go.WideShapes Go.ChangeAt Go.WideMaps Go.WideElems Go.RowKit Go.Joins
open Go.ChangeMaps (open_string shut_string)
set_option linter.unusedVariables false
set_option linter.unusedSimpArgs false
set_option maxRecDepth 100000
theorem own : ownKnob Tryz.prog.godebug = none := by kernel_rfl
theorem laidOut : laidOutB Tryz.prog = true := by kernel_rfl
theorem fact0 : (Rows.listNotesRow.wf (OpenSpec.ofChange (OpenSpec.ofChange Rows.listNotesSpec).bare)) = true := by kernel_rfl
theorem fact1 : (laidOutB Tryz.prog) = true := by kernel_rfl
theorem fact2 : (mapsRowed Tryz.prog) = true := by kernel_rfl
theorem fact3 : (Tryz.f10.params.all (Tryz.prog.readableRec ·)) = true := by kernel_rfl
theorem fact4 : (namedTie Tryz.prog Rows.listNotesRow.named (OpenSpec.ofChange Rows.listNotesSpec).bare.vars) = true := by kernel_rfl
theorem fact5 : ((Rows.listNotesRow.stops == [])) = true := by kernel_rfl
theorem fact6 : ((Tryz.prog.stops == [])) = true := by kernel_rfl
theorem fact7 : ((Rows.listNotesRow.knobs == [])) = true := by kernel_rfl
theorem fact8 : ((Tryz.prog.stopKnobs == [])) = true := by kernel_rfl
theorem fact9 : ((Rows.listNotesRow.inPlace == Tryz.prog.inPlace 10)) = true := by kernel_rfl
theorem fact10 : ((Rows.listNotesRow.unfollowed == Tryz.prog.unfollowed 10)) = true := by kernel_rfl
theorem fact11 : ((Rows.listNotesRow.recurses == Tryz.prog.recurses 10)) = true := by kernel_rfl
theorem fact12 : ((Rows.listNotesRow.named == Tryz.prog.varsNamed 10)) = true := by kernel_rfl
theorem fact13 : ((Rows.listNotesRow.maps == (Tryz.f10.params.toList ++ (OpenSpec.ofChange Rows.listNotesSpec).bare.plain.varTypes Tryz.prog).any (Tryz.prog.mapsRec ·))) = true := by kernel_rfl
theorem fact14 : ((Rows.listNotesRow.ifaces == (Tryz.f10.params.toList ++ (OpenSpec.ofChange Rows.listNotesSpec).bare.plain.varTypes Tryz.prog).any (Tryz.prog.ifacesRec ·))) = true := by kernel_rfl
theorem fact15 : ((Rows.listNotesRow.mapsOut == Tryz.prog.mapsAmong Tryz.f10.resultTypes.toList)) = true := by kernel_rfl
theorem fact16 : ((Rows.listNotesRow.loops == (Tryz.f10.params.toList ++ (OpenSpec.ofChange Rows.listNotesSpec).bare.plain.varTypes Tryz.prog).any (Tryz.prog.loopsFrom ·))) = true := by kernel_rfl
theorem fact17 : ((Rows.listNotesRow.wideKeys == (Tryz.f10.params.toList ++ (OpenSpec.ofChange Rows.listNotesSpec).bare.plain.varTypes Tryz.prog ++ Tryz.f10.resultTypes.toList).any (Tryz.prog.wideKeysFrom ·))) = true := by kernel_rfl
theorem fact18 : ((OpenSpec.ofChange Rows.listNotesSpec).bare.vars.all (Tryz.prog.varReadable ·)) = true := by kernel_rfl
theorem fact19 : (Tryz.f10.resultTypes.all (fun t => Tryz.prog.readableRec t && decide (t < Tryz.prog.types.size))) = true := by kernel_rfl
theorem fact20 : ((Rows.listNotesRow.ifacesOut == Tryz.f10.resultTypes.toList.any (Tryz.prog.ifacesRec ·))) = true := by kernel_rfl
theorem fact21 : ((Rows.listNotesRow.loopsOut == Tryz.f10.resultTypes.toList.any (Tryz.prog.loopsFrom ·))) = true := by kernel_rfl
theorem fact22 : ((Rows.listNotesRow.plainKeys == Tryz.prog.plainKeys)) = true := by kernel_rfl
theorem fact23 : (Rows.listNotesRow.shortTexts.isNone) = true := by kernel_rfl
theorem fact24 : (Tryz.prog.stopsHeard) = true := by kernel_rfl
theorem fact25 : (Tryz.prog.mayEnter) = true := by kernel_rfl
theorem fact26 : ((Rows.listNotesRow.lifted == Tryz.prog.liftsFinal)) = true := by kernel_rfl
theorem fact27 : ((Tryz.prog.make == some Rows.listNotesRow.make)) = true := by kernel_rfl
theorem fact28 : ((Rows.listNotesRow.pinned == Rows.listNotesRow.pinnedBy)) = true := by kernel_rfl
theorem fact29 : ((Rows.listNotesRow.veiled == (Tryz.f10.params.toList ++ (OpenSpec.ofChange Rows.listNotesSpec).bare.plain.varTypes Tryz.prog ++ Tryz.f10.resultTypes.toList).any (Tryz.prog.veiledRec ·))) = true := by kernel_rfl
theorem fact30 : (Rows.listNotesRow.veiledFits Tryz.prog Tryz.f10.params.toList (Tryz.f10.params.toList ++ (OpenSpec.ofChange Rows.listNotesSpec).bare.plain.varTypes Tryz.prog ++ Tryz.f10.resultTypes.toList)) = true := by kernel_rfl
theorem closed : joinedFacts Tryz.prog 10 Tryz.f10 (OpenSpec.ofChange Rows.listNotesSpec).bare Rows.listNotesRow = true := by
  unfold joinedFacts
  rw [fact0, fact1, fact2, fact3, fact4, fact5, fact6, fact7, fact8, fact9, fact10, fact11, fact12, fact13, fact14, fact15, fact16, fact17, fact18, fact19, fact20, fact21, fact22, fact23, fact24, fact25, fact26, fact27, fact28, fact29, fact30]
  kernel_rfl
theorem door_met (os : Os) : laidMetH Tryz.prog Rows.listNotesRow.laid ((World.laidAll Tryz.prog os Rows.listNotesRow.laid).forCall (fun _ _ => 0) ⟨#[], #[.agg #[.int .i64 0, .int .i64 0, .slice none 0 0], .string .empty, .int .u8 0, .int .u8 0], []⟩).memory :=
  by rw [MakeChecks.laidMetH_plain _ _ _ (by kernel_rfl)]; exact laidMet_laidAll _ (by kernel_rfl) (by kernel_rfl)
theorem reads (os : Os) {H : Type} (enc : TypeId × Value → H) : ∃ places, DataW.whole enc Tryz.prog ((World.laidAll Tryz.prog os Rows.listNotesRow.laid).forCall (fun _ _ => 0) ⟨#[], #[.agg #[.int .i64 0, .int .i64 0, .slice none 0 0], .string .empty, .int .u8 0, .int .u8 0], []⟩).memory Tryz.f10.params.toList Rows.listNotesSpec.vars false #[.agg #[.int .i64 0, .int .i64 0, .slice none 0 0], .string .empty, .int .u8 0, .int .u8 0].toList 8 = some ([.agg [.lit (.int .i64 0), .lit (.int .i64 0), .nil], .lit (.string []), .lit (.int .u8 0), .lit (.int .u8 0)], [], places) :=
  ⟨[], by kernel_rfl⟩
theorem lifted (os : Os) (started : os.Started) (H : Type) (enc : TypeId × Value → H) (F : Stop.Interp) :
    ReturnsInHanded {} Tryz.checked os 10 .any ((OpenSpec.ofChange Rows.listNotesSpec).preRow enc Tryz.prog Tryz.f10 Rows.listNotesRow.domain false Rows.listNotesRow.laid) (((OpenSpec.ofChange Rows.listNotesSpec).at F).post enc Tryz.prog Tryz.f10 false true false false) := by
  obtain ⟨places, hx⟩ := reads os enc
  refine returnsInHanded_of_row (C := Tryz.checked) (s := OpenSpec.ofChange Rows.listNotesSpec) own started (by kernel_rfl) Tryz.func10
    (witness_row_sh (enc := enc) (C := Tryz.checked) (World.laidAll Tryz.prog os Rows.listNotesRow.laid) #[.agg #[.int .i64 0, .int .i64 0, .slice none 0 0], .string .empty, .int .u8 0, .int .u8 0] (World.laidAll_os _ _ _) (World.shaped_of_ZipB (by kernel_rfl) (by kernel_rfl)) (by kernel_rfl)
      (OpenSpec.preRow_of_cond 8 hx (by kernel_rfl) (fun k hk => by cases hk) (by kernel_rfl) (door_met os))) ?_
  intro W base args ds gs before hval0 hW _ hcond hsz0 hL _ _
  have hval : ∀ (j : Nat) t v, Tryz.f10.params[j]? = some t → args[j]? = some v → Value.okWide Tryz.prog W .any base t v := hval0
  have hW' := hW
  obtain ⟨p, q, hA0, hV, rfl, hfz, hnd⟩ := hW
  have hA : DataW.TrodAll enc Tryz.prog W 0 (fun _ => true) true Tryz.f10.params.toList args.toList ds p := hA0
  have hsz := hsz0
  rw [Tryz.params10] at hA hval hsz
  obtain ⟨v0, vs0, d0, ds0, p0, q0, hargs, rfl, rfl, h0, r0⟩ := trodAll_cons hA
  obtain ⟨v1, vs1, d1, ds1, p1, q1, rfl, rfl, rfl, h1, r1⟩ := trodAll_cons r0
  obtain ⟨v2, vs2, d2, ds2, p2, q2, rfl, rfl, rfl, h2, r2⟩ := trodAll_cons r1
  obtain ⟨v3, vs3, d3, ds3, p3, q3, rfl, rfl, rfl, h3, r3⟩ := trodAll_cons r2
  obtain ⟨rfl, rfl, rfl⟩ := trodAll_nil r3
  obtain rfl : args = #[v0, v1, v2, v3] := by cases args; simp_all
  obtain ⟨rfl, rfl⟩ := trodVars_none hV
  clear hA0 hval0 hsz0
  have hk0 := h0
  have hlt0 : ∀ y ∈ p0, y.block < W.heap.size := fun y hy => by simpa using hW'.lt y (by simp [hy])
  obtain ⟨c0, c1, c2, y0, y1, y2, m, rfl, rfl, rfl, hy0, hy1, hy2⟩ := open_agg3 Tryz.underlying38 (by kernel_rfl) (show Tryz.prog.cellsOf 38 = 3 by kernel_rfl) (hval 0 38 v0 rfl rfl) h0
  obtain ⟨c0_0, e0, rfl, wc0_0⟩ := DataW.trod_int Tryz.underlying3 hy0
  have wc0_0 := wf_i64 wc0_0
  obtain ⟨c0_1, e1, rfl, wc0_1⟩ := DataW.trod_int Tryz.underlying3 hy1
  have wc0_1 := wf_i64 wc0_1
  simp at e0 e1
  subst e0 e1
  obtain ⟨L0, lL0, rL0⟩ := open_pairs (C := cfg) Tryz.underlying36 Tryz.underlying92 (by kernel_rfl) (show Tryz.prog.cellsOf 92 = 2 by kernel_rfl) Tryz.underlying3 Tryz.underlying3 hy2
  have hk1 := h1
  have hlt1 : ∀ y ∈ p1, y.block < W.heap.size := fun y hy => by simpa using hW'.lt y (by simp [hy])
  obtain ⟨s1, rfl, rfl, rfl, l1⟩ := open_string Tryz.underlying9 (hval 1 9 v1 rfl rfl) h1
  have z1 : s1.size < 140737488355328 := by
    have z1 := sized_string hsz (j := 1) (t := 9) rfl rfl
    have z2 := reachBytes_lt
    have z3 : s1.data.toList.length = s1.size := Array.length_toList
    omega
  have hk2 := h2
  have hlt2 : ∀ y ∈ p2, y.block < W.heap.size := fun y hy => by simpa using hW'.lt y (by simp [hy])
  obtain ⟨a2, rfl, rfl, rfl, w2⟩ := open_int Tryz.underlying5 (hval 2 5 v2 rfl rfl) h2
  have w2 := wf_u8 w2
  have hk3 := h3
  have hlt3 : ∀ y ∈ p3, y.block < W.heap.size := fun y hy => by simpa using hW'.lt y (by simp [hy])
  obtain ⟨a3, rfl, rfl, rfl, w3⟩ := open_int Tryz.underlying5 (hval 3 5 v3 rfl rfl) h3
  have w3 := wf_u8 w3
  refine (law_calls (C := cfg) (wf_list hL) (lk10_ok c0_0 c0_1 L0 s1 a2 a3 ⟨(Nat.le_trans lL0 (by decide)), w2, w3⟩) rfl fun i h1 h2 => by
    match i, h1 with
    | 0, _ => exact rep_agg3 (RepC.of_I (.lit _)) (RepC.of_I (.lit _)) rL0
    | 1, _ => exact rep_lit _
    | 2, _ => exact rep_lit _
    | 3, _ => exact rep_lit _
    ).mono fun e W' ⟨he, bel⟩ => ?_
  subst he
  exact ⟨_, rfl, _, _, _, [], _, [], hW', trodAll_mk1 (shut_bool Tryz.underlying4 _), (trodAll_cons_mk (Below.trod laidOut (by kernel_rfl) (of_decide_eq_true (by kernel_rfl)) hk0 bel hlt0) (trodAll_cons_mk (Below.trod laidOut (by kernel_rfl) (of_decide_eq_true (by kernel_rfl)) hk1 bel hlt1) (trodAll_cons_mk (Below.trod laidOut (by kernel_rfl) (of_decide_eq_true (by kernel_rfl)) hk2 bel hlt2) (trodAll_cons_mk (Below.trod laidOut (by kernel_rfl) (of_decide_eq_true (by kernel_rfl)) hk3 bel hlt3) trodAll_mk0)))), rfl, bel.frame _, fun h => by cases h⟩
theorem over : Rows.ListNotesSaid :=
  OpenClaim.holds_of_cond 10 Tryz.f10 rfl rfl rfl rfl rfl rfl rfl ⟨rfl, rfl, rfl, rfl, rfl⟩ rfl rfl rfl rfl rfl (by kernel_rfl) Tryz.func10 closed
    (of_decide_eq_true (by kernel_rfl)) (by unfold Func.isWrapper; first | (rw [if_pos (by decide +kernel)]; kernel_rfl) | (rw [if_neg (by decide +kernel)]; exact ⟨rfl, rfl⟩))
    (fun os started H enc _ F => by rw [OpenClaim.pre_eq_preRow]; exact lifted os started H enc F)
theorem plain (f : FuncId) (fn : Func) (hf : Tryz.pinned.checked.prog.funcNamed "epact/epactlaw11.ListNotes" = some f) (hfn : Tryz.pinned.checked.prog.funcs[f]? = some fn) :
    true = Tryz.pinned.checked.prog.looks [] ∧ ∀ (j : Nat) t, fn.params[j]? = some t → Tryz.pinned.checked.prog.wantsStandIn t = false := by
  obtain rfl : f = 10 := Option.some.inj ((show Tryz.prog.funcNamed "epact/epactlaw11.ListNotes" = some 10 by kernel_rfl).symm.trans hf) |>.symm
  obtain rfl : fn = Tryz.f10 := (Option.some.inj (Tryz.func10.symm.trans hfn)).symm
  refine ⟨by kernel_rfl, fun j t ht => ?_⟩
  rw [Tryz.params10] at ht
  have hm : t ∈ [38, 9, 5, 5] := by simpa using Array.mem_of_getElem? ht
  have hall : ([38, 9, 5, 5].all fun u => !Tryz.prog.wantsStandIn u) = true := by kernel_rfl
  exact (show Tryz.prog.wantsStandIn t = false by simpa using List.all_eq_true.1 hall t hm)
theorem card : Rows.ListNotesCardSaid :=
  Claim7.holds_tied_plain_at .later [] _ _ _ _ over (fun _ h => by cases h) (by kernel_rfl) (fun _ h => by cases h) listNotes_row_tie rfl ⟨rfl, rfl⟩ (by kernel_rfl) rfl plain (by kernel_rfl)
#print axioms card
end Go.Proofs.YtldofkogmkfpjaaGreatDoor.listNotes
namespace Go.Proofs.YtldofkogmkfpjaaGreatDoor
theorem listNotes_card : Rows.ListNotesCardSaid := listNotes.card
end Go.Proofs.YtldofkogmkfpjaaGreatDoor
