/-
  LexJoins returns true for every input, and never panics; the input reads as it did. On the condition of the row: what is read is of bulk at most 1048576, and the listed variables read as the text lays them; the card ties that to the program's text.
-/
import Derived.Test.YtldofkogmkfpjaaDoorRows
import Derived.Test.YtldofkogmkfpjaaDoorCards
import Derived.Test.YtldofkogmkfpjaaDoorTie
import Derived.Test.YtldofkogmkfpjaaDoorSyStrs
import Derived.Test.YtldofkogmkfpjaaDoorDeSyLexJ
import Derived.Test.YtldofkogmkfpjaaDoorDeSyLaidLex
import Derived.Lay
import Derived.WalkKit
import Derived.ShutString
import Derived.SevenTiedAt
namespace Go.Proofs.YtldofkogmkfpjaaDoor.lexJoinsUpto
open Go Go.Ev Go.Sy Go.ChangeShapes Go.WideShapes Go.ChangeAt Go.WideMaps Go.WideElems Go.RowKit Go.Joins
open Go.ChangeMaps (open_string shut_string)
set_option linter.unusedVariables false
set_option linter.unusedSimpArgs false
set_option maxRecDepth 100000
theorem own : ownKnob Tryd.prog.godebug = none := by kernel_rfl
theorem laidOut : laidOutB Tryd.prog = true := by kernel_rfl
theorem bulk_strs {H : Type} (ss : List ByteArray) : (joinL (ss.map fun s => s.data.toList)).length ≤ Rows.uptoBulkAll (strs (H := H) ss) := by
  rw [joinL_len]
  induction ss with
  | nil => exact Nat.le_refl _
  | cons s ss ih =>
    show _ ≤ Rows.uptoBulk (DataW.lit (.string s.data.toList) : DataW H) + Rows.uptoBulkAll (strs (H := H) ss)
    rw [Rows.uptoBulk]
    simp only [List.map_cons, List.sum_cons, List.length_cons] at ih ⊢
    omega
theorem door_met (os : Os) : laidMetH Tryd.prog Rows.lexJoinsUptoRow.laid ((World.laidAll Tryd.prog os Rows.lexJoinsUptoRow.laid).forCall (fun _ _ => 0) ⟨#[], #[.slice none 0 0], []⟩).memory :=
  by rw [MakeChecks.laidMetH_plain _ _ _ (by kernel_rfl)]; exact laidMet_laidAll _ (by kernel_rfl) (by kernel_rfl)
theorem reads (os : Os) {H : Type} (enc : TypeId × Value → H) : ∃ places, DataW.whole enc Tryd.prog ((World.laidAll Tryd.prog os Rows.lexJoinsUptoRow.laid).forCall (fun _ _ => 0) ⟨#[], #[.slice none 0 0], []⟩).memory Tryd.f13.params.toList Rows.lexJoinsSpec.vars false #[.slice none 0 0].toList 8 = some ([.nil], [], places) :=
  ⟨[], by kernel_rfl⟩
theorem lifted (os : Os) (started : os.Started) (H : Type) (enc : TypeId × Value → H) (F : Stop.Interp) :
    ReturnsInHanded {} Tryd.checked os 13 .any ((Rows.OpenSpec.upto Rows.lexJoinsSpec).preRow enc Tryd.prog Tryd.f13 Rows.lexJoinsUptoRow.domain false Rows.lexJoinsUptoRow.laid) (((Rows.OpenSpec.upto Rows.lexJoinsSpec).at F).post enc Tryd.prog Tryd.f13 false true false false) := by
  obtain ⟨places, hx⟩ := reads os enc
  refine returnsInHanded_of_row (C := Tryd.checked) (s := Rows.OpenSpec.upto Rows.lexJoinsSpec) own started (by kernel_rfl) Tryd.func13
    (witness_row_sh (enc := enc) (C := Tryd.checked) (World.laidAll Tryd.prog os Rows.lexJoinsUptoRow.laid) #[.slice none 0 0] (World.laidAll_os _ _ _) (World.shaped_of_ZipB (by kernel_rfl) (by kernel_rfl)) (by kernel_rfl)
      (OpenSpec.preRow_of_cond 8 hx (by kernel_rfl) (fun k hk => by cases hk; kernel_rfl) (by kernel_rfl) (door_met os))) ?_
  intro W base args ds gs before hval0 hW _ hcond hsz0 hL _ _
  have hval : ∀ (j : Nat) t v, Tryd.f13.params[j]? = some t → args[j]? = some v → Value.okWide Tryd.prog W .any base t v := hval0
  have hW' := hW
  obtain ⟨p, q, hA0, hV, rfl, hfz, hnd⟩ := hW
  have hA : DataW.TrodAll enc Tryd.prog W 0 (fun _ => true) true Tryd.f13.params.toList args.toList ds p := hA0
  have hsz := hsz0
  rw [Tryd.params13] at hA hval hsz
  obtain ⟨v0, vs0, d0, ds0, p0, q0, hargs, rfl, rfl, h0, r0⟩ := trodAll_cons hA
  obtain ⟨rfl, rfl, rfl⟩ := trodAll_nil r0
  obtain rfl : args = #[v0] := by cases args; simp_all
  obtain ⟨rfl, rfl⟩ := trodVars_none hV
  clear hA0 hval0 hsz0
  have hbulk := of_decide_eq_true (hcond _ rfl)
  have hk0 := h0
  have hlt0 : ∀ y ∈ p0, y.block < W.heap.size := fun y hy => by simpa using hW'.lt y (by simp [hy])
  obtain ⟨o0, len0, cap0, rfl⟩ := okWide_slice Tryd.underlying69 (hval 0 69 v0 rfl rfl)
  have hi0 : ∃ L : List (List UInt8), (joinL L).length ≤ 2097152 ∧ Rep1 cfg id (memOf W) (.c (Cl.rows [.str] (L.map fun l => [D.s (tx l)])).den) (.slice o0 len0 cap0) := by
    obtain ⟨fuel, hf⟩ := h0
    rcases open_strings Tryd.underlying69 Tryd.underlying9 (by kernel_rfl) hf with ⟨hcs, hx⟩ | ⟨a, len', cap', ss, hcs, _, hl, hmx, hlen, hx, hcell, hwz⟩
    · simp [Value.cells] at hcs
      obtain ⟨rfl, rfl, rfl⟩ := hcs
      exact ⟨[], by decide, rep_norows⟩
    · simp [Value.cells] at hcs
      obtain ⟨rfl, rfl, rfl⟩ := hcs
      simp only [Prod.mk.injEq] at hx
      obtain ⟨rfl, rfl⟩ := hx
      have hlz : len0 ≤ ss.length := by rw [hlen]; split <;> omega
      refine ⟨(ss.take len0).map fun s => s.data.toList, ?_, rep_rows hl hlz hcell⟩
      have hb := bulk_strs (H := H) (ss.take len0)
      simp only [Rows.uptoBulkAll, Rows.uptoBulk, List.append_nil, List.nil_append, List.cons_append] at hbulk
      omega
  obtain ⟨L0, hl0, hr0⟩ := hi0
  refine (law_calls (C := cfg) (wf_lex hL) (lxjoins_ok L0 hl0) rfl fun i h1 h2 => by
    match i, h1 with
    | 0, _ => exact hr0
    ).mono fun e W' ⟨he, bel⟩ => ?_
  subst he
  exact ⟨_, rfl, _, _, _, [], _, [], hW', trodAll_mk1 (shut_bool Tryd.underlying4 _), (trodAll_cons_mk (Below.trod laidOut (by kernel_rfl) (of_decide_eq_true (by kernel_rfl)) hk0 bel hlt0) trodAll_mk0), rfl, bel.frame _, fun h => by cases h⟩
theorem over : Rows.LexJoinsUptoSaid :=
  OpenClaim.holds_of_cond 13 Tryd.f13 rfl rfl rfl rfl rfl rfl rfl ⟨rfl, rfl, rfl, rfl, rfl⟩ rfl rfl rfl rfl rfl (by kernel_rfl) Tryd.func13 (by kernel_rfl)
    (of_decide_eq_true (by kernel_rfl)) (by unfold Func.isWrapper; first | (rw [if_pos (by decide +kernel)]; kernel_rfl) | (rw [if_neg (by decide +kernel)]; exact ⟨rfl, rfl⟩))
    (fun os started H enc _ F => by rw [OpenClaim.pre_eq_preRow]; exact lifted os started H enc F)
theorem plain (f : FuncId) (fn : Func) (hf : Tryd.pinned.checked.prog.funcNamed "epact/epactlaw10.LexJoins" = some f) (hfn : Tryd.pinned.checked.prog.funcs[f]? = some fn) :
    true = Tryd.pinned.checked.prog.looks [] ∧ ∀ (j : Nat) t, fn.params[j]? = some t → Tryd.pinned.checked.prog.wantsStandIn t = false := by
  obtain rfl : f = 13 := Option.some.inj ((show Tryd.prog.funcNamed "epact/epactlaw10.LexJoins" = some 13 by kernel_rfl).symm.trans hf) |>.symm
  obtain rfl : fn = Tryd.f13 := (Option.some.inj (Tryd.func13.symm.trans hfn)).symm
  refine ⟨by kernel_rfl, fun j t ht => ?_⟩
  rw [Tryd.params13] at ht
  have hm : t ∈ [69] := by simpa using Array.mem_of_getElem? ht
  have hall : ([69].all fun u => !Tryd.prog.wantsStandIn u) = true := by kernel_rfl
  exact (show Tryd.prog.wantsStandIn t = false by simpa using List.all_eq_true.1 hall t hm)
theorem card : Rows.LexJoinsUptoCardSaid :=
  Claim7.holds_tied_plain_at .later [] _ _ _ _ over (fun _ h => by cases h) (by kernel_rfl) (fun _ h => by cases h) lexJoinsUpto_row_tie rfl ⟨rfl, rfl⟩ (by kernel_rfl) rfl plain (by kernel_rfl)
#print axioms card
end Go.Proofs.YtldofkogmkfpjaaDoor.lexJoinsUpto
namespace Go.Proofs.YtldofkogmkfpjaaDoor
theorem lexJoinsUpto_card : Rows.LexJoinsUptoCardSaid := lexJoinsUpto.card
end Go.Proofs.YtldofkogmkfpjaaDoor
