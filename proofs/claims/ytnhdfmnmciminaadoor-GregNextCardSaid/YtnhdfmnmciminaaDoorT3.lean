/-
  What the listed variable's datum gives the walks of layer 5.
-/
import Derived.Test.YtnhdfmnmciminaaDoorT2
import Derived.Test.YtnhdfmnmciminaaDoorRows
import Derived.ProofKit
import Derived.LaidMore
import Derived.OpenShut
import Derived.Stop.Joined
namespace Go.Proofs.YtnhdfmnmciminaaDoor
open Go Go.Ev
open Go.ChangeShapes Go.WideShapes Go.ChangeAt Go.WideMaps Go.WideElems Go.RowKit
def laidL {H : Type} : List (String × DataW H) := [("epact/greg.lengths", Rows.laid_epact_greg_lengths)]
theorem gL : Tryd.prog.globalNamed "epact/greg.lengths" = some 0 := by kernel_rfl
theorem tL : (Tryd.prog.globals[0]?).map (·.type) = some 35 := by kernel_rfl
theorem door_met (os : Os) (args : Array Value) : laidMetH Tryd.prog laidL ((World.doorLaid Tryd.prog 400 os).forCall (fun _ _ => 0) ⟨#[], args, []⟩).memory :=
  laidMetH_of_parts3 (fuel := 8) (laidMet_of_run' 8 (by kernel_rfl) (by kernel_rfl)) (by kernel_rfl) (by kernel_rfl)
def lensI : List Int := [31, 28, 31, 30, 31, 30, 31, 31, 30, 31, 30, 31]
theorem of_laid {W : World} (h : laidMetH Tryd.prog laidL W) : ∀ (i : Nat) (n : Int), lensI[i]? = some n → W.cell? ⟨0, i, none⟩ = some (.int .i64 n) := by
  rw [MakeChecks.laidMetH_plain _ _ _ (by kernel_rfl)] at h
  obtain ⟨ps, ⟨g0, t0, cs0, f0, p0, q0, hg0, ht0, hv0, hd0, _⟩, _, _⟩ := h
  obtain rfl := Option.some.inj (gL.symm.trans hg0)
  obtain rfl := Option.some.inj (tL.symm.trans ht0)
  obtain ⟨xs, m1, rfl, hx1, hlen, hn3, hel⟩ := DataW.trod_array Tryd.underlying35 hd0
  have c3 : Tryd.prog.cellsOf 3 = 1 := by kernel_rfl
  intro i n hi
  have hi12 : i < 12 := (List.getElem?_eq_some_iff.1 hi).1
  have hm : xs.map (·.1) = lensI.map fun n => DataW.lit (Lit.int .i64 n) := by
    have := congrArg Prod.fst hx1
    simp only [Rows.laid_epact_greg_lengths, DataW.agg.injEq] at this
    rw [← this]; rfl
  have hl : i < xs.length := by omega
  have hxi : (xs[i]'hl).1 = DataW.lit (Lit.int .i64 n) := by
    have := congrArg (·[i]?) hm
    simp only [List.getElem?_map, hi, Option.map_some, List.getElem?_eq_getElem hl, Option.some.injEq] at this
    exact this
  have he := hel i hi12
  rw [c3, Nat.mul_one, List.getElem?_eq_getElem hl] at he
  obtain ⟨k, e1, e2, _⟩ := DataW.trod_int Tryd.underlying3 he
  rw [e2] at hxi
  have hk : k = n := by simpa using hxi
  subst hk
  rw [World.var?_cell hg0 hv0 i, ← Array.getElem?_toList]
  have : (cs0.toList.drop i)[0]? = some (.int .i64 k) := by
    cases hd : cs0.toList.drop i with
    | nil => rw [hd] at e1; simp at e1
    | cons c l => rw [hd] at e1; simp at e1; simp [e1]
  simpa using this
theorem wf_lens {W : World} (h : ∀ (i : Nat) (n : Int), lensI[i]? = some n → W.cell? ⟨0, i, none⟩ = some (.int .i64 n)) : Wf cfg (memOf W) := by
  have hl : ∀ i : Nat, lens[i]? = (lensI[i]?).map fun n => AC.lit (.int .i64 n) := fun i => by
    show (lensI.map fun n => AC.lit (.int .i64 n))[i]? = _
    rw [List.getElem?_map]
  have len : lens.length = 12 := rfl
  have leni : lensI.length = 12 := rfl
  have h0 : 0 < W.heap.size := by
    have := h 0 31 rfl
    rcases Nat.eq_zero_or_pos W.heap.size with e | e
    · have : W.heap[0]? = .none := Array.getElem?_eq_none (by omega)
      simp [World.cell?, this] at *
    · exact e
  refine ⟨fun b o h => ⟨h, fun h => h⟩, fun b h => h.elim, fun g flat e => ?_⟩
  match g, e with
  | 0, e =>
    obtain rfl : lens = flat := Option.some.inj e
    refine RepI.iptr lens 0 0 (fun i => .int .i64 (lensI.getD i 0)) (fun i hi => ⟨h0, ?_⟩) (fun i hi => ?_)
    · have hi' : i < lensI.length := by omega
      have := h i lensI[i] (List.getElem?_eq_getElem hi')
      rw [Nat.zero_add]
      show W.cell? ⟨0, i, none⟩ = _
      rw [this, List.getD_eq_getElem?_getD, List.getElem?_eq_getElem hi']; rfl
    · have hi' : i < lensI.length := by omega
      have e := hl i
      rw [List.getElem?_eq_getElem hi, List.getElem?_eq_getElem hi'] at e
      rw [Option.map_some] at e
      rw [Option.some.inj e, List.getD_eq_getElem?_getD, List.getElem?_eq_getElem hi']
      exact RepI.lit _
  | n + 1, e => cases e
theorem gregMonths_walk (y m n : Int) (W : World) (hL : laidMetH Tryd.prog laidL W) : Calls Tryd.prog 3 #[.int .i64 y, .int .i64 m, .int .i64 n] W fun e W' => e = .returned (.bool true) ∧ Below W.heap.size W W' :=
  law_calls (C := cfg) (wf_lens (of_laid hL)) (lmonths_ok y m n) rfl fun i h1 h2 => by
    match i, h1 with
    | 0, _ => exact rep_lit _
    | 1, _ => exact rep_lit _
    | 2, _ => exact rep_lit _
theorem gregDays_walk (y m d : Int) (W : World) (hL : laidMetH Tryd.prog laidL W) : Calls Tryd.prog 4 #[.agg #[.int .i64 y, .int .i64 m, .int .i64 d]] W fun e W' => e = .returned (.bool true) ∧ Below W.heap.size W W' :=
  law_calls (C := cfg) (wf_lens (of_laid hL)) (ldays_ok y m d) rfl fun i h1 h2 => by
    match i, h1 with
    | 0, _ => exact rep_lits [.int .i64 y, .int .i64 m, .int .i64 d]
end Go.Proofs.YtnhdfmnmciminaaDoor
