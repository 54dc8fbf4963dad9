/-
  What the listed variable's datum gives the walks.
-/
import Derived.Test.YtldofkogmkfpjaaDoorSyTop
import Derived.Test.YtldofkogmkfpjaaDoorSyTy
import Derived.Test.YtldofkogmkfpjaaDoorRows
import Derived.ProofKit
import Derived.LaidMore
import Derived.OpenShut
import Derived.Stop.Joined
namespace Go.Proofs.YtldofkogmkfpjaaDoor
open Go Go.Sy
open Go.ChangeShapes Go.WideShapes Go.ChangeAt Go.WideMaps Go.WideElems Go.RowKit
def laidL {H : Type} : List (String × DataW H) := [("epact/greg.lengths", Rows.laid_epact_greg_lengths)]
theorem gL : Tryd.prog.globalNamed "epact/greg.lengths" = some 0 := by kernel_rfl
theorem tL : (Tryd.prog.globals[0]?).map (·.type) = some 176 := by kernel_rfl
theorem door_met (os : Os) (args : Array Value) : laidMetH Tryd.prog laidL ((World.doorLaid Tryd.prog 400 os).forCall (fun _ _ => 0) ⟨#[], args, []⟩).memory :=
  laidMetH_of_parts3 (fuel := 8) (laidMet_of_run' 8 (by kernel_rfl) (by kernel_rfl)) (by kernel_rfl) (by kernel_rfl)
def lensI : List Int := [31, 28, 31, 30, 31, 30, 31, 31, 30, 31, 30, 31]
theorem of_laid {W : World} (h : laidMetH Tryd.prog laidL W) : ∀ (i : Nat) (n : Int), lensI[i]? = some n → W.cell? ⟨0, i, none⟩ = some (.int .i64 n) := by
  rw [MakeChecks.laidMetH_plain _ _ _ (by kernel_rfl)] at h
  obtain ⟨ps, ⟨g0, t0, cs0, f0, p0, q0, hg0, ht0, hv0, hd0, _⟩, _, _⟩ := h
  obtain rfl := Option.some.inj (gL.symm.trans hg0)
  obtain rfl := Option.some.inj (tL.symm.trans ht0)
  obtain ⟨xs, m1, rfl, hx1, hlen, hn3, hel⟩ := DataW.trod_array Tryd.underlying176 hd0
  have c3 : Tryd.prog.cellsOf 3 = 1 := by kernel_rfl
  intro i n hi
  have hi12 : i < 12 := (List.getElem?_eq_some_iff.1 hi).1
  have hm : xs.map (·.1) = lensI.map fun n => DataW.lit (Lit.int .i64 n) := by
    have := congrArg Prod.fst hx1
    simp only [Rows.laid_epact_greg_lengths, DataW.agg.injEq] at this
    rw [← this]; rfl
  have hl : i < xs.length := by omega
  have hxi : (xs[i]'hl).1 = DataW.lit (Lit.int .i64 n) := by
    have := congrArg (·[i]?) hm
    simp only [List.getElem?_map, hi, Option.map_some, List.getElem?_eq_getElem hl, Option.some.injEq] at this
    exact this
  have he := hel i hi12
  rw [c3, Nat.mul_one, List.getElem?_eq_getElem hl] at he
  obtain ⟨k, e1, e2, _⟩ := DataW.trod_int Tryd.underlying3 he
  rw [e2] at hxi
  have hk : k = n := by simpa using hxi
  subst hk
  rw [World.var?_cell hg0 hv0 i, ← Array.getElem?_toList]
  have : (cs0.toList.drop i)[0]? = some (.int .i64 k) := by
    cases hd : cs0.toList.drop i with
    | nil => rw [hd] at e1; simp at e1
    | cons c l => rw [hd] at e1; simp at e1; simp [e1]
  simpa using this

theorem wf_laid {W : World} (h : laidMetH Tryd.prog laidL W) : Ev.Wf cfg (Sy.memOf W) := wf_memOf W fun g flat e => by
  match g, e with
  | 0, e =>
    have e : some (denE [.arr .i64 12 [31, 28, 31, 30, 31, 30, 31, 31, 30, 31, 30, 31]]) = some flat := e
    cases e
    exact rep_var (of_laid h)
  | n + 1, e => cases e
end Go.Proofs.YtldofkogmkfpjaaDoor
