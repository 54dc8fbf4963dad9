/-
  A slice of texts, as a claim opens it.
-/
import Derived.Test.YtldofkogmkfpjaaDoorSyB
import Derived.Test.YtldofkogmkfpjaaDoorPLexJ
import Derived.OpenShut
import Derived.SliceStrings
namespace Go.Sy
open Go Go.Ev
set_option linter.unusedVariables false
theorem rep_strs {C : Cfg} {W : World} {a : Addr} {len cap : Nat} {ss : List ByteArray} (hle : len ≤ cap) (hlz : len ≤ ss.length)
    (hcell : ∀ i, i < ss.length → W.cell? (a.add i) = some (.string (ss.getD i ByteArray.empty))) : RepI C (memOf W) (.list len ((ss.take len).map fun s => AC.lit (.string s))) (.slice (some a) len cap) := by
  by_cases h0 : len = 0
  · subst h0
    exact .list (some a) 0 cap [] 0 0 (fun _ => undef) (Nat.zero_le _) (fun h => absurd rfl h) (fun i hi => absurd hi (Nat.not_lt_zero _)) (fun i hi => absurd hi (Nat.not_lt_zero _))
  · obtain ⟨b, off, spot⟩ := a
    have hspot : spot = none := by simpa [Addr.add] using World.cell?_spot (hcell 0 (by omega))
    subst hspot
    have hc : ∀ j, j < ss.length → W.cell? ⟨b, off + j, none⟩ = some (.string (ss.getD j ByteArray.empty)) := fun j hj => by rw [← Go.WideShapes.add_plain]; exact hcell j hj
    have hlen : ((ss.take len).map fun s => AC.lit (.string s)).length = len := by rw [List.length_map, List.length_take]; omega
    refine .list _ len cap _ b off (fun i => .string (ss.getD i ByteArray.empty)) hle (fun _ => rfl) (fun i hi => ⟨?_, hc i (by omega)⟩) (fun i hi => ?_)
    · have := hc i (by omega)
      show b < W.heap.size
      rcases Nat.lt_or_ge b W.heap.size with h | h
      · exact h
      · simp [World.cell?, Array.getElem?_eq_none h] at this
    · simp only [List.getElem_map, List.getElem_take]
      rw [List.getD_eq_getElem?_getD, List.getElem?_eq_getElem (by omega)]
      exact .lit _
theorem rows_strs (ss : List ByteArray) : rowsL [.str] ((ss.map fun s => s.data.toList).map fun l => [D.s (tx l)]) = ss.map fun s => AC.lit (.string s) := by
  induction ss with
  | nil => rfl
  | cons s ss ih =>
    rw [List.map_cons, List.map_cons, List.map_cons, ← ih]
    show AC.lit (.string (tx s.data.toList)) :: _ = _
    rw [toList_tx]; rfl
theorem rep_rows {C : Cfg} {W : World} {a : Addr} {len cap : Nat} {ss : List ByteArray} (hle : len ≤ cap) (hlz : len ≤ ss.length)
    (hcell : ∀ i, i < ss.length → W.cell? (a.add i) = some (.string (ss.getD i ByteArray.empty))) : Rep1 C id (memOf W) (.c (Cl.rows [.str] (((ss.take len).map fun s => s.data.toList).map fun l => [D.s (tx l)])).den) (.slice (some a) len cap) := by
  show Rep1 C id (memOf W) (.c (.list _ (rowsL [.str] _))) _
  rw [rows_strs, List.length_map, List.length_map, List.length_take, Nat.min_eq_left hlz]
  exact RepC.of_I (μ := id) (rep_strs hle hlz hcell)
theorem rep_norows {C : Cfg} {W : World} : Rep1 C id (memOf W) (.c (Cl.rows [.str] (([] : List (List UInt8)).map fun l => [D.s (tx l)])).den) (.slice none 0 0) := RepC.of_I (μ := id) (litP_rep (.slice none 0 0))
end Go.Sy
