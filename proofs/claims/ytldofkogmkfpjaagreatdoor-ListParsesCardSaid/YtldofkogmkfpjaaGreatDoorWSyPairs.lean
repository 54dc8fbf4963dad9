/-
  A struct of two whole numbers and a slice of structs of two whole numbers, as a claim opens it.
-/
import Derived.Test.YtldofkogmkfpjaaGreatDoorWSyB
import Derived.Test.YtldofkogmkfpjaaGreatDoorWPListD
import Derived.OpenShut
import Derived.SliceStrings
import Derived.ChangeSame
import Derived.Lib.SmallJoins
namespace Go.Sy
open Go Go.Ev Go.ChangeShapes Go.WideShapes Go.RowKit Go.Deep Go.Joins
set_option linter.unusedVariables false
section
variable {H : Type} {enc : TypeId × Value → H} {P : Program} {W : World} {spare : Nat → Bool} {held : Bool}
theorem rowsL_pairs (L : List (Int × Int)) : rowsL [.int .i64, .int .i64] (L.map rowP) = L.flatMap fun p => [AC.lit (.int .i64 p.1), AC.lit (.int .i64 p.2)] := by
  induction L with
  | nil => rfl
  | cons p L ih => rw [List.map_cons, rowsL, List.flatMap_cons, List.flatMap_cons, ← ih]; rfl
theorem flat2_at (f g : Int × Int → AC) : ∀ (L : List (Int × Int)) (i : Nat) (h : i < (L.flatMap fun p => [f p, g p]).length), ∃ (h2 : i / 2 < L.length), (L.flatMap fun p => [f p, g p])[i] = if i % 2 = 0 then f (L[i / 2]) else g (L[i / 2])
  | [], i, h => by simp at h
  | p :: L, 0, h => ⟨by simp, rfl⟩
  | p :: L, 1, h => ⟨by simp, rfl⟩
  | p :: L, i + 2, h => by
    obtain ⟨h2, e⟩ := flat2_at f g L i (by simpa using h)
    have hd : (i + 2) / 2 = i / 2 + 1 := by omega
    refine ⟨by rw [hd]; simpa using h2, ?_⟩
    have hm : (i + 2) % 2 = i % 2 := by omega
    simp only [hm, hd, List.getElem_cons_succ]
    rw [← e]; rfl
theorem flat2_len (f g : Int × Int → AC) (L : List (Int × Int)) : (L.flatMap fun p => [f p, g p]).length = 2 * L.length := by
  induction L with
  | nil => rfl
  | cons p L ih => rw [List.flatMap_cons, List.length_append, ih]; simp; omega
/-- The slice's cell stands for rows of pairs. -/
theorem open_pairs {C : Cfg} {t e : TypeId} {f0 f1 : Field} {fuel : Nat} {c : Value} {x : DataW H × List MemPlace} (ht : P.underlying t = some (.slice e)) (hs : P.underlying e = some (.struct #[f0, f1])) (hone : oneCellFields P #[f0, f1] = true) (hC : P.cellsOf e = 2)
    (h0 : P.underlying f0.type = some (.int .i64)) (h1 : P.underlying f1.type = some (.int .i64)) (h : DataW.trod enc P W 0 spare held fuel t [c] = some x) :
    ∃ L : List (Int × Int), L.length ≤ maxLen ∧ RepC C id (memOf W) (Cl.rows [.int .i64, .int .i64] (L.map rowP)).den c := by
  rcases DataW.trod_slice ht h with ⟨h0, _⟩ | ⟨a, len, cap, elems, rest, n, _, hc, rfl, hb, hl, hm, hlen, hel, hsp, hns⟩
  · cases h0
    exact ⟨[], Nat.zero_le _, RepC.of_I (μ := id) (litP_rep (.slice none 0 0))⟩
  cases hc
  have each : ∀ i, i < len → ∃ p : Int × Int, W.cell? ((a.add (i * 2)).add 0) = some (.int .i64 p.1) ∧ W.cell? ((a.add (i * 2)).add 1) = some (.int .i64 p.2) := by
    intro i hi
    have hi' : i < elems.length := by omega
    have := hel i hi
    rw [List.getElem?_eq_getElem hi', hC, Option.bind_eq_some_iff] at this
    obtain ⟨cs, hcs, hy⟩ := this
    obtain ⟨y0, y1, m, _, hln, t0, t1⟩ := trod_struct2 hs hy
    rw [hC] at hln
    obtain ⟨o0, k0⟩ := hone_of hone 0 f0 rfl
    obtain ⟨o1, k1⟩ := hone_of hone 1 f1 rfl
    match cs, hln with
    | [v0, v1], _ =>
    rw [o0, k0] at t0
    rw [o1, k1] at t1
    obtain ⟨z0, e0, _, _⟩ := DataW.trod_int h0 t0
    obtain ⟨z1, e1, _, _⟩ := DataW.trod_int h1 t1
    simp at e0 e1
    unfold World.cells? at hcs
    split at hcs
    · have g0 := mapM_some_get hcs 0 0 rfl
      have g1 := mapM_some_get hcs 1 1 rfl
      exact ⟨(z0, z1), by rw [g0, e0]; rfl, by rw [g1, e1]; rfl⟩
    · cases hcs
  by_cases hz : len = 0
  · subst hz
    exact ⟨[], Nat.zero_le _, RepC.of_I (μ := id) (.list (some a) 0 cap [] 0 0 (fun _ => undef) (Nat.zero_le _) (fun h => absurd rfl h) (fun i hi => absurd hi (Nat.not_lt_zero _)) (fun i hi => absurd hi (Nat.not_lt_zero _)))⟩
  obtain ⟨b, off, spot⟩ := a
  have hspot : spot = none := by
    obtain ⟨p, e0, _⟩ := each 0 (by omega)
    simpa [Addr.add] using World.cell?_spot e0
  subst hspot
  let L : List (Int × Int) := (List.range len).map fun i => if h : i < len then Classical.choose (each i h) else (0, 0)
  have hL : L.length = len := by simp [L]
  have at_ : ∀ i (h : i < len) (h' : i < L.length), W.cell? ⟨b, off + i * 2, none⟩ = some (.int .i64 (L[i]'h').1) ∧ W.cell? ⟨b, off + i * 2 + 1, none⟩ = some (.int .i64 (L[i]'h').2) := fun i h h' => by
    have key := Classical.choose_spec (each i h)
    have e : L[i]'h' = Classical.choose (each i h) := by simp [L, h]
    rw [e]
    simpa [addr_add] using key
  refine ⟨L, by omega, ?_⟩
  show RepC C id (memOf W) (.list (L.map rowP).length (rowsL [.int .i64, .int .i64] (L.map rowP))) _
  rw [List.length_map, hL, rowsL_pairs]
  have hlen2 := flat2_len (fun p => AC.lit (.int .i64 p.1)) (fun p => AC.lit (.int .i64 p.2)) L
  refine RepC.of_I (μ := id) (.list (some ⟨b, off, none⟩) len cap _ b off (fun i => if i % 2 = 0 then .int .i64 (L.getD (i / 2) (0, 0)).1 else .int .i64 (L.getD (i / 2) (0, 0)).2) hl (fun _ => rfl) (fun i hi => ?_) (fun i hi => ?_))
  · obtain ⟨h2, _⟩ := flat2_at (fun p => AC.lit (.int .i64 p.1)) (fun p => AC.lit (.int .i64 p.2)) L i hi
    obtain ⟨q0, q1⟩ := at_ (i / 2) (by omega) h2
    have hg : L.getD (i / 2) (0, 0) = L[i / 2] := by rw [List.getD_eq_getElem?_getD, List.getElem?_eq_getElem h2]; rfl
    have hcell : W.cell? ⟨b, off + i, none⟩ = some (if i % 2 = 0 then .int .i64 (L.getD (i / 2) (0, 0)).1 else .int .i64 (L.getD (i / 2) (0, 0)).2) := by
      rw [hg]
      by_cases hm2 : i % 2 = 0
      · rw [if_pos hm2, ← q0]; congr 2; omega
      · rw [if_neg hm2, ← q1]; congr 2; omega
    refine ⟨?_, hcell⟩
    show b < W.heap.size
    rcases Nat.lt_or_ge b W.heap.size with h | h
    · exact h
    · simp [World.cell?, Array.getElem?_eq_none h] at hcell
  · obtain ⟨h2, e⟩ := flat2_at (fun p => AC.lit (.int .i64 p.1)) (fun p => AC.lit (.int .i64 p.2)) L i hi
    have hg : L.getD (i / 2) (0, 0) = L[i / 2] := by rw [List.getD_eq_getElem?_getD, List.getElem?_eq_getElem h2]; rfl
    rw [e, hg]
    split <;> exact .lit _
theorem rep_agg3 {C : Cfg} {a b c : AC} {x y z : Value} (h0 : RepC C id (memOf W) a x) (h1 : RepC C id (memOf W) b y) (h2 : RepC C id (memOf W) c z) : Rep1 C id (memOf W) (.agg [a, b, c]) (.agg #[x, y, z]) :=
  ⟨_, rfl, rfl, fun i i1 i2 => by
    match i, i1 with
    | 0, _ => exact h0
    | 1, _ => exact h1
    | 2, _ => exact h2⟩
end
end Go.Sy
