/-
  Symbolic values, part 12: a slice of texts handed to a function of the library.
-/
import Derived.Test.YtldofkogmkfpjaaGreatDoorWSyB
import Derived.Lib.Join
namespace Go.Sy
open Go.Ev Go.RowKit
set_option linter.unusedVariables false
/-- A row's text. -/
def rowS (r : List D) : ByteArray := (r.getD 0 (.i 0)).toS
def joinD (L : List (List D)) (p : ByteArray) : List UInt8 := Lib.join (L.map fun r => (rowS r).data.toList) p.data.toList
theorem rowsL_str (L : List (List D)) : rowsL [.str] L = L.map fun r => AC.lit (.string (rowS r)) := by
  induction L with
  | nil => rfl
  | cons r L ih => rw [rowsL, List.flatMap_cons, List.map_cons, ← ih]; rfl
theorem fnOk_join {C : Cfg} {k : FuncId} {L : List (List D)} {p : ByteArray} (hc : callable C.P k)
    (h : ∀ M, Wf C M → ∀ (a : Option Addr) (cap : Nat), L.length ≤ cap → (L ≠ [] → ∃ blk off, a = some ⟨blk, off, none⟩) →
      (∀ blk off, L ≠ [] → a = some ⟨blk, off, none⟩ → blk < M.w.heap.size ∧ ∀ (j : Nat) x, (L.map rowS)[j]? = some x → M.w.cell? ⟨blk, off + j, none⟩ = some (.string x)) →
      Calls C.P k #[.slice a L.length cap, .string p] M.w fun e w' => e = .returned (.string (tx (joinD L p))) ∧ Below M.w.heap.size M.w w') :
    FnOk C k ([c1 (.rows [.str] L), vS p].map SV.den) (vS (tx (joinD L p))).den := by
  intro pre
  refine ⟨hc, fun μ M vs wf hsz hrep _ _ => ?_⟩
  have r0 := hrep 0 (by simp) (by rw [hsz]; simp)
  have r1 := hrep 1 (by simp) (by rw [hsz]; simp)
  have e : vs = #[vs[0]'(by rw [hsz]; simp), vs[1]'(by rw [hsz]; simp)] := by
    have hsz2 : vs.size = 2 := hsz
    apply Array.ext
    · exact hsz2
    · intro i h1 h2
      match i, h2 with
      | 0, _ => rfl
      | 1, _ => rfl
  have r1 : vs[1]'(by rw [hsz]; simp) = .string p := RepI.lit_eq r1
  have r0 : RepI C M (.list L.length (rowsL [.str] L)) (vs[0]'(by rw [hsz]; simp)) := r0
  generalize vs[0]'(by rw [hsz]; simp) = v0 at *
  rw [e, r1]
  rw [rowsL_str] at r0
  generalize hf : (L.map fun r => AC.lit (.string (rowS r))) = flat at r0
  cases r0 with
  | list a n cap _ blk off c hn ha hcell hr =>
    have hlen : flat.length = L.length := by rw [← hf, List.length_map]
    have hkey : ∀ (j : Nat) x, (L.map rowS)[j]? = some x → M.w.cell? ⟨blk, off + j, none⟩ = some (.string x) ∧ blk < M.w.heap.size := by
      intro j x hx
      have hj : j < flat.length := by
        have := (List.getElem?_eq_some_iff.1 hx).1
        rw [List.length_map] at this; omega
      obtain ⟨i1, i2⟩ := hcell j hj
      have i3 := hr j hj
      have e1 : flat[j] = .lit (.string x) := by
        have : flat[j]? = some (AC.lit (.string x)) := by
          rw [← hf, List.getElem?_map]
          rw [List.getElem?_map] at hx
          cases hL : L[j]? with
          | none => rw [hL] at hx; cases hx
          | some r => rw [hL] at hx; simp at hx; simp [hx]
        rw [List.getElem?_eq_getElem hj] at this
        exact Option.some.inj this
      rw [e1] at i3
      rw [i2, RepI.lit_eq i3]
      exact ⟨rfl, (wf.imm _ _ i1).1⟩
    have hne : L ≠ [] → a = some ⟨blk, off, none⟩ := fun h => ha (by intro e; rw [e] at hlen; exact h (List.length_eq_zero_iff.1 hlen.symm))
    refine (h M wf a cap hn (fun h => ⟨blk, off, hne h⟩) (fun b o hL e2 => ?_)).mono fun e w' ⟨he, hb⟩ => ⟨_, μ, { M with w := w' }, he, rfl, RepI.lit _, trans_below _ _ _ wf hb, by simp [wrOf], by simp [wrOf], by simp [wrOf]⟩
    cases L with
    | nil => exact absurd rfl hL
    | cons r L =>
      rw [hne (by simp)] at e2
      cases e2
      exact ⟨(hkey 0 (rowS r) rfl).2, fun j x hx => (hkey j x hx).1⟩
end Go.Sy
