/-
  Symbolic values, part 9: from a contract to the world that a claim speaks of.
-/
import Derived.Test.YtldofkogmkfpjaaDoorSyEnv
import Derived.Below
namespace Go.Sy
open Go.Ev Go.RowKit
set_option linter.unusedVariables false

/-- Everything that is there at the start is written by nobody. -/
def memOf (W : World) : Mem := ⟨W, fun b _ => b < W.heap.size, fun _ => False⟩
theorem wf_memOf {C : Cfg} (W : World) (hG : ∀ g flat, C.G g = some flat → RepI C (memOf W) (.iptr flat) (.pointer (some ⟨g, 0, none⟩))) : Wf C (memOf W) :=
  ⟨fun b o h => ⟨h, fun h => h⟩, fun b h => h.elim, hG⟩
theorem law_calls {C : Cfg} {k : FuncId} {args : List AV} {vs : Array Value} {W : World} (wf : Wf C (memOf W)) (h : FnOk C k args (.c (.lit (.bool true))))
    (hs : vs.size = args.length) (hr : ∀ i (h : i < args.length) (h' : i < vs.size), Rep1 C id (memOf W) args[i] vs[i]) :
    Calls C.P k vs W fun e W' => e = .returned (.bool true) ∧ Below W.heap.size W W' := by
  obtain ⟨_, _, hc⟩ := h fun _ => none
  refine (hc id (memOf W) vs wf hs hr (by simp [wrOf]) (by simp [wrOf])).mono fun e w' hh => ?_
  obtain ⟨v, M', he, hw, hv, ht, _⟩ := hh
  subst hw
  have : v = .bool true := RepI.lit_eq hv
  subst this
  refine ⟨he, ht.os, ht.tape, ht.output, ht.grow.size, fun b hb => ?_⟩
  exact (ht.fr b hb (fun h => h) (by simp [wrOf])).1
theorem rep_lits {C : Cfg} {μ : Nat → Nat} {M : Mem} (l : List Value) : Rep1 C μ M (.agg (l.map .lit)) (.agg l.toArray) :=
  ⟨l.toArray, rfl, by simp, fun i h h' => by simp; exact RepI.lit _⟩
theorem rep_lit {C : Cfg} {μ : Nat → Nat} {M : Mem} (v : Value) : Rep1 C μ M (.c (.lit v)) v := RepI.lit v
/-- A variable that is an array of numbers. -/
theorem rep_var {C : Cfg} {W : World} {g : Nat} {k : IntKind} {l : List Int} (h : ∀ (i : Nat) (n : Int), l[i]? = some n → W.cell? ⟨g, i, none⟩ = some (.int k n)) :
    RepI C (memOf W) (.iptr (denE [.arr k l.length l])) (.pointer (some ⟨g, 0, none⟩)) := by
  have e : denE [.arr k l.length l] = IL k l := by
    show arrL k l.length l ++ [] = _
    rw [List.append_nil, arrL_full]
  rw [e]
  refine RepI.iptr _ g 0 (fun i => .int k (l.getD i 0)) (fun i hi => ?_) (fun i hi => ?_)
  · rw [IL_length] at hi
    have := h i l[i] (List.getElem?_eq_getElem hi)
    rw [Nat.zero_add]
    refine ⟨?_, this.trans (by rw [List.getD_eq_getElem?_getD, List.getElem?_eq_getElem hi]; rfl)⟩
    show g < W.heap.size
    rcases Nat.lt_or_ge g W.heap.size with h | h
    · exact h
    · simp [World.cell?, Array.getElem?_eq_none h] at this
  · rw [IL_length] at hi
    have : (IL k l)[i]'(by rw [IL_length]; exact hi) = .lit (.int k (l.getD i 0)) := by
      simp [IL, List.getD_eq_getElem?_getD, hi]
    rw [this]; exact RepI.lit _
end Go.Sy
