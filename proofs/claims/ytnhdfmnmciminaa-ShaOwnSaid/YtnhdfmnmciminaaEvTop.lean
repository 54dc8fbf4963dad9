/-
  A symbolic executor over abstract states, part 10: from a contract to the world that a claim speaks of.
-/
import Derived.Test.YtnhdfmnmciminaaEvBits
import Derived.Below
namespace Go.Ev
open Go.RowKit

/-- Everything that is there at the start is written by nobody. -/
def memOf (W : World) : Mem := ⟨W, fun b _ => b < W.heap.size, fun _ => False⟩

theorem wf_memOf {C : Cfg} (hG : ∀ g, C.G g = none) (W : World) : Wf C (memOf W) :=
  ⟨fun b o h => ⟨h, fun h => h⟩, fun b h => h.elim, fun g flat e => by rw [hG g] at e; cases e⟩

theorem law_calls {C : Cfg} {k : FuncId} {args : List AV} {vs : Array Value} {W : World} (wf : Wf C (memOf W)) (h : FnOk C k args (.c (.lit (.bool true))))
    (hs : vs.size = args.length) (hr : ∀ i (h : i < args.length) (h' : i < vs.size), Rep1 C id (memOf W) args[i] vs[i]) :
    Calls C.P k vs W fun e W' => e = .returned (.bool true) ∧ Below W.heap.size W W' := by
  obtain ⟨_, _, hc⟩ := h fun _ => none
  refine (hc id (memOf W) vs wf hs hr (by simp [wrOf]) (by simp [wrOf])).mono fun e w' hh => ?_
  obtain ⟨v, M', he, hw, hv, ht, _⟩ := hh
  subst hw
  have : v = .bool true := RepI.lit_eq hv
  subst this
  refine ⟨he, ht.os, ht.tape, ht.output, ht.grow.size, fun b hb => ?_⟩
  exact (ht.fr b hb (fun h => h) (by simp [wrOf])).1

theorem rep_lits {C : Cfg} {μ : Nat → Nat} {M : Mem} (l : List Value) : Rep1 C μ M (.agg (l.map .lit)) (.agg l.toArray) :=
  ⟨l.toArray, rfl, by simp, fun i h h' => by simp; exact RepI.lit _⟩
theorem rep_lit {C : Cfg} {μ : Nat → Nat} {M : Mem} (v : Value) : Rep1 C μ M (.c (.lit v)) v := RepI.lit v
end Go.Ev
