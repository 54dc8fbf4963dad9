/-
  A listed variable that holds an error.
-/
import Derived.Test.YtldofkogmkfpjaaGreatDoorWSyB
namespace Go.Sy
open Go.Ev Go.ChangeShapes Go.WideShapes Go.ChangeAt Go.WideMaps Go.WideElems Go.RowKit Go.Joins
set_option linter.unusedVariables false
theorem trod_err {P : Program} {W : World} {spare : Nat → Bool} {fuel : Nat} {t : TypeId} {ms : Array (String × TypeId)} {cs : List Value} {tn : String} {d : DataW Unit} {p : List MemPlace} (ht : P.underlying t = some (.interface ms))
    (h : DataW.trod (fun _ => ()) P W 0 spare false fuel t cs = some (.iface tn d, p)) : ∃ u v, cs = [.iface u v] := by
  cases fuel with
  | zero => simp [DataW.trod] at h
  | succ n =>
    unfold DataW.trod at h
    rw [ht] at h
    split at h <;> simp_all
theorem laid_err {P : Program} {W : World} {laid : List (String × DataW Unit)} (h : laidMetH P laid W) (name tn : String) (d : DataW Unit) {g : Nat} {t : TypeId} {ms : Array (String × TypeId)} (hf : laid.filter (fun x => x.1 == name) = [(name, .iface tn d)])
    (hh : ((DataW.iface tn d : DataW Unit).handleName?).isNone = true) (hg : P.globalNamed name = some g) (hty : (P.globals[g]?).map (·.type) = some t) (ht : P.underlying t = some (.interface ms)) : ∃ v, W.cell? ⟨g, 0, none⟩ = some v ∧ isErrV v := by
  have h1 := h.filter (fun x => x.1 == name)
  rw [hf, MakeChecks.laidMetH_plain _ _ _ (by simp only [List.all_cons, List.all_nil, Bool.and_true]; exact hh)] at h1
  obtain ⟨ps, ⟨g', t', cs, fuel, p, q, hg', ht', hvar, hd, _, _⟩, _⟩ := h1
  obtain rfl := Option.some.inj (hg.symm.trans hg')
  obtain rfl := Option.some.inj (hty.symm.trans ht')
  obtain ⟨u, v, e⟩ := trod_err ht hd
  have hc := World.var?_cell hg hvar 0
  have e0 : cs[0]? = some (.iface u v) := by
    rw [← Array.getElem?_toList, e]; rfl
  exact ⟨_, hc.trans e0, u, v, rfl⟩
theorem rep_gerr {C : Cfg} {W : World} {g : Nat} {v : Value} (h : W.cell? ⟨g, 0, none⟩ = some v) (he : isErrV v) : RepI C (memOf W) (.iptr (denE [.err])) (.pointer (some ⟨g, 0, none⟩)) := by
  have hlt : g < W.heap.size := by
    rcases Nat.lt_or_ge g W.heap.size with h' | h'
    · exact h'
    · simp [World.cell?, Array.getElem?_eq_none h'] at h
  refine RepI.iptr _ g 0 (fun _ => v) (fun i hi => ?_) (fun i hi => ?_)
  · have : i = 0 := by simpa [denE, Ec.den] using hi
    subst this
    exact ⟨hlt, h⟩
  · have : i = 0 := by simpa [denE, Ec.den] using hi
    subst this
    exact .opq _ v (.inr he) (fun _ _ _ _ h => h) (by obtain ⟨t, p, rfl⟩ := he; rfl)
end Go.Sy
