/-
  Symbolic values: a contract of the library whose result is a new slice of texts.
-/
import Derived.Test.YtldofkogmkfpjaaGreatDoorWSyJoin
import Derived.Shelf.Strings.Split
namespace Go.Sy
open Go.Ev Go.RowKit
set_option linter.unusedVariables false
/-- A new block, whose cells nobody writes. -/
def newPub (M : Mem) (w' : World) (n : Nat) : Mem := ⟨w', fun b o => M.I b o ∨ (b = M.w.heap.size ∧ o < n), M.Sp⟩
theorem newPub_trans {C : Cfg} (pre : Nat → Option Box) (μ : Nat → Nat) (M : Mem) (wf : Wf C M) {w' : World} {o : Obj} (n : Nat) (hh : w'.heap = M.w.heap.push o) (ho : w'.os = M.w.os) (ht : w'.tape = M.w.tape) (hp : w'.output = M.w.output) :
    Trans C [] pre μ M μ (newPub M w' n) := by
  have hb : ∀ b, b < M.w.heap.size → w'.heap[b]? = M.w.heap[b]? := fun b h => by
    rw [hh, Array.getElem?_push, if_neg (Nat.ne_of_lt h)]
  have hc : ∀ b o', M.I b o' → w'.cell? ⟨b, o', none⟩ = M.w.cell? ⟨b, o', none⟩ := fun b o' i => World.cell?_of_block (hb b (wf.imm b o' i).1)
  have hsz : w'.heap.size = M.w.heap.size + 1 := by rw [hh, Array.size_push]
  have g : Grow C M (newPub M w' n) := ⟨by show _ ≤ w'.heap.size; omega, fun b o' i => ⟨.inl i, hc b o' i⟩, fun b s => s, fun b x s e => ⟨x, (hb b (wf.sp b s)).trans e, C.refl x⟩⟩
  refine ⟨g, ⟨fun b o' i => ?_, fun b s => by have := wf.sp b s; show b < w'.heap.size; omega, fun g' flat hg => (wf.glob g' flat hg).mono g, fun g' vs hg => fix_mono g (wf.fix g' vs hg)⟩, ho, ht, hp,
    fun blk h1 _ _ => ⟨hb blk h1, fun o' i => ?_⟩, fun _ _ s => s, fun blk c T fz e _ => ⟨c, fz, (hb blk ((Array.getElem?_eq_some_iff.1 e).1)).trans e, rfl⟩, fun _ _ => rfl⟩
  · rcases i with i | ⟨rfl, _⟩
    · exact ⟨by have := (wf.imm b o' i).1; show b < w'.heap.size; omega, (wf.imm b o' i).2⟩
    · exact ⟨by show _ < w'.heap.size; omega, fun s => absurd (wf.sp _ s) (Nat.lt_irrefl _)⟩
  · rcases i with i | ⟨rfl, _⟩
    · exact i
    · exact absurd h1 (Nat.lt_irrefl _)
theorem fnOk_strs {C : Cfg} {k : FuncId} {vas : List SV} {L : List ByteArray} {T : TypeId} (hc : callable C.P k) (hs : allB scal vas = true)
    (h : ∀ M, Wf C M → Calls C.P k (vas.map litV).toArray M.w fun e w' => e = .returned (.slice (some ⟨M.w.heap.size, 0, none⟩) L.length L.length) ∧ w' = M.w.alloc (.cells (L.map Value.string).toArray T)) :
    FnOk C k (vas.map SV.den) (c1 (.rows [.str] (L.map fun s => [D.s s]))).den := by
  intro pre
  refine ⟨hc, fun μ M vs wf hsz hrep _ _ => ?_⟩
  have e : vs = (vas.map litV).toArray := by
    apply Array.ext
    · simpa using hsz
    · intro i h1 h2
      have := hrep i (by simpa using h2) h1
      rw [List.getElem_map] at this
      simp only [List.getElem_toArray, List.getElem_map]
      rw [allB_eq, List.all_eq_true] at hs
      exact litV_eq (hs _ (by simp [List.getElem_mem])) this
  subst e
  refine (h M wf).mono fun e w' ⟨he, hw⟩ => ?_
  subst hw
  refine ⟨_, μ, newPub M (M.w.alloc (.cells (L.map Value.string).toArray T)) L.length, he, rfl, ?_, newPub_trans pre μ M wf L.length rfl rfl rfl rfl, by simp [wrOf], by simp [wrOf], by simp [wrOf]⟩
  show RepC C μ _ (.list (L.map fun s => [D.s s]).length (rowsL [.str] (L.map fun s => [D.s s]))) _
  have er : rowsL [.str] (L.map fun s => [D.s s]) = L.map fun s => AC.lit (.string s) := by
    rw [rowsL_str, List.map_map]; rfl
  rw [er, List.length_map]
  refine RepC.of_I (μ := μ) (.list _ L.length L.length _ M.w.heap.size 0 (fun i => (L.map Value.string).toArray.getD i undef) (Nat.le_refl _) (fun _ => rfl) (fun i hi => ⟨.inr ⟨rfl, ?_⟩, ?_⟩) (fun i hi => ?_))
  · rw [List.length_map] at hi; omega
  · rw [List.length_map] at hi
    have hb : (M.w.alloc (.cells (L.map Value.string).toArray T)).heap[M.w.heap.size]? = some (.cells (L.map Value.string).toArray T) := by
      show (M.w.heap.push _)[_]? = _
      simp
    show (M.w.alloc _).cell? _ = _
    simp only [World.cell?, Nat.zero_add, hb]
    simp [Array.getD_eq_getD_getElem?, hi]
  · rw [List.length_map] at hi
    simp [Array.getD_eq_getD_getElem?, hi]
    exact .lit _
/-- A contract of the library whose result is known by what it stands for alone. -/
theorem fnOk_any {C : Cfg} {k : FuncId} {vas : List SV} {r : SV} (hc : callable C.P k) (hs : allB scal vas = true)
    (h : ∀ M, Wf C M → Calls C.P k (vas.map litV).toArray M.w fun e w' => ∃ rv, e = .returned rv ∧ Below M.w.heap.size M.w w' ∧ ∀ μ, RepV C μ { M with w := w' } r.den rv) : FnOk C k (vas.map SV.den) r.den := by
  intro pre
  refine ⟨hc, fun μ M vs wf hsz hrep _ _ => ?_⟩
  have e : vs = (vas.map litV).toArray := by
    apply Array.ext
    · simpa using hsz
    · intro i h1 h2
      have := hrep i (by simpa using h2) h1
      rw [List.getElem_map] at this
      simp only [List.getElem_toArray, List.getElem_map]
      rw [allB_eq, List.all_eq_true] at hs
      exact litV_eq (hs _ (by simp [List.getElem_mem])) this
  subst e
  exact (h M wf).mono fun e w' ⟨rv, he, hb, hr⟩ => ⟨rv, μ, { M with w := w' }, he, rfl, hr μ, trans_below _ _ _ wf hb, by simp [wrOf], by simp [wrOf], by simp [wrOf]⟩
theorem rep_err {C : Cfg} {μ : Nat → Nat} {M : Mem} {v : Value} (h : isErrV v) : RepC C μ M Cl.err.den v :=
  RepC.of_I (μ := μ) (.opq _ v h (fun _ _ _ _ h => h) (by obtain ⟨t, p, rfl⟩ := h; rfl))
/-- A number and an error. -/
theorem rep_nerr {C : Cfg} {μ : Nat → Nat} {M : Mem} (n : Int) {v : Value} (h : isErrV v) : RepV C μ M (SV.tup [tI n, .c .err]).den (.tuple #[.int .i64 n, v]) :=
  ⟨_, rfl, rfl, fun i h1 h2 => by
    match i, h1 with
    | 0, _ => exact RepC.of_I (μ := μ) (.lit _)
    | 1, _ => exact rep_err (μ := μ) h⟩
/-- A variable that holds an error, or none. -/
theorem glob_err {C : Cfg} {M : Mem} (wf : Wf C M) {g : Nat} (hG : C.G g = some (denE [.err])) : ∃ ev, M.w.cell? ⟨g, 0, none⟩ = some ev ∧ isErxV ev := by
  have h := wf.glob g _ hG
  have h : RepI C M (.iptr [.opq fun _ v => isErxV v]) (.pointer (some ⟨g, 0, none⟩)) := h
  generalize hq : AC.iptr [.opq fun _ v => isErxV v] = q at h
  generalize hp : Value.pointer (some ⟨g, 0, none⟩) = p at h
  cases h <;> cases hq
  rename_i blk off c hc hr
  cases hp
  have h1 := (hc 0 (by simp)).2
  have h2 := hr 0 (by simp)
  refine ⟨c 0, h1, ?_⟩
  revert h2
  generalize c 0 = v
  intro h2
  have h2 : RepI C M (.opq fun _ v => isErxV v) v := h2
  generalize hq : AC.opq (fun _ v => isErxV v) = q at h2
  cases h2 <;> cases hq
  assumption
end Go.Sy
