/-
  A symbolic executor over abstract states, part 6: contracts of functions; how one is proved by its code, and used at a call.
-/
import Derived.Test.YtnhdfmnmciminaaEvCode
import Derived.Tactics
import Derived.Laws.Sem
namespace Go.Ev

def AC.pure : AC → Bool
  | .ptr .. => false
  | .sl .. => false
  | _ => true

def pure1 : AV → Bool
  | .c a => a.pure
  | .agg cs => cs.all (·.pure)
  | .tup _ => false

def AV.pure : AV → Bool
  | .tup xs => xs.all pure1
  | a => pure1 a

/-- Can the function be called by a static call? -/
def callable (P : Program) (k : FuncId) : Prop :=
  ∃ fn, P.funcs[k]? = some fn ∧ fn.body.isNone = false ∧ (fn.name == "runtime.NumGoroutine") = false

/-- THE CONTRACT OF A CALL, over whatever memory: it returns r; of the blocks that were there it writes those of the boxes of 'ups' alone, which are as 'ups' says then. -/
def FnOkB (C : Cfg) (k : FuncId) (args : List AV) (pre : Nat → Option Box) (r : AV) (ups : List (Nat × Option Box)) : Prop :=
  callable C.P k ∧ (∀ b ∈ wrOf ups, liveB (postOf ups b) = true → liveB (pre b) = true) ∧
  ∀ (μ : Nat → Nat) (M : Mem) (vs : Array Value), Wf C M → vs.size = args.length → (∀ i (h : i < args.length) (h' : i < vs.size), Rep1 C μ M args[i] vs[i]) →
    (∀ b ∈ wrOf ups, ∀ bx, pre b = some bx → RepB C μ M b bx) →
    (∀ x ∈ wrOf ups, ∀ y ∈ wrOf ups, liveB (pre x) = true → liveB (pre y) = true → μ x = μ y → x = y) →
    Calls C.P k vs M.w fun e w' => ∃ v M', e = .returned v ∧ M'.w = w' ∧ RepV C μ M' r v ∧ Trans C (wrOf ups) pre μ M μ M' ∧
      ∀ b ∈ wrOf ups, ∀ bx, postOf ups b = some bx → RepB C μ M' b bx

/-- The contract of a call that hands no box over. -/
def FnOk (C : Cfg) (k : FuncId) (args : List AV) (r : AV) : Prop := ∀ pre, FnOkB C k args pre r []

theorem Trans.refl (C : Cfg) (pre : Nat → Option Box) (μ : Nat → Nat) (M : Mem) (wf : Wf C M) : Trans C [] pre μ M μ M := Trans.same pre μ M wf M.w rfl rfl rfl rfl

theorem Trans.weaken {C : Cfg} {wr : List Nat} {pre pre' : Nat → Option Box} {μ μ' : Nat → Nat} {M M' : Mem} (t : Trans C [] pre μ M μ' M') : Trans C wr pre' μ M μ' M' :=
  ⟨t.grow, t.wf, t.os, t.tape, t.output, fun blk h1 h2 _ => t.fr blk h1 h2 (by simp), t.spb, t.wid, fun b _ => t.mu b (by simp)⟩

/-- An operation that only computes. -/
theorem opOk_pure {C : Cfg} {o : Oper} {ρ : Operand → AV} {pre : Nat → Option Box} {r : AV}
    (h : ∀ μ M (a : Act), Wf C M → (∀ x ∈ o.op.operands, RepV C μ M (ρ x) (a.eval x)) → ∃ v, (execOp a.eval o).run C.P M.w = .ok (.value v) M.w ∧ RepV C μ M r v) :
    OpOk C o ρ [] pre r [] := by
  intro μ M a next Q wf hr _ _ k
  obtain ⟨v, e, hv⟩ := h μ M a wf hr
  unfold Oper.wp
  rw [e]
  exact k v μ M hv (Trans.refl C pre μ M wf) (by simp [wrOf]) (by simp [wrOf]) (by simp [wrOf])

theorem callFunc_run {P : Program} {k : FuncId} {w : World} (h : callable P k) (args : Array Value) : (callFunc k args).run P w = .ok (.enter k args) w := by
  obtain ⟨fn, hf, hb, hn⟩ := h
  have hn' : fn.name ≠ "runtime.NumGoroutine" := by simpa using hn
  have hb' : fn.body ≠ none := by intro e; simp [e] at hb
  unfold callFunc
  simp [program, bind, Sem.bind, Sem.run, hf, hn', hb', pure]

/-- A call, by its contract. -/
theorem opOk_call {C : Cfg} {dst : Option Tmp} {k : FuncId} {args : Array Operand} {ats : Array TypeId} {ty : TypeId} {pos : String} {after : Array Edge} {guard : Option (Nat × Bool)}
    {ρ : Operand → AV} {pre : Nat → Option Box} {r : AV} {ups : List (Nat × Option Box)} (h : FnOkB C k (args.toList.map ρ) pre r ups)
    (ht : ∀ x ∈ args, ∀ vs, ρ x ≠ .tup vs) :
    OpOk C ⟨dst, .call ⟨.value (.func k), args, ats⟩, ty, pos, after, guard⟩ ρ [] pre r ups := by
  intro μ M a next Q wf hr hb hd kk
  obtain ⟨hc, hl, h⟩ := h
  have e : (execOp a.eval ⟨dst, .call ⟨.value (.func k), args, ats⟩, ty, pos, after, guard⟩).run C.P M.w = .ok (.enter k (args.map a.eval)) M.w := by
    have : (invoke (.fn (.func k) #[]) (args.map a.eval)).run C.P M.w = .ok (.enter k (args.map a.eval)) M.w := by
      have := callFunc_run (w := M.w) hc (args.map a.eval ++ #[])
      simpa [invoke] using this
    simpa [execOp, resolve, Act.eval, Deferred.ofValue, bind, Sem.bind, pure] using this
  unfold Oper.wp
  rw [e]
  simp only [Oper.upon]
  have hreps : ∀ i (h : i < (args.toList.map ρ).length) (h' : i < (args.map a.eval).size), Rep1 C μ M (args.toList.map ρ)[i] (args.map a.eval)[i] := by
    intro i h1 h2
    have hi : i < args.size := by simpa using h2
    have hx := hr args[i] (by simp [Op.operands, Call.operands, Array.getElem_mem])
    have hnt := ht args[i] (Array.getElem_mem hi)
    simp only [List.getElem_map, Array.getElem_toList, Array.getElem_map]
    cases hρ : ρ args[i] with
    | tup vs => exact (hnt vs hρ).elim
    | c x => rw [hρ] at hx; exact hx
    | agg x => rw [hρ] at hx; exact hx
  refine (h μ M (args.map a.eval) wf (by simp) hreps (fun b hb' bx e => hb b (by simpa using hb') bx e) (fun x hx y hy => hd x (by simpa using hx) y (by simpa using hy))).mono ?_
  rintro e w' ⟨v, M', rfl, rfl, hv, t, hpb⟩
  refine kk v μ M' hv t hpb (fun x hx hlx => .inr ⟨x, hx, hl x hx hlx, rfl⟩) (fun x hx y hy lx ly eq => hd x (by simpa using hx) y (by simpa using hy) (hl x hx lx) (hl y hy ly) eq)

/-! ### the contract of a function, by its code -/

/-- A slot's or a box's content, as one result. -/
def ResA (P : Program) (s : St) : ResultVar → AV → Prop
  | .tmp t, r => r = s.get t ∧ ∀ vs, r ≠ .tup vs
  | .cell a T, r => ∃ b off bx, s.get a = .c (.ptr b off) ∧ s.box b = some bx ∧ bx.nl = false ∧
      ((∃ x, (∀ w : World, (isAgg T).run P w = .ok false w) ∧ bx.cells[off]? = some x ∧ r = .c x) ∨
       (∃ n, (∀ w : World, (isAgg T).run P w = .ok true w) ∧ (∀ w : World, (sizeOf T).run P w = .ok n w) ∧ off + n ≤ bx.cells.length ∧ r = .agg ((bx.cells.drop off).take n)))

theorem Sem.run_bind {α β : Type} (P : Program) (e : Sem α) (f : α → Sem β) : ∀ w, (e.bind f).run P w = match e.run P w with
    | .ok a w' => (f a).run P w'
    | .halt h w' => .halt h w' := by
  induction e with
  | store m a v k ih =>
    intro w
    cases v <;> simp only [Sem.bind, Sem.run] <;> (repeat' split) <;> simp_all
  | frozen a k ih => intro w; exact ih _ w
  | _ => intro w; simp only [Sem.bind, Sem.run] <;> (repeat' split) <;> simp_all

theorem run_load {P : Program} {w : World} {a : Addr} {v : Value} (h : w.cell? a = some v) : (load a).run P w = .ok v w := by
  simp [load, Sem.run, h]

theorem run_loadCells {P : Program} {w : World} (b off : Nat) : ∀ (n i : Nat) (acc : Array Value) (f : Nat → Value),
    (∀ j, j < n → w.cell? ⟨b, off + (i + j), none⟩ = some (f j)) →
    (loadCellsFrom ⟨b, off, none⟩ i n acc).run P w = .ok (acc ++ (Array.range n).map f) w := by
  intro n
  induction n with
  | zero => intro i acc f _; simp [loadCellsFrom, pure]
  | succ n ih =>
    intro i acc f h
    have ha : (Addr.mk b off none).add i = ⟨b, off + i, none⟩ := by
      unfold Addr.add
      split
      · rename_i e; simp [e]
      · rfl
    have h0 : w.cell? ((Addr.mk b off none).add i) = some (f 0) := by rw [ha]; simpa using h 0 (by omega)
    simp only [loadCellsFrom, bind, Sem.run_bind, run_load h0]
    rw [ih (i + 1) (acc.push (f 0)) (fun j => f (j + 1)) (fun j hj => by have := h (j + 1) (by omega); rwa [show i + (j + 1) = i + 1 + j by omega] at this)]
    congr 1
    apply Array.ext
    · simp; omega
    · intro k h1 h2
      simp only [Array.getElem_append, Array.getElem_map, Array.getElem_range, Array.getElem_push, Array.size_push]
      by_cases e1 : k < acc.size
      · simp [e1, Nat.lt_succ_of_lt e1]
      · by_cases e2 : k = acc.size
        · subst e2; simp
        · have : ¬ k < acc.size + 1 := by omega
          simp only [this, e1, dif_neg, not_false_eq_true]
          congr 1; omega

/-- A variable of a box is read: its cells. -/
theorem run_loadVar {C : Cfg} {μ : Nat → Nat} {M : Mem} {b : Nat} {bx : Box} (h : RepB C μ M b bx) (hn : bx.nl = false) {T : TypeId} {off : Nat} {r : AV}
    (hr : (∃ x, (∀ w : World, (isAgg T).run C.P w = .ok false w) ∧ bx.cells[off]? = some x ∧ r = .c x) ∨
       (∃ n, (∀ w : World, (isAgg T).run C.P w = .ok true w) ∧ (∀ w : World, (sizeOf T).run C.P w = .ok n w) ∧ off + n ≤ bx.cells.length ∧ r = .agg ((bx.cells.drop off).take n))) :
    ∃ v, (loadVar T ⟨μ b, off, none⟩).run C.P M.w = .ok v M.w ∧ Rep1 C μ M r v := by
  obtain ⟨⟨c, Tb, fz, hh, _, hl, hc⟩, _, _, _⟩ := h.2 hn
  have hcell : ∀ i (hi : i < c.size), M.w.cell? ⟨μ b, i, none⟩ = some c[i] := fun i hi => by simp [World.cell?, hh, hi]
  rcases hr with ⟨x, ha, hx, rfl⟩ | ⟨n, ha, hs, hle, rfl⟩
  · have hoff : off < bx.cells.length := by
      rcases Nat.lt_or_ge off bx.cells.length with h | h
      · exact h
      · rw [List.getElem?_eq_none h] at hx; cases hx
    have hx' : x = bx.cells[off] := by rw [List.getElem?_eq_getElem hoff] at hx; exact (Option.some.inj hx).symm
    refine ⟨c[off]'(by omega), ?_, ?_⟩
    · simp only [loadVar, bind, Sem.run_bind, ha, Bool.false_eq_true, if_false, run_load (hcell off (by omega))]
    · rw [hx']; exact (hc off hoff (by omega)).1
  · refine ⟨.agg ((Array.range n).map fun j => c.getD (off + j) undef), ?_, ⟨_, rfl, ?_, ?_⟩⟩
    · simp only [loadVar, bind, Sem.run_bind, ha, if_true, hs, loadCells]
      rw [run_loadCells (μ b) off n 0 #[] (fun j => c.getD (off + j) undef) (fun j hj => by
        have hlt : off + j < c.size := by omega
        rw [Nat.zero_add, hcell _ hlt]; simp [Array.getD_eq_getD_getElem?, hlt])]
      simp [pure]
    · simp; omega
    · intro i h1 h2
      have hi : i < n := by simpa using h2
      have hlt : off + i < c.size := by omega
      have := (hc (off + i) (by omega) hlt).1
      simpa [List.getElem_take, List.getElem_drop, Array.getD_eq_getD_getElem?, hlt] using this

theorem run_res {C : Cfg} {X : Pin} {M0 : Mem} {μ : Nat → Nat} {M : Mem} {s : St} {a : Act} (h : Rel C X M0 μ M s a) {x : ResultVar} {r : AV} (hr : ResA C.P s x r) :
    ∃ v, (match x with
      | .tmp t => (pure (a.tmps.getD t undef) : Sem Value)
      | .cell t T => do loadVar T (← asAddr (a.tmps.getD t undef))).run C.P M.w = .ok v M.w ∧ Rep1 C μ M r v := by
  cases x with
  | tmp t =>
    obtain ⟨rfl, hnt⟩ := hr
    refine ⟨_, rfl, ?_⟩
    have := h.tmps t
    cases hg : s.get t with
    | tup vs => exact (hnt vs hg).elim
    | c x => rw [hg] at this; exact this
    | agg x => rw [hg] at this; exact this
  | cell t T =>
    obtain ⟨b, off, bx, hg, hb, hn, hr⟩ := hr
    have hv := h.tmps t
    rw [hg] at hv
    have hv : a.tmps.getD t undef = .pointer (some ⟨μ b, off, none⟩) := hv
    obtain ⟨v, e, hrep⟩ := run_loadVar (h.boxes b bx hb) hn hr
    refine ⟨v, ?_, hrep⟩
    simp only [hv, asAddr, bind, Sem.run_bind, pure, Sem.run, e]

def ResL (P : Program) (s : St) : List ResultVar → List AV → Prop
  | [], [] => True
  | x :: xs, a :: as => ResA P s x a ∧ ResL P s xs as
  | _, _ => False

/-- What a function returns. -/
def ResAs (P : Program) (s : St) (rs : List ResultVar) (r : AV) : Prop :=
  match rs with
  | [x] => ResA P s x r
  | xs => ∃ as, r = .tup as ∧ ResL P s xs as

/-- One result's operation. -/
def resOp (tmps : Array Value) : ResultVar → Sem Value
  | .tmp t => pure (tmps.getD t undef)
  | .cell a t => do loadVar t (← asAddr (tmps.getD a undef))

theorem results_eq (fn : Func) (tmps : Array Value) : results fn tmps = (do
    let vs ← fn.results.mapM (resOp tmps)
    pure (if h : vs.size = 1 then vs[0] else .tuple vs)) := by
  unfold results
  congr 1

theorem mapM_run {tmps : Array Value} {P : Program} {w : World} (R : ResultVar → Value → Prop) (h : ∀ x v, R x v → (resOp tmps x).run P w = .ok v w) :
    ∀ (rs : List ResultVar) (vs : List Value), (∀ i (h1 : i < rs.length) (h2 : i < vs.length), R rs[i] vs[i]) → rs.length = vs.length →
    (rs.mapM (resOp tmps)).run P w = .ok vs w := by
  intro rs
  induction rs with
  | nil => intro vs _ e; cases vs with
    | nil => simp
    | cons _ _ => simp at e
  | cons x rs ih =>
    intro vs hv e
    cases vs with
    | nil => simp at e
    | cons v vs =>
      have h0 := h x v (hv 0 (by simp) (by simp))
      have h1 := ih vs (fun i a b => hv (i + 1) (by simpa using a) (by simpa using b)) (by simpa using e)
      simp [List.mapM_cons, h0, h1]

theorem results_run {fn : Func} {tmps : Array Value} {P : Program} {w : World} {vs : List Value} (h : (fn.results.toList.mapM (resOp tmps)).run P w = .ok vs w) :
    (results fn tmps).run P w = .ok (if h : vs.length = 1 then vs[0] else .tuple vs.toArray) w := by
  rw [results_eq, Array.mapM_eq_mapM_toList]
  simp [h]

theorem res_list {C : Cfg} {X : Pin} {M0 : Mem} {μ : Nat → Nat} {M : Mem} {s : St} {a : Act} (h : Rel C X M0 μ M s a) : ∀ (rs : List ResultVar) (as : List AV), ResL C.P s rs as →
    ∃ vs : List Value, (rs.mapM (resOp a.tmps)).run C.P M.w = .ok vs M.w ∧ vs.length = as.length ∧ as.length = rs.length ∧
      ∀ i (h1 : i < as.length) (h2 : i < vs.length), Rep1 C μ M as[i] vs[i] := by
  intro rs
  induction rs with
  | nil => intro as hl; cases as with
    | nil => exact ⟨[], by simp, rfl, rfl, fun i h1 => by simp at h1⟩
    | cons _ _ => exact hl.elim
  | cons x rs ih =>
    intro as hl
    cases as with
    | nil => exact hl.elim
    | cons r as =>
      obtain ⟨v, e, hv⟩ := run_res h hl.1
      have e : (resOp a.tmps x).run C.P M.w = .ok v M.w := by cases x <;> exact e
      obtain ⟨vs, e', h1, h2, h3⟩ := ih as hl.2
      refine ⟨v :: vs, by simp [List.mapM_cons, e, e'], by simp [h1], by simp [h2], fun i i1 i2 => ?_⟩
      cases i with
      | zero => exact hv
      | succ i => exact h3 i (by simpa using i1) (by simpa using i2)

theorem res_run {C : Cfg} {X : Pin} {M0 : Mem} {μ : Nat → Nat} {M : Mem} {s : St} {a : Act} (h : Rel C X M0 μ M s a) {fn : Func} {r : AV} (hr : ResAs C.P s fn.results.toList r) :
    ∃ v, (results fn a.tmps).run C.P M.w = .ok v M.w ∧ RepV C μ M r v := by
  unfold ResAs at hr
  split at hr
  · rename_i x hx
    obtain ⟨vs, e, h1, h2, h3⟩ := res_list h [x] [r] ⟨hr, trivial⟩
    rw [← hx] at e
    match vs, h1 with
    | [v], _ =>
      refine ⟨v, by rw [results_run e]; simp, ?_⟩
      have := h3 0 (by simp) (by simp)
      cases r with
      | tup _ => exact this.elim
      | c _ => exact this
      | agg _ => exact this
  · rename_i hne
    obtain ⟨as, rfl, hl⟩ := hr
    obtain ⟨vs, e, h1, h2, h3⟩ := res_list h _ as hl
    have hlen : vs.length ≠ 1 := by
      intro e1
      have : fn.results.toList.length = 1 := by omega
      match hx : fn.results.toList, this with
      | [x], _ => exact hne x hx
    refine ⟨.tuple vs.toArray, by rw [results_run e, dif_neg hlen], vs.toArray, rfl, by simpa using h1, fun i i1 i2 => ?_⟩
    simpa using h3 i i1 (by simpa using i2)

/-- The state in which a function's body begins. -/
def initSt (args : List AV) (n : Nat) : St := ⟨n, fun t => args.getD t (.c .junk), fun _ => none⟩

theorem pure_men {a : AC} (h : a.pure = true) (b : Nat) : a.men b = false := by cases a <;> simp_all [AC.pure, AC.men]
theorem RepC.pure {C : Cfg} {μ : Nat → Nat} {M : Mem} {a : AC} {v : Value} (hp : a.pure = true) (h : RepC C μ M a v) (μ' : Nat → Nat) : RepC C μ' M a v := by
  cases a <;> first | exact h | simp [AC.pure] at hp
theorem Rep1.pure {C : Cfg} {μ : Nat → Nat} {M : Mem} {a : AV} {v : Value} (hp : pure1 a = true) (h : Rep1 C μ M a v) (μ' : Nat → Nat) : Rep1 C μ' M a v := by
  cases a with
  | c a => exact RepC.pure hp h μ'
  | agg cs =>
    obtain ⟨vs, e, h1, h2⟩ := h
    exact ⟨vs, e, h1, fun i hi hi' => (h2 i hi hi').pure (List.all_eq_true.1 hp _ (List.getElem_mem hi)) μ'⟩
  | tup _ => exact h
theorem RepV.pure {C : Cfg} {μ : Nat → Nat} {M : Mem} {a : AV} {v : Value} (hp : a.pure = true) (h : RepV C μ M a v) (μ' : Nat → Nat) : RepV C μ' M a v := by
  cases a with
  | c a => exact Rep1.pure (a := .c a) hp h μ'
  | agg a => exact Rep1.pure (a := .agg a) hp h μ'
  | tup xs =>
    obtain ⟨vs, e, h1, h2⟩ := h
    exact ⟨vs, e, h1, fun i hi hi' => (h2 i hi hi').pure (List.all_eq_true.1 hp _ (List.getElem_mem hi)) μ'⟩

end Go.Ev
