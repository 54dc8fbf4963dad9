/-
  A symbolic executor over abstract states, part 3: regions, in the order of the text, and in any order that Go allows.
-/
import Derived.Test.YtnhdfmnmciminaaEvStep
namespace Go.Ev

/-- What an operation did: was it left out; the boxes that it reads; its slot's value; the boxes that it wrote. -/
structure Rec where
  skip : Bool
  rd : List Nat
  r : AV
  ups : List (Nat × Option Box)

def skipRec : Rec := ⟨true, [], .tup [], []⟩

def applyR (o : Oper) (rc : Rec) (s : St) : St := (s.upd rc.ups).put o.dst rc.r

/-- What a guard's operation yielded: unknown, or no truth value (it was skipped), or one. -/
def yieldedA (ops : Array Oper) (s : St) (j : Nat) : Option (Option Bool) :=
  match ((ops[j]?).bind (·.dst)).map s.get with
  | some (.c (.lit (.bool b))) => some (some b)
  | some (.tup _) => some none
  | _ => none

def StepR (C : Cfg) (ops : Array Oper) (o : Oper) (s : St) (rc : Rec) : Prop :=
  (rc = skipRec ∧ ∃ j want b, o.guard = some (j, want) ∧ yieldedA ops s j = some b ∧ b ≠ some want) ∨
  (rc.skip = false ∧ (o.guard = none ∨ ∃ j want, o.guard = some (j, want) ∧ yieldedA ops s j = some (some want)) ∧ StepOk C o s rc.rd rc.r rc.ups)

theorem yielded_of {C : Cfg} {X : Pin} {M0 : Mem} {μ : Nat → Nat} {M : Mem} {s : St} {a : Act} (h : Rel C X M0 μ M s a) {ops : Array Oper} {j : Nat} {b : Option Bool}
    (hy : yieldedA ops s j = some b) : yielded ops a.tmps j = b := by
  unfold yieldedA at hy
  unfold yielded
  cases hd : (ops[j]?).bind (·.dst) with
  | none => simp [hd] at hy
  | some t =>
    simp only [hd, Option.map_some] at hy
    cases hg : s.get t with
    | c x =>
      cases x with
      | lit v =>
        cases v with
        | bool b' =>
          simp only [hg, Option.some.injEq] at hy
          subst hy
          have hr := h.tmps t
          rw [hg] at hr
          have hv : a.tmps.getD t undef = .bool b' := RepI.lit_eq hr
          simp only [Option.bind_some]
          cases ht : a.tmps[t]? with
          | none => simp [Array.getD_eq_getD_getElem?, ht, undef] at hv
          | some v => simp only [Array.getD_eq_getD_getElem?, ht, Option.getD_some] at hv; simp [hv]
        | _ => simp [hg] at hy
      | _ => simp [hg] at hy
    | tup vs =>
      simp only [hg, Option.some.injEq] at hy
      subst hy
      have hr := h.tmps t
      rw [hg] at hr
      obtain ⟨xs, hv, _⟩ := hr
      simp only [Option.bind_some]
      cases ht : a.tmps[t]? with
      | none => rfl
      | some v => simp only [Array.getD_eq_getD_getElem?, ht, Option.getD_some] at hv; simp [hv]
    | _ => simp [hg] at hy

theorem stepR_sound {C : Cfg} {X : Pin} {M0 : Mem} {μ : Nat → Nat} {M : Mem} {s : St} {a : Act} {ops : Array Oper} {i : Nat} {o : Oper} {rc : Rec}
    {K : Act → World → Prop} {Q : Exit → Act → World → Prop} (ho : ops[i]? = some o) (h : Rel C X M0 μ M s a) (st : StepR C ops o s rc)
    (k : ∀ a' μ' M', Rel C X M0 μ' M' (applyR o rc s) a' → K a' M'.w) : wpOp C.P ops Q i K a M.w := by
  unfold wpOp
  simp only [ho]
  rcases st with ⟨rfl, j, want, b, hg, hy, hb⟩ | ⟨_, hg, st⟩
  · have hw : Region.wanted o (yielded ops a.tmps) = false := by
      unfold Region.wanted
      simp only [hg, yielded_of h hy]
      simpa using hb
    simp only [hw, Bool.false_eq_true, if_false]
    exact k _ _ _ (skip_sound h o.dst)
  · have hw : Region.wanted o (yielded ops a.tmps) = true := by
      unfold Region.wanted
      rcases hg with hg | ⟨j, want, hg, hy⟩
      · simp [hg]
      · simp [hg, yielded_of h hy]
    simp only [hw, if_true]
    exact .inl (step_sound h st fun v μ' M' hr => k _ _ _ hr)

/-- The operations from the i-th on, in the order of the text. -/
def RunN (C : Cfg) (ops : Array Oper) : List Oper → St → (St → Prop) → Prop
  | [], s, K => K s
  | o :: os, s, K =>
    match o.guard with
    | none => ∃ rd r ups, StepOk C o s rd r ups ∧ RunN C ops os ((s.upd ups).put o.dst r) K
    | some (j, want) => ∃ b, yieldedA ops s j = some b ∧
      (b = some want → ∃ rd r ups, StepOk C o s rd r ups ∧ RunN C ops os ((s.upd ups).put o.dst r) K) ∧
      (b ≠ some want → RunN C ops os (s.put o.dst (.tup [])) K)

/-- The same, with what each did. -/
def RunK (C : Cfg) (ops : Array Oper) : List Oper → St → List Rec → (List Rec → St → Prop) → Prop
  | [], s, acc, K => K acc s
  | o :: os, s, acc, K =>
    match o.guard with
    | none => ∃ rd r ups, StepOk C o s rd r ups ∧ RunK C ops os ((s.upd ups).put o.dst r) (acc ++ [⟨false, rd, r, ups⟩]) K
    | some (j, want) => ∃ b, yieldedA ops s j = some b ∧
      (b = some want → ∃ rd r ups, StepOk C o s rd r ups ∧ RunK C ops os ((s.upd ups).put o.dst r) (acc ++ [⟨false, rd, r, ups⟩]) K) ∧
      (b ≠ some want → RunK C ops os (s.put o.dst (.tup [])) (acc ++ [skipRec]) K)

theorem runN_sound {C : Cfg} {X : Pin} {M0 : Mem} {ops : Array Oper} {Q : Exit → Act → World → Prop} {K : St → Prop}
    (k : ∀ s μ M a, K s → Rel C X M0 μ M s a → Q .normal a M.w) (os : List Oper) : ∀ (i : Nat) (s : St) (μ : Nat → Nat) (M : Mem) (a : Act),
      (∀ n, os[n]? = ops[i + n]?) → Rel C X M0 μ M s a → RunN C ops os s K → wpOps C.P ops Q (List.range' i os.length) a M.w := by
  induction os with
  | nil => intro i s μ M a _ h hk; exact k s μ M a hk h
  | cons o os ih =>
    intro i s μ M a he h hk
    have ho : ops[i]? = some o := by have := he 0; simpa using this.symm
    have he' : ∀ n, os[n]? = ops[i + 1 + n]? := fun n => by have := he (n + 1); simpa [Nat.add_assoc, Nat.add_comm 1 n] using this
    rw [List.length_cons, List.range'_succ, wpOps_cons]
    have go : ∀ rc, StepR C ops o s rc → RunN C ops os (applyR o rc s) K → wpOp C.P ops Q i (wpOps C.P ops Q (List.range' (i + 1) os.length)) a M.w :=
      fun rc st hn => stepR_sound ho h st fun a' μ' M' hr => ih (i + 1) _ μ' M' a' he' hr hn
    unfold RunN at hk
    cases hg : o.guard with
    | none =>
      simp only [hg] at hk
      obtain ⟨rd, r, ups, st, hn⟩ := hk
      exact go ⟨false, rd, r, ups⟩ (.inr ⟨rfl, .inl hg, st⟩) hn
    | some jw =>
      obtain ⟨j, want⟩ := jw
      simp only [hg] at hk
      obtain ⟨b, hy, h1, h2⟩ := hk
      by_cases hb : b = some want
      · obtain ⟨rd, r, ups, st, hn⟩ := h1 hb
        exact go ⟨false, rd, r, ups⟩ (.inr ⟨rfl, .inr ⟨j, want, hg, hb ▸ hy⟩, st⟩) hn
      · exact go skipRec (.inl ⟨rfl, j, want, b, hg, hy, hb⟩) (h2 hb)

/-! ### any order -/

section any
variable (ops : Array Oper)

/-- Which operations are ahead of each, by the edges that bind in any order, as bits. -/
def masks : List Oper → List Nat → List Nat
  | [], acc => acc
  | o :: os, acc => masks os (acc ++ [o.after.toList.foldl (fun m e => if Region.binds .any e then m ||| 2 ^ e.on ||| acc.getD e.on 0 else m) 0])

def slotOf : Operand → List Nat
  | .tmp t => [t]
  | _ => []
def looks (o : Oper) : List Nat :=
  o.op.operands.toList.flatMap slotOf ++ (match o.guard with
    | some (j, _) => ((ops[j]?).bind (·.dst)).toList
    | none => [])

def disj (a b : List Nat) : Bool := a.all fun x => !b.contains x

def indep (o p : Oper) (x y : Rec) : Bool :=
  disj o.dst.toList (p.dst.toList ++ looks ops p) && disj p.dst.toList (looks ops o) &&
  disj (wrOf x.ups) (wrOf y.ups ++ y.rd) && disj (wrOf y.ups) x.rd

def menR (b : Nat) (x : Rec) : Bool := x.r.men b || x.ups.any fun u => match u.2 with
  | some bx => bx.men b
  | none => false

end any

structure Trace (C : Cfg) (ops : Array Oper) (rc : Nat → Rec) (S : Nat → St) : Prop where
  step : ∀ i o, ops[i]? = some o → StepR C ops o (S i) (rc i) ∧ S (i + 1) = applyR o (rc i) (S i)

/-- The state behind those operations that D holds of, among the first n. -/
def SD (ops : Array Oper) (rc : Nat → Rec) (s : St) (D : Nat → Bool) : Nat → St
  | 0 => s
  | n + 1 => match ops[n]? with
    | some o => if D n then applyR o (rc n) (SD ops rc s D n) else SD ops rc s D n
    | none => SD ops rc s D n

theorem applyR_get (o : Oper) (rc : Rec) (s : St) (t : Nat) (h : o.dst ≠ some t) : (applyR o rc s).get t = s.get t := by
  simp [applyR, St.get_put, h]

theorem applyR_get' (o : Oper) (rc : Rec) (s s' : St) (t : Nat) (h : s.get t = s'.get t) :
    (applyR o rc s).get t = (applyR o rc s').get t := by
  simp [applyR, St.get_put, h]

theorem applyR_box (o : Oper) (rc : Rec) (s : St) (b : Nat) (h : b ∉ wrOf rc.ups) : (applyR o rc s).box b = s.box b := by
  simp [applyR, St.upd_box_not _ _ _ h]

theorem applyR_box' (o : Oper) (rc : Rec) (s s' : St) (b : Nat) (h : s.box b = s'.box b) :
    (applyR o rc s).box b = (applyR o rc s').box b := by
  simp only [applyR, St.put_box, St.upd_box, h]

@[simp] theorem applyR_n (o : Oper) (rc : Rec) (s : St) : (applyR o rc s).n = s.n := by simp [applyR]

theorem SD_n (ops : Array Oper) (rc : Nat → Rec) (s : St) (D : Nat → Bool) (n : Nat) : (SD ops rc s D n).n = s.n := by
  induction n with
  | zero => rfl
  | succ n ih =>
    simp only [SD]
    split
    · split <;> simp [ih]
    · exact ih

theorem SD_get (ops : Array Oper) (rc : Nat → Rec) (s : St) (D D' : Nat → Bool) (t : Nat) (n : Nat)
    (h : ∀ j o, j < n → ops[j]? = some o → o.dst = some t → D j = D' j) : (SD ops rc s D n).get t = (SD ops rc s D' n).get t := by
  induction n with
  | zero => rfl
  | succ n ih =>
    have ih := ih fun j o hj => h j o (by omega)
    simp only [SD]
    cases ho : ops[n]? with
    | none => exact ih
    | some o =>
      simp only
      by_cases hd : o.dst = some t
      · rw [h n o (by omega) ho hd]
        split
        · exact applyR_get' _ _ _ _ _ ih
        · exact ih
      · have e : ∀ (x : St), (applyR o (rc n) x).get t = x.get t := fun x => applyR_get _ _ _ _ hd
        cases D n <;> cases D' n <;> simp [e, ih]

theorem SD_box (ops : Array Oper) (rc : Nat → Rec) (s : St) (D D' : Nat → Bool) (b : Nat) (n : Nat)
    (h : ∀ j, j < n → b ∈ wrOf (rc j).ups → D j = D' j) : (SD ops rc s D n).box b = (SD ops rc s D' n).box b := by
  induction n with
  | zero => rfl
  | succ n ih =>
    have ih := ih fun j hj => h j (by omega)
    simp only [SD]
    cases ho : ops[n]? with
    | none => exact ih
    | some o =>
      simp only
      by_cases hd : b ∈ wrOf (rc n).ups
      · rw [h n (by omega) hd]
        split
        · exact applyR_box' _ _ _ _ _ ih
        · exact ih
      · have e : ∀ (x : St), (applyR o (rc n) x).box b = x.box b := fun x => applyR_box _ _ _ _ hd
        cases D n <;> cases D' n <;> simp [e, ih]

theorem ext_state {s s' : St} (h1 : s.n = s'.n) (h3 : ∀ t, s.get t = s'.get t) (h4 : ∀ b, s.box b = s'.box b) : s = s' := by
  obtain ⟨n, t, b⟩ := s
  obtain ⟨n', t', b'⟩ := s'
  simp only [St.mk.injEq]
  exact ⟨h1, funext h3, funext h4⟩

/-- Two operations that do not touch each other's things may change places. -/
theorem applyR_comm {ops : Array Oper} {o p : Oper} {x y : Rec} (h : indep ops o p x y = true) (s : St) :
    applyR o x (applyR p y s) = applyR p y (applyR o x s) := by
  simp only [indep, Bool.and_eq_true, disj, List.all_eq_true, Bool.not_eq_true', List.contains_eq_mem] at h
  obtain ⟨⟨⟨h1, h2⟩, h3⟩, h4⟩ := h
  have hd : ∀ t, o.dst = some t → p.dst ≠ some t := fun t e e' => by
    have := h1 t (by simp [e]); simp [e'] at this
  have hw : ∀ b, b ∈ wrOf x.ups → b ∉ wrOf y.ups := fun b hb hb' => by
    have := h3 b hb; simp [hb'] at this
  refine ext_state (by simp) (fun t => ?_) (fun b => ?_)
  · by_cases e : o.dst = some t
    · rw [applyR_get p y _ t (hd t e)]
      simp [applyR, St.get_put, e]
    · rw [applyR_get o x _ t e]
      by_cases e' : p.dst = some t
      · simp [applyR, St.get_put, e']
      · rw [applyR_get p y _ t e', applyR_get p y _ t e', applyR_get o x _ t e]
  · by_cases e : b ∈ wrOf x.ups
    · rw [applyR_box p y _ b (hw b e)]
      simp only [applyR, St.put_box, St.upd_box, e, if_true]
    · rw [applyR_box o x _ b e]
      by_cases e' : b ∈ wrOf y.ups
      · simp only [applyR, St.put_box, St.upd_box, e', if_true]
      · rw [applyR_box p y _ b e', applyR_box p y _ b e', applyR_box o x _ b e]

theorem SD_add (ops : Array Oper) (rc : Nat → Rec) (s : St) (D : Nat → Bool) (i : Nat) (o : Oper) (ho : ops[i]? = some o) (hi : D i = false)
    (n : Nat) (hn : i < n) (h : ∀ j p, i < j → j < n → ops[j]? = some p → D j = true → indep ops o p (rc i) (rc j) = true) :
    SD ops rc s (fun k => D k || k == i) n = applyR o (rc i) (SD ops rc s D n) := by
  have below : ∀ m, m ≤ i → SD ops rc s (fun k => D k || k == i) m = SD ops rc s D m := by
    intro m
    induction m with
    | zero => intro _; rfl
    | succ m ih =>
      intro hm
      have hne : (m == i) = false := by simp; omega
      simp only [SD, hne, Bool.or_false, ih (by omega)]
  induction n with
  | zero => omega
  | succ n ih =>
    by_cases e : n = i
    · subst e
      simp only [SD, ho, beq_self_eq_true, Bool.or_true, if_true, hi, Bool.false_eq_true, if_false]
      rw [below n (Nat.le_refl _)]
    · have ih := ih (by omega) fun j p h1 h2 => h j p h1 (by omega)
      have hne : (n == i) = false := by simpa using e
      simp only [SD, hne, Bool.or_false]
      cases hp : ops[n]? with
      | none => exact ih
      | some p =>
        simp only
        cases hD : D n with
        | false => simpa using ih
        | true =>
          simp only [if_true, ih]
          exact (applyR_comm (h n p (by omega) (by omega) hp hD) _).symm

end Go.Ev
