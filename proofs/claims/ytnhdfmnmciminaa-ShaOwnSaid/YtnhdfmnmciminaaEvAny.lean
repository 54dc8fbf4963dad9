/-
  A symbolic executor over abstract states, part 4: a region that draws its order: what holds in the order of the text holds in any.
-/
import Derived.Test.YtnhdfmnmciminaaEvRun
namespace Go.Ev

def RunL (C : Cfg) (ops : Array Oper) : List Oper → St → List Rec → St → Prop
  | [], s, rcs, s' => rcs = [] ∧ s = s'
  | o :: os, s, rcs, s' => ∃ rc rest, rcs = rc :: rest ∧ StepR C ops o s rc ∧ RunL C ops os (applyR o rc s) rest s'

theorem runK_L {C : Cfg} {ops : Array Oper} {K : List Rec → St → Prop} (os : List Oper) : ∀ (s : St) (acc : List Rec), RunK C ops os s acc K →
    ∃ rcs s', RunL C ops os s rcs s' ∧ K (acc ++ rcs) s' := by
  induction os with
  | nil => intro s acc h; exact ⟨[], s, ⟨rfl, rfl⟩, by simpa [RunK] using h⟩
  | cons o os ih =>
    intro s acc h
    have go : ∀ rc, StepR C ops o s rc → RunK C ops os (applyR o rc s) (acc ++ [rc]) K → ∃ rcs s', RunL C ops (o :: os) s rcs s' ∧ K (acc ++ rcs) s' := by
      intro rc st hk
      obtain ⟨rcs, s', hl, hk'⟩ := ih _ _ hk
      exact ⟨rc :: rcs, s', ⟨rc, rcs, rfl, st, hl⟩, by simpa using hk'⟩
    unfold RunK at h
    cases hg : o.guard with
    | none =>
      simp only [hg] at h
      obtain ⟨rd, r, ups, st, hn⟩ := h
      exact go ⟨false, rd, r, ups⟩ (.inr ⟨rfl, .inl hg, st⟩) hn
    | some jw =>
      obtain ⟨j, want⟩ := jw
      simp only [hg] at h
      obtain ⟨b, hy, h1, h2⟩ := h
      by_cases hb : b = some want
      · obtain ⟨rd, r, ups, st, hn⟩ := h1 hb
        exact go ⟨false, rd, r, ups⟩ (.inr ⟨rfl, .inr ⟨j, want, hg, hb ▸ hy⟩, st⟩) hn
      · exact go skipRec (.inl ⟨rfl, j, want, b, hg, hy, hb⟩) (h2 hb)

theorem runL_SD {C : Cfg} {ops : Array Oper} {s0 : St} (rc : Nat → Rec) (os : List Oper) : ∀ (i : Nat) (rcs : List Rec) (s' : St),
    (∀ n, os[n]? = ops[i + n]?) → (∀ n, n < os.length → rcs.getD n skipRec = rc (i + n)) → RunL C ops os (SD ops rc s0 (fun _ => true) i) rcs s' →
    (∀ n o, os[n]? = some o → StepR C ops o (SD ops rc s0 (fun _ => true) (i + n)) (rc (i + n))) ∧ s' = SD ops rc s0 (fun _ => true) (i + os.length) := by
  induction os with
  | nil => intro i rcs s' _ _ h; exact ⟨fun n o h => by simp at h, by simpa using h.2.symm⟩
  | cons o os ih =>
    intro i rcs s' he hr h
    obtain ⟨x, rest, rfl, st, hl⟩ := h
    have ho : ops[i]? = some o := by have := he 0; simpa using this.symm
    have hx : x = rc i := by have := hr 0 (by simp); simpa using this
    subst hx
    have hs : SD ops rc s0 (fun _ => true) (i + 1) = applyR o (rc i) (SD ops rc s0 (fun _ => true) i) := by simp [SD, ho]
    rw [← hs] at hl
    obtain ⟨h1, h2⟩ := ih (i + 1) rest s' (fun n => by have := he (n + 1); simpa [Nat.add_assoc, Nat.add_comm 1 n] using this)
      (fun n hn => by have := hr (n + 1) (by simpa using hn); simpa [Nat.add_assoc, Nat.add_comm 1 n] using this) hl
    refine ⟨fun n p hp => ?_, by rw [h2]; congr 1; simp; omega⟩
    cases n with
    | zero => simp at hp; subst hp; exact st
    | succ n =>
      have := h1 n p (by simpa using hp)
      have e : i + 1 + n = i + (n + 1) := by omega
      rw [e] at this; exact this

section
variable (ops : Array Oper) (rcs : List Rec) (s0 : St)

/-- The boxes that the i-th operation may have made. -/
def newOf (i : Nat) : List Nat :=
  (wrOf (rcs.getD i skipRec).ups).filter fun b => ((s0.box b).isNone && !((List.range i).any fun j => (wrOf (rcs.getD j skipRec).ups).contains b)) || rcs.any fun rc => (wrOf rc.ups).contains b && (postOf rc.ups b).isNone

def edgesOk : Bool := (List.range ops.size).all fun i => match ops[i]? with
  | some o => o.after.toList.all fun e => !Region.binds .any e || decide (e.on < i)
  | none => true

def pairOk (ms : List Nat) (i j : Nat) : Bool := match ops[i]?, ops[j]? with
  | some o, some p => (if i < j then (ms.getD j 0).testBit i || indep ops o p (rcs.getD i skipRec) (rcs.getD j skipRec) else true) &&
      (i == j || (ms.getD j 0).testBit i || (newOf rcs s0 i).all fun b => !menR b (rcs.getD j skipRec))
  | _, _ => true

def pairsOk : Bool :=
  edgesOk ops && (List.range ops.size).all fun i => (List.range ops.size).all fun j => pairOk ops rcs s0 (masks ops.toList []) i j

def orderOk : Prop :=
  pairsOk ops rcs s0 = true ∧ ∀ i o, ops[i]? = some o → ∀ b ∈ newOf rcs s0 i, NoMen s0 b o.dst
end

/-- What is listed bears, with each operation, those ahead of it. -/
def Closed (ops : Array Oper) (L : Nat → Bool) : Prop :=
  ∀ j o, ops[j]? = some o → L j = true → ∀ e ∈ o.after.toList, Region.binds .any e = true → L e.on = true

theorem mask_bits (L : Nat → Bool) (acc : List Nat) (h : ∀ j, L j = true → ∀ i, (acc.getD j 0).testBit i = true → L i = true) (es : List Edge)
    (he : ∀ e ∈ es, Region.binds .any e = true → L e.on = true) : ∀ (m : Nat), (∀ i, m.testBit i = true → L i = true) →
    ∀ i, (es.foldl (fun m e => if Region.binds .any e then m ||| 2 ^ e.on ||| acc.getD e.on 0 else m) m).testBit i = true → L i = true := by
  induction es with
  | nil => intro m hm i hi; exact hm i hi
  | cons e es ih =>
    intro m hm i hi
    refine ih (fun e' h' => he e' (by simp [h'])) _ ?_ i hi
    intro i hi
    dsimp only at hi
    split at hi
    · rename_i hb
      have hl := he e (by simp) hb
      simp only [Nat.testBit_or, Bool.or_eq_true, Nat.testBit_two_pow, decide_eq_true_eq] at hi
      rcases hi with (hi | hi) | hi
      · exact hm i hi
      · exact hi ▸ hl
      · exact h e.on hl i hi
    · exact hm i hi

theorem masks_len (os : List Oper) : ∀ acc, (masks os acc).length = acc.length + os.length := by
  induction os with
  | nil => intro acc; simp [masks]
  | cons o os ih => intro acc; simp [masks, ih]; omega

theorem masks_bits (ops : Array Oper) (L : Nat → Bool) (hL : Closed ops L) (os : List Oper) : ∀ (acc : List Nat),
    (∀ n, os[n]? = ops[acc.length + n]?) → (∀ j, L j = true → ∀ i, (acc.getD j 0).testBit i = true → L i = true) →
    ∀ j, L j = true → ∀ i, ((masks os acc).getD j 0).testBit i = true → L i = true := by
  induction os with
  | nil => intro acc _ h; exact h
  | cons o os ih =>
    intro acc he h
    simp only [masks]
    refine ih _ (fun n => by have := he (n + 1); simp at this ⊢; rw [this]; congr 1; omega) ?_
    intro j hj i hi
    by_cases e : j < acc.length
    · have e2 : ∀ x, (acc ++ [x]).getD j 0 = acc.getD j 0 := fun x => by simp [List.getD_eq_getElem?_getD, List.getElem?_append_left e]
      rw [e2] at hi
      exact h j hj i hi
    · by_cases e' : j = acc.length
      · subst e'
        have ho : ops[acc.length]? = some o := by have := he 0; simpa using this.symm
        have e2 : ∀ x, (acc ++ [x]).getD acc.length 0 = x := fun x => by simp [List.getD_eq_getElem?_getD]
        rw [e2] at hi
        exact mask_bits L acc h o.after.toList (fun e he hb => hL _ o ho hj e he hb) 0 (fun i hi => by simp at hi) i hi
      · have e2 : ∀ x, (acc ++ [x]).getD j 0 = 0 := fun x => by
          simp only [List.getD_eq_getElem?_getD]
          rw [List.getElem?_eq_none (by simp; omega)]; rfl
        rw [e2] at hi; simp at hi

theorem SD_men (ops : Array Oper) (rc : Nat → Rec) (s : St) (D : Nat → Bool) (b : Nat) (d : Option Nat) (h0 : NoMen s b d)
    (n : Nat) (h : ∀ j, j < n → D j = true → menR b (rc j) = false) : NoMen (SD ops rc s D n) b d := by
  induction n with
  | zero => exact h0
  | succ n ih =>
    have ih := ih fun j hj => h j (by omega)
    simp only [SD]
    cases ho : ops[n]? with
    | none => exact ih
    | some o =>
      simp only
      cases hD : D n with
      | false => simpa using ih
      | true =>
        simp only [if_true]
        have hr := h n (by omega) hD
        simp only [menR, Bool.or_eq_false_iff, List.any_eq_false] at hr
        obtain ⟨i1, i2⟩ := ih
        refine ⟨fun t ht => ?_, fun b' bx e => ?_⟩
        · simp only [applyR, St.get_put, St.upd_get]
          split
          · exact hr.1
          · exact i1 t ht
        · simp only [applyR, St.put_box] at e
          rw [St.upd_box] at e
          split at e
          · rename_i hw
            simp only [postOf] at e
            cases hlk : (rc n).ups.lookup b' with
            | none => simp [hlk] at e
            | some y =>
              simp only [hlk, Option.getD_some] at e
              subst e
              have hm : (b', some bx) ∈ (rc n).ups := by
                have : ∀ (l : List (Nat × Option Box)), l.lookup b' = some (some bx) → (b', some bx) ∈ l := by
                  intro l
                  induction l with
                  | nil => intro h; simp at h
                  | cons u l ih =>
                    intro h
                    obtain ⟨c, x⟩ := u
                    simp only [List.lookup] at h
                    split at h
                    · rename_i hc; simp at hc h; subst hc; subst h; simp
                    · exact List.mem_cons_of_mem _ (ih h)
                exact this _ hlk
              have := hr.2 _ hm
              simpa using this
          · exact i2 b' bx e

theorem StepR.congr {C : Cfg} {ops : Array Oper} {o : Oper} {s s' : St} {rc : Rec} (h : StepR C ops o s rc)
    (hl : s'.n = s.n) (hg : ∀ t ∈ looks ops o, s'.get t = s.get t)
    (hb : ∀ b ∈ rc.rd ++ wrOf rc.ups, s'.box b = s.box b) (hn : ∀ b ∈ wrOf rc.ups, s.box b = none → NoMen s' b o.dst) : StepR C ops o s' rc := by
  have hy : ∀ j want, o.guard = some (j, want) → yieldedA ops s' j = yieldedA ops s j := by
    intro j want hgd
    unfold yieldedA
    cases hd : (ops[j]?).bind (·.dst) with
    | none => rfl
    | some t => simp only [Option.map_some]; rw [hg t (by simp [looks, hgd, hd])]
  rcases h with ⟨rfl, j, want, b, h1, h2, h3⟩ | ⟨h0, h1, h2⟩
  · exact .inl ⟨rfl, j, want, b, h1, (hy j want h1).trans h2, h3⟩
  · refine .inr ⟨h0, ?_, ?_⟩
    · rcases h1 with h1 | ⟨j, want, e, h1⟩
      · exact .inl h1
      · exact .inr ⟨j, want, e, (hy j want e).trans h1⟩
    · refine ⟨h2.op.congr (fun x hx => ?_) hb, fun b hw e => hn b hw (by rw [← hb b (List.mem_append_right _ hw)]; exact e), fun d hd => by rw [hl]; exact h2.dst d hd, fun b hw e => by rw [hl]; exact h2.newb b hw (by rw [← hb b (List.mem_append_right _ hw)]; exact e)⟩
      cases x with
      | tmp t => exact hg t (by simp only [looks, List.mem_append, List.mem_flatMap]; exact .inl ⟨_, by simpa using hx, by simp [slotOf]⟩)
      | _ => rfl

theorem Rel.trans0 {C : Cfg} {X : Pin} {M0 : Mem} {μ μ' : Nat → Nat} {M M' : Mem} {s : St} {a : Act} {pre : Nat → Option Box} (h : Rel C X M0 μ M s a)
    (t : Trans C [] pre μ M μ' M') : Rel C X M0 μ' M' s a := by
  have e : ∀ b, μ' b = μ b := fun b => t.mu b fun h => by simp at h
  refine ⟨t.wf, h.grow.trans t.grow, t.os.trans h.os, t.tape.trans h.tape, t.output.trans h.output, ?_, ?_, h.len, fun u => (h.tmps u).trans t fun b _ => e b,
    fun b bx hb => (h.boxes b bx hb).trans t (by simp) (by simp) fun b' _ => e b', fun x y lx ly eq => h.dist x y lx ly (by rw [← e, ← e]; exact eq), fun b lb => by rw [e]; exact h.own b lb, h.defers, fun b hb => by rw [e]; exact h.pin b hb, fun blk c T fz hb hs => ?_⟩
  · intro blk h1 h2 h3
    obtain ⟨e1, e2⟩ := h.fr blk h1 h2 h3
    obtain ⟨f1, f2⟩ := t.fr blk (Nat.lt_of_lt_of_le h1 h.grow.size) (fun c => h2 (h.spb blk h1 c)) (by simp)
    exact ⟨f1.trans e1, fun o i => e2 o (f2 o i)⟩
  · exact fun blk h1 h2 => h.spb blk h1 (t.spb blk (Nat.lt_of_lt_of_le h1 h.grow.size) h2)
  · obtain ⟨c1, T1, fz1, e1, h1⟩ := h.wid blk c T fz hb hs
    have hlt : blk < M0.w.heap.size := by
      rcases Nat.lt_or_ge blk M0.w.heap.size with h | h
      · exact h
      · simp [Array.getElem?_eq_none h] at hb
    obtain ⟨c2, T2, fz2, e2, h2⟩ := t.wid blk c1 T1 fz1 e1 fun s => hs (h.spb blk hlt s)
    exact ⟨c2, T2, fz2, e2, Nat.le_trans h1 h2⟩

/-- A world with the same memory. -/
theorem Trans.same {C : Cfg} (pre : Nat → Option Box) (μ : Nat → Nat) (M : Mem) (wf : Wf C M) (w' : World) (hh : w'.heap = M.w.heap) (ho : w'.os = M.w.os) (ht : w'.tape = M.w.tape)
    (hp : w'.output = M.w.output) : Trans C [] pre μ M μ { M with w := w' } := by
  have hc : ∀ a, w'.cell? a = M.w.cell? a := fun a => by simp [World.cell?, hh]
  have g : Grow C M { M with w := w' } := ⟨by simp [hh], fun b o i => ⟨i, hc _⟩, fun b s => s, fun b x s e => ⟨x, by simpa [hh] using e, C.refl x⟩⟩
  refine ⟨g, ⟨fun b o i => by simpa [hh] using wf.imm b o i, fun b s => by simpa [hh] using wf.sp b s, fun g' flat hg => (wf.glob g' flat hg).mono g⟩,
    ho, ht, hp, fun blk _ _ _ => ⟨by simp [hh], fun _ i => i⟩, fun _ _ s => s, fun blk c T fz e _ => ⟨c, T, fz, by simpa [hh] using e, Nat.le_refl _⟩, fun _ _ => rfl⟩

theorem any_go {C : Cfg} {X : Pin} {M0 : Mem} {ops : Array Oper} {rcs : List Rec} {s0 : St} {Q : Exit → Act → World → Prop} {K : St → Prop}
    (k : ∀ s μ M a, K s → Rel C X M0 μ M s a → Q .normal a M.w) (ok : orderOk ops rcs s0)
    (st : ∀ i o, ops[i]? = some o → StepR C ops o (SD ops (fun i => rcs.getD i skipRec) s0 (fun _ => true) i) (rcs.getD i skipRec))
    (hK : K (SD ops (fun i => rcs.getD i skipRec) s0 (fun _ => true) ops.size)) :
    ∀ (fuel : Nat) (listed : Array Bool) (a : Act) (μ : Nat → Nat) (M : Mem), listed.size = ops.size → Closed ops (fun j => listed.getD j false) →
      listed.toList.count false = fuel → Rel C X M0 μ M (SD ops (fun i => rcs.getD i skipRec) s0 (fun j => listed.getD j false) ops.size) a →
      wpAny C.P .any ops Q fuel listed a M.w := by
  obtain ⟨ok, ok3⟩ := ok
  simp only [pairsOk, Bool.and_eq_true, List.all_eq_true, List.mem_range] at ok
  obtain ⟨ok1, ok2⟩ := ok
  intro fuel
  have done : ∀ (listed : Array Bool) (a : Act) (μ : Nat → Nat) (M : Mem), listed.size = ops.size → listed.toList.count false = 0 →
      Rel C X M0 μ M (SD ops (fun i => rcs.getD i skipRec) s0 (fun j => listed.getD j false) ops.size) a → Q .normal a M.w := by
    intro listed a μ M hsz hc h
    have hall : ∀ j, j < ops.size → listed.getD j false = true := by
      intro j hj
      rw [List.count_eq_zero] at hc
      rw [Array.getD_eq_getD_getElem?, Array.getElem?_eq_getElem (by omega), Option.getD_some]
      by_cases e : listed[j]'(by omega) = true
      · exact e
      · exact (hc (by simp only [Bool.not_eq_true] at e; rw [← e]; simp [Array.getElem_mem])).elim
    have e : ∀ n, n ≤ ops.size → SD ops (fun i => rcs.getD i skipRec) s0 (fun j => listed.getD j false) n = SD ops (fun i => rcs.getD i skipRec) s0 (fun _ => true) n := by
      intro n
      induction n with
      | zero => intro _; rfl
      | succ n ih => intro hn; simp only [SD, hall n (by omega), ih (by omega)]
    rw [e _ (Nat.le_refl _)] at h
    exact k _ μ M a hK h
  induction fuel with
  | zero =>
    intro listed a μ M hsz hcl hc h
    refine ⟨?_, done listed a μ M hsz hc h⟩
    simp only [Region.ready, List.filter_eq_nil_iff, List.mem_range]
    intro i hi
    rw [List.count_eq_zero] at hc
    have : listed.getD i true = true := by
      rw [Array.getD_eq_getD_getElem?, Array.getElem?_eq_getElem (by omega), Option.getD_some]
      by_cases e : listed[i]'(by omega) = true
      · exact e
      · exact (hc (by simp only [Bool.not_eq_true] at e; rw [← e]; simp [Array.getElem_mem])).elim
    simp [this]
  | succ fuel ih =>
    intro listed a μ M hsz hcl hc h
    constructor
    · intro hnone
      exfalso
      -- the least one that isn't listed is ready
      have hex : ∃ i, i < ops.size ∧ listed.getD i false = false := by
        have hm : false ∈ listed.toList := by
          rw [← List.count_pos_iff]; omega
        obtain ⟨i, hi, e⟩ := List.getElem_of_mem hm
        have hi' : i < listed.size := by simpa using hi
        refine ⟨i, by omega, ?_⟩
        rw [Array.getD_eq_getD_getElem?, Array.getElem?_eq_getElem hi', Option.getD_some]
        simpa using e
      obtain ⟨i, ⟨hi, hf⟩, hmin⟩ : ∃ i, (i < ops.size ∧ listed.getD i false = false) ∧ ∀ j, j < i → ¬ (j < ops.size ∧ listed.getD j false = false) := by
        obtain ⟨i0, h0⟩ := hex
        induction i0 using Nat.strongRecOn with
        | _ i0 ih =>
          by_cases hx : ∃ j, j < i0 ∧ (j < ops.size ∧ listed.getD j false = false)
          · obtain ⟨j, hj, h⟩ := hx; exact ih j hj h
          · exact ⟨i0, h0, fun j hj h => hx ⟨j, hj, h⟩⟩
      have hr : i ∈ Region.ready .any ops listed := by
        simp only [Region.ready, List.mem_filter, List.mem_range]
        refine ⟨hi, ?_⟩
        have e1 : listed.getD i true = false := by
          rw [Array.getD_eq_getD_getElem?, Array.getElem?_eq_getElem (by omega), Option.getD_some] at hf ⊢; exact hf
        simp only [e1, Bool.not_false, Bool.true_and, Array.getElem?_eq_getElem hi, Option.map_some, Option.getD_some]
        rw [Array.all_eq_true]
        intro n hn
        have ho := ok1
        simp only [edgesOk, List.all_eq_true, List.mem_range] at ho
        have ho := ho i hi
        simp only [Array.getElem?_eq_getElem hi, List.all_eq_true] at ho
        have ho := ho (ops[i].after[n]) (by simp [Array.getElem_mem])
        cases hb : Region.binds .any ops[i].after[n] with
        | false => simp
        | true =>
          simp only [hb, Bool.not_true, Bool.false_or, decide_eq_true_eq] at ho
          simp only [Bool.not_true, Bool.false_or]
          by_cases e : listed.getD (ops[i].after[n]).on false = true
          · exact e
          · exact (hmin _ ho ⟨by omega, by simpa using e⟩).elim
      rw [hnone] at hr; simp at hr
    · intro i hr
      simp only [Region.ready, List.mem_filter, List.mem_range, Bool.and_eq_true, Bool.not_eq_true'] at hr
      obtain ⟨hi, hu, hp⟩ := hr
      have ho : ops[i]? = some ops[i] := Array.getElem?_eq_getElem hi
      have hu' : listed.getD i false = false := by
        rw [Array.getD_eq_getD_getElem?, Array.getElem?_eq_getElem (by omega), Option.getD_some] at hu ⊢; exact hu
      simp only [ho, Option.map_some, Option.getD_some, Array.all_eq_true] at hp
      have hpre : ∀ e ∈ ops[i].after.toList, Region.binds .any e = true → listed.getD e.on false = true := by
        intro e he hb
        obtain ⟨n, hn, rfl⟩ := List.getElem_of_mem he
        have := hp n (by simpa using hn)
        simp only [Array.getElem_toList] at hb ⊢
        simpa [hb] using this
      let L : Nat → Bool := fun j => listed.getD j false
      let L' : Nat → Bool := fun j => (listed.setIfInBounds i true).getD j false
      have hL' : ∀ j, L' j = (L j || j == i) := by
        intro j
        simp only [L, L', Array.getD_eq_getD_getElem?, Array.getElem?_setIfInBounds]
        by_cases e : i = j
        · subst e; simp [hsz, hi]
        · have : (j == i) = false := by simp; exact fun h => e h.symm
          simp [e, this]
      have hcl' : Closed ops L' := by
        intro j o hj hjl e he hb
        rw [hL'] at hjl ⊢
        simp only [Bool.or_eq_true, beq_iff_eq] at hjl ⊢
        rcases hjl with hjl | hjl
        · exact .inl (hcl j o hj hjl e he hb)
        · subst hjl
          rw [ho] at hj; cases hj
          exact .inl (hpre e he hb)
      have bits : ∀ j, L j = true → ((masks ops.toList []).getD j 0).testBit i = true → False := by
        intro j hj hb
        have := masks_bits ops L hcl ops.toList [] (fun n => by simp) (fun j _ i h => by simp at h) j hj i hb
        simp only [L] at this
        rw [hu'] at this; cases this
      have bits' : ∀ j, j < ops.size → L j = false → ((masks ops.toList []).getD i 0).testBit j = true → False := by
        intro j _ hj hb
        have := masks_bits ops L' hcl' ops.toList [] (fun n => by simp) (fun j _ i h => by simp at h) i (by rw [hL']; simp) j hb
        rw [hL'] at this
        simp only [hj, Bool.false_or, beq_iff_eq] at this
        subst this
        -- no edge leads back to i
        have hlt : ∀ (os : List Oper) (acc : List Nat), (∀ n, os[n]? = ops[acc.length + n]?) → (∀ j i, (acc.getD j 0).testBit i = true → i < j) →
            ∀ j i, ((masks os acc).getD j 0).testBit i = true → i < j := by
          intro os
          induction os with
          | nil => intro acc _ h; exact h
          | cons o os ih =>
            intro acc he hacc
            simp only [masks]
            refine ih _ (fun n => by have := he (n + 1); simp at this ⊢; rw [this]; congr 1; omega) ?_
            intro j i hi
            by_cases e : j < acc.length
            · have e2 : ∀ x, (acc ++ [x]).getD j 0 = acc.getD j 0 := fun x => by simp [List.getD_eq_getElem?_getD, List.getElem?_append_left e]
              rw [e2] at hi; exact hacc j i hi
            · by_cases e' : j = acc.length
              · subst e'
                have e2 : ∀ x, (acc ++ [x]).getD acc.length 0 = x := fun x => by simp [List.getD_eq_getElem?_getD]
                rw [e2] at hi
                have ho' : ops[acc.length]? = some o := by have := he 0; simpa using this.symm
                have hlen : acc.length < ops.size := by
                  rcases Nat.lt_or_ge acc.length ops.size with h | h
                  · exact h
                  · simp [Array.getElem?_eq_none h] at ho'
                have he2 : ∀ e ∈ o.after.toList, Region.binds .any e = true → decide (e.on < acc.length) = true := by
                  intro e he hb
                  have hx := ok1
                  simp only [edgesOk, List.all_eq_true, List.mem_range] at hx
                  have hx := hx acc.length hlen
                  simp only [ho', List.all_eq_true] at hx
                  have := hx e he
                  simpa [hb] using this
                have := mask_bits (fun x => decide (x < acc.length)) acc (fun j hj i hi => by
                  have := hacc j i hi
                  simp only [decide_eq_true_eq] at hj ⊢; omega) o.after.toList he2 0 (fun i hi => by simp at hi) i hi
                simpa using this
              · have e2 : ∀ x, (acc ++ [x]).getD j 0 = 0 := fun x => by
                  simp only [List.getD_eq_getElem?_getD]
                  rw [List.getElem?_eq_none (by simp; omega)]; rfl
                rw [e2] at hi; simp at hi
        have := hlt ops.toList [] (fun n => by simp) (fun j i h => by simp at h) j j hb
        omega
      -- pairs
      have pair : ∀ x y (hx : x < ops.size) (hy : y < ops.size), x < y → ((masks ops.toList []).getD y 0).testBit x = true ∨
          indep ops ops[x] ops[y] (rcs.getD x skipRec) (rcs.getD y skipRec) = true := by
        intro x y hx hy hxy
        have := ok2 x hx y hy
        simp only [pairOk, Array.getElem?_eq_getElem hx, Array.getElem?_eq_getElem hy, hxy, if_true, Bool.and_eq_true, Bool.or_eq_true] at this
        exact this.1
      have ind_dst : ∀ {o p : Oper} {x y : Rec} {t : Nat}, indep ops o p x y = true → o.dst = some t → t ∈ looks ops p → False := by
        intro o p x y t h hd ht
        simp only [indep, Bool.and_eq_true, disj, List.all_eq_true, Bool.not_eq_true', List.contains_eq_mem] at h
        have := h.1.1.1 t (by simp [hd])
        simp [ht] at this
      have ind_dst' : ∀ {o p : Oper} {x y : Rec} {t : Nat}, indep ops o p x y = true → p.dst = some t → t ∈ looks ops o → False := by
        intro o p x y t h hd ht
        simp only [indep, Bool.and_eq_true, disj, List.all_eq_true, Bool.not_eq_true', List.contains_eq_mem] at h
        have := h.1.1.2 t (by simp [hd])
        simp [ht] at this
      have ind_wr : ∀ {o p : Oper} {x y : Rec} {b : Nat}, indep ops o p x y = true → b ∈ wrOf x.ups → b ∈ y.rd ++ wrOf y.ups → False := by
        intro o p x y b h hd ht
        simp only [indep, Bool.and_eq_true, disj, List.all_eq_true, Bool.not_eq_true', List.contains_eq_mem] at h
        have := h.1.2 b hd
        simp only [List.mem_append, decide_eq_false_iff_not, not_or] at this
        rcases List.mem_append.1 ht with h | h
        · exact this.2 h
        · exact this.1 h
      have ind_wr' : ∀ {o p : Oper} {x y : Rec} {b : Nat}, indep ops o p x y = true → b ∈ wrOf y.ups → b ∈ x.rd ++ wrOf x.ups → False := by
        intro o p x y b h hd ht
        simp only [indep, Bool.and_eq_true, disj, List.all_eq_true, Bool.not_eq_true', List.contains_eq_mem] at h
        rcases List.mem_append.1 ht with h' | h'
        · have := h.2 b hd; simp [h'] at this
        · have := h.1.2 b h'; simp [hd] at this
      -- the same operands and boxes as in the order of the text
      have differ : ∀ j, j < ops.size → L j ≠ decide (j < i) → j ≠ i → (hj : j < ops.size) →
          (j < i ∧ indep ops ops[j] ops[i] (rcs.getD j skipRec) (rcs.getD i skipRec) = true) ∨ (i < j ∧ L j = true ∧ indep ops ops[i] ops[j] (rcs.getD i skipRec) (rcs.getD j skipRec) = true) := by
        intro j _ hne hji hj
        rcases Nat.lt_or_ge j i with hlt | hge
        · left
          refine ⟨hlt, ?_⟩
          rcases pair j i hj hi hlt with h | h
          · have hLj : L j = false := by
              cases hL : L j with
              | false => rfl
              | true => simp [hL, hlt] at hne
            exact (bits' j hj hLj h).elim
          · exact h
        · right
          have hgt : i < j := by omega
          have hLj : L j = true := by
            cases hL : L j with
            | true => rfl
            | false =>
              have : decide (j < i) = false := by simp; omega
              rw [hL, this] at hne; exact (hne rfl).elim
          refine ⟨hgt, hLj, ?_⟩
          rcases pair i j hi hj hgt with h | h
          · exact (bits j hLj h).elim
          · exact h
      have upto : ∀ m, m ≤ ops.size → i ≤ m → SD ops (fun i => rcs.getD i skipRec) s0 (fun j => decide (j < i)) m = SD ops (fun i => rcs.getD i skipRec) s0 (fun _ => true) i := by
        have low : ∀ m, m ≤ i → SD ops (fun i => rcs.getD i skipRec) s0 (fun j => decide (j < i)) m = SD ops (fun i => rcs.getD i skipRec) s0 (fun _ => true) m := by
          intro m
          induction m with
          | zero => intro _; rfl
          | succ m ih =>
            intro hm
            have hd : decide (m < i) = true := by simp; omega
            simp only [SD, hd, ih (by omega)]
        intro m
        induction m with
        | zero => intro _ h0; have : i = 0 := by omega
                  subst this; rfl
        | succ m ih =>
          intro hm him
          by_cases e : i = m + 1
          · exact (low (m + 1) (by omega)).trans (by rw [e])
          · have hd : decide (m < i) = false := by simp; omega
            simp only [SD, hd]
            rw [ih (by omega) (by omega)]
            cases ops[m]? <;> simp
      have hgt : ∀ t ∈ looks ops ops[i], (SD ops (fun i => rcs.getD i skipRec) s0 L ops.size).get t = (SD ops (fun i => rcs.getD i skipRec) s0 (fun _ => true) i).get t := by
        intro t ht
        rw [← upto ops.size (Nat.le_refl _) (by omega)]
        refine SD_get ops _ s0 L _ t ops.size fun j o hj hjo hdst => ?_
        have hjo' : o = ops[j] := by rw [Array.getElem?_eq_getElem hj] at hjo; exact (Option.some.inj hjo).symm
        subst hjo'
        by_cases hji : j = i
        · subst hji; simp only [L, hu']; simp
        · by_cases hne : L j = decide (j < i)
          · exact hne
          · rcases differ j hj hne hji hj with ⟨_, h⟩ | ⟨_, _, h⟩
            · exact (ind_dst h hdst ht).elim
            · exact (ind_dst' h hdst ht).elim
      have hbx : ∀ b ∈ (rcs.getD i skipRec).rd ++ wrOf (rcs.getD i skipRec).ups, (SD ops (fun i => rcs.getD i skipRec) s0 L ops.size).box b = (SD ops (fun i => rcs.getD i skipRec) s0 (fun _ => true) i).box b := by
        intro b hb
        rw [← upto ops.size (Nat.le_refl _) (by omega)]
        refine SD_box ops _ s0 L _ b ops.size fun j hj hjb => ?_
        by_cases hji : j = i
        · subst hji; simp only [L, hu']; simp
        · by_cases hne : L j = decide (j < i)
          · exact hne
          · rcases differ j hj hne hji hj with ⟨_, h⟩ | ⟨_, _, h⟩
            · exact (ind_wr h hjb hb).elim
            · exact (ind_wr' h hjb hb).elim
      have hnew : ∀ b ∈ wrOf (rcs.getD i skipRec).ups, (SD ops (fun i => rcs.getD i skipRec) s0 (fun _ => true) i).box b = none →
          NoMen (SD ops (fun i => rcs.getD i skipRec) s0 L ops.size) b ops[i].dst := by
        intro b hb hnone
        have hmem : b ∈ newOf rcs s0 i := by
          simp only [newOf, List.mem_filter, Bool.or_eq_true]
          refine ⟨hb, ?_⟩
          have : ∀ m, (SD ops (fun i => rcs.getD i skipRec) s0 (fun _ => true) m).box b = none → (s0.box b = none ∧ ∀ j, j < m → j < ops.size → b ∉ wrOf (rcs.getD j skipRec).ups) ∨ ∃ j, b ∈ wrOf (rcs.getD j skipRec).ups ∧ postOf (rcs.getD j skipRec).ups b = none := by
            intro m
            induction m with
            | zero => intro h; exact .inl ⟨h, fun j hj _ => absurd hj (Nat.not_lt_zero _)⟩
            | succ m ih =>
              intro h
              simp only [SD] at h
              cases ho' : ops[m]? with
              | none =>
                simp only [ho'] at h
                rcases ih h with ⟨e, f⟩ | e
                · refine .inl ⟨e, fun j hj hjs => ?_⟩
                  by_cases hjm : j = m
                  · subst hjm
                    rw [Array.getElem?_eq_getElem hjs] at ho'; cases ho'
                  · exact f j (by omega) hjs
                · exact .inr e
              | some p =>
                simp only [ho', if_true, applyR, St.put_box] at h
                rw [St.upd_box] at h
                split at h
                · rename_i hw; exact .inr ⟨m, hw, h⟩
                · rename_i hw
                  rcases ih h with ⟨e, f⟩ | e
                  · refine .inl ⟨e, fun j hj hjs => ?_⟩
                    by_cases hjm : j = m
                    · subst hjm; exact hw
                    · exact f j (by omega) hjs
                  · exact .inr e
          rcases this i hnone with ⟨e, f⟩ | ⟨j, h1, h2⟩
          · left
            simp only [e, Option.isNone_none, Bool.true_and, Bool.not_eq_true', List.any_eq_false, List.mem_range]
            intro j hj
            simpa using f j hj (Nat.lt_trans hj hi)
          · right
            -- someone ahead of it has taken it away
            rw [List.any_eq_true]
            have hjm : rcs.getD j skipRec ∈ rcs := by
              by_cases hjl : j < rcs.length
              · simp [List.getD_eq_getElem?_getD, List.getElem?_eq_getElem hjl]
              · have : rcs.getD j skipRec = skipRec := by simp [List.getD_eq_getElem?_getD, List.getElem?_eq_none (Nat.not_lt.1 hjl)]
                rw [this] at h1; simp [skipRec, wrOf] at h1
            exact ⟨_, hjm, by rw [h2]; simp only [List.contains_eq_mem, h1, decide_true, Option.isNone_none, Bool.and_self]⟩
        have h3 := ok3 i ops[i] ho
        refine SD_men ops _ s0 L b ops[i].dst (h3 b hmem) ops.size fun j hj hLj => ?_
        have hji : j ≠ i := fun e => by subst e; simp only [L, hu'] at hLj; cases hLj
        have h2 := ok2 i hi j hj
        simp only [pairOk, ho, Array.getElem?_eq_getElem hj, Bool.and_eq_true, Bool.or_eq_true, List.all_eq_true, Bool.not_eq_true'] at h2
        rcases h2.2 with (h2 | h2) | h2
        · simp at h2; exact (hji h2.symm).elim
        · exact (bits j hLj h2).elim
        · exact h2 b hmem
      have hst := (st i ops[i] ho).congr (s' := SD ops (fun i => rcs.getD i skipRec) s0 L ops.size) (by rw [SD_n, SD_n]) hgt hbx hnew
      refine stepR_sound ho h hst fun a' μ' M' hr => ?_
      have hadd := SD_add ops (fun i => rcs.getD i skipRec) s0 L i ops[i] ho hu' ops.size hi (fun j p hij hj hp hLj => by
        have hp' : p = ops[j] := by rw [Array.getElem?_eq_getElem hj] at hp; exact (Option.some.inj hp).symm
        subst hp'
        rcases pair i j hi hj hij with h | h
        · exact (bits j hLj h).elim
        · exact h)
      have hfun : (fun k => L k || k == i) = L' := funext fun j => (hL' j).symm
      rw [hfun] at hadd
      refine ih _ a' μ' M' (by simpa using hsz) hcl' ?_ (by rw [← hadd] at hr; exact hr)
      have hi2 : i < listed.toList.length := by simpa [hsz] using hi
      have hfalse : listed.toList[i] = false := by
        have := hu
        rw [Array.getD_eq_getD_getElem?, Array.getElem?_eq_getElem (by omega), Option.getD_some] at this
        simpa using this
      rw [Array.toList_setIfInBounds]
      have hcnt := List.count_set (l := listed.toList) (i := i) (a := true) (b := false) hi2
      rw [hcnt]
      simp only [hfalse, beq_self_eq_true, if_true]
      have : (true == false) = false := rfl
      simp only [this, Bool.false_eq_true, if_false]
      omega

/-- A region that draws its order: what its operations do in the order of the text, they do. -/
theorem any_sound {C : Cfg} {X : Pin} {M0 : Mem} {ops : Array Oper} {s : St} {Q : Exit → Act → World → Prop} {K : St → Prop} (hm : C.P.follows .mixedOrders = true) {id : Nat}
    {μ : Nat → Nat} {M : Mem} {a : Act} (k : ∀ s μ M a, K s → Rel C X M0 μ M s a → Q .normal a M.w) (h : Rel C X M0 μ M s a)
    (hr : RunK C ops ops.toList s [] fun rcs s' => orderOk ops rcs s ∧ K s') :
    (Code.region id ops true).wp C.P Q a M.w := by
  obtain ⟨rcs, s', hl, ok, hk⟩ := runK_L _ _ _ hr
  simp only [List.nil_append] at ok hk
  have h0 : SD ops (fun i => rcs.getD i skipRec) s (fun _ => true) 0 = s := rfl
  obtain ⟨h1, h2⟩ := runL_SD (s0 := s) (fun i => rcs.getD i skipRec) ops.toList 0 rcs s' (fun n => by simp) (fun n _ => by simp) hl
  simp only [Nat.zero_add, Array.length_toList] at h1 h2
  refine wp_region_any hm ?_
  have hsame := Trans.same (C := C) (fun _ => none) μ M h.wf { M.w with drawn := M.w.drawn + 1 } rfl rfl rfl rfl
  have h' := h.trans0 hsame
  have hcount : (Array.replicate ops.size false).toList.count false = ops.size := by simp
  refine any_go (rcs := rcs) (s0 := s) k ok (fun i o ho => h1 i o (by simpa using ho)) (h2 ▸ hk) ops.size (Array.replicate ops.size false) a μ { M with w := { M.w with drawn := M.w.drawn + 1 } } (by simp) ?_ hcount ?_
  · intro j o _ hj
    simp only [Array.getD_eq_getD_getElem?, Array.getElem?_replicate] at hj
    split at hj <;> simp at hj
  · have e : ∀ n, SD ops (fun i => rcs.getD i skipRec) s (fun j => (Array.replicate ops.size false).getD j false) n = s := by
      intro n
      induction n with
      | zero => rfl
      | succ n ih =>
        have hf : (Array.replicate ops.size false).getD n false = false := by
          simp only [Array.getD_eq_getD_getElem?, Array.getElem?_replicate]; split <;> rfl
        simp only [SD, hf, Bool.false_eq_true, if_false, ih]
        cases ops[n]? <;> rfl
    rw [e]; exact h'

end Go.Ev
