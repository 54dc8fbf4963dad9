/-
  A symbolic executor over abstract states, part 2: states, one operation, operations in the order of the text.
-/
import Derived.Test.YtnhdfmnmciminaaEvMem
namespace Go.Ev

structure St where
  n : Nat
  T : Nat → AV
  B : Nat → Option Box

def St.get (s : St) (t : Nat) : AV := s.T t
def St.box (s : St) (b : Nat) : Option Box := s.B b
def St.put (s : St) (d : Option Nat) (r : AV) : St :=
  match d with
  | some d => { s with T := fun t => if t = d then r else s.T t }
  | none => s
def St.setB (s : St) (b : Nat) (x : Option Box) : St := { s with B := fun c => if c = b then x else s.B c }
def St.upd (s : St) : List (Nat × Option Box) → St
  | [] => s
  | (b, x) :: ups => (s.upd ups).setB b x

def constAV : Value → AV
  | .agg cs => .agg (cs.toList.map .lit)
  | .tuple _ => .c .junk
  | v => .c (.lit v)

def St.ev (C : Cfg) (s : St) : Operand → AV
  | .tmp t => s.get t
  | .const v => constAV v
  | .global g => match C.G g with
    | some flat => .c (.iptr flat)
    | none => .c (.lit (.pointer (some ⟨g, 0, none⟩)))
  | .func f => .c (.lit (.func (.func f) #[] #[]))

def wrOf (ups : List (Nat × Option Box)) : List Nat := ups.map (·.1)
def postOf (ups : List (Nat × Option Box)) (b : Nat) : Option Box := (ups.lookup b).getD none

/-- A state names box b nowhere, but perhaps in slot d. -/
def NoMen (s : St) (b : Nat) (d : Option Nat) : Prop :=
  (∀ t, d ≠ some t → (s.get t).men b = false) ∧ ∀ b' bx, s.box b' = some bx → bx.men b = false

theorem St.get_put (s : St) (d : Option Nat) (r : AV) (t : Nat) : (s.put d r).get t = if d = some t then r else s.get t := by
  cases d with
  | none => simp [St.put]
  | some d => simp [St.put, St.get, eq_comm]
@[simp] theorem St.put_n (s : St) (d : Option Nat) (r : AV) : (s.put d r).n = s.n := by cases d <;> rfl
@[simp] theorem St.put_box (s : St) (d : Option Nat) (r : AV) (b : Nat) : (s.put d r).box b = s.box b := by cases d <;> rfl
@[simp] theorem St.upd_n (s : St) (ups : List (Nat × Option Box)) : (s.upd ups).n = s.n := by
  induction ups with
  | nil => rfl
  | cons u ups ih => exact ih
@[simp] theorem St.upd_get (s : St) (ups : List (Nat × Option Box)) (t : Nat) : (s.upd ups).get t = s.get t := by
  induction ups with
  | nil => rfl
  | cons u ups ih => exact ih
theorem St.setB_box (s : St) (b : Nat) (x : Option Box) (c : Nat) : (s.setB b x).box c = if c = b then x else s.box c := rfl

theorem St.upd_box (s : St) (ups : List (Nat × Option Box)) (b : Nat) :
    (s.upd ups).box b = if b ∈ wrOf ups then postOf ups b else s.box b := by
  induction ups with
  | nil => simp [St.upd, wrOf]
  | cons u ups ih =>
    obtain ⟨c, x⟩ := u
    simp only [St.upd, St.setB_box]
    by_cases h : b = c
    · subst h; simp [wrOf, postOf, List.lookup]
    · have h' : (b == c) = false := by simpa using h
      have hm : (b ∈ wrOf ((c, x) :: ups)) ↔ b ∈ wrOf ups := by
        simp only [wrOf, List.map_cons, List.mem_cons]
        exact ⟨fun e => e.resolve_left h, .inr⟩
      have hp : postOf ((c, x) :: ups) b = postOf ups b := by simp [postOf, List.lookup, h']
      simp only [h, if_false, ih, hm, hp]

theorem St.upd_box_not (s : St) (ups : List (Nat × Option Box)) (b : Nat) (h : b ∉ wrOf ups) : (s.upd ups).box b = s.box b := by
  rw [St.upd_box, if_neg h]

/-- What one operation does, over whatever memory it is met: its slot holds r then, and the boxes are as 'ups' says. -/
def OpOk (C : Cfg) (o : Oper) (ρ : Operand → AV) (rd : List Nat) (pre : Nat → Option Box) (r : AV) (ups : List (Nat × Option Box)) : Prop :=
  ∀ (μ : Nat → Nat) (M : Mem) (a : Act) (next : Act → World → Prop) (Q : Exit → Act → World → Prop),
    Wf C M → (∀ x ∈ o.op.operands, RepV C μ M (ρ x) (a.eval x)) →
    (∀ b ∈ rd ++ wrOf ups, ∀ bx, pre b = some bx → RepB C μ M b bx) →
    (∀ x ∈ rd ++ wrOf ups, ∀ y ∈ rd ++ wrOf ups, liveB (pre x) = true → liveB (pre y) = true → μ x = μ y → x = y) →
    (∀ v μ' M', RepV C μ' M' r v → Trans C (wrOf ups) pre μ M μ' M' →
      (∀ b ∈ wrOf ups, ∀ bx, postOf ups b = some bx → RepB C μ' M' b bx) →
      (∀ x ∈ wrOf ups, liveB (postOf ups x) = true → M.w.heap.size ≤ μ' x ∨ ∃ y ∈ wrOf ups, liveB (pre y) = true ∧ μ' x = μ y) →
      (∀ x ∈ wrOf ups, ∀ y ∈ wrOf ups, liveB (postOf ups x) = true → liveB (postOf ups y) = true → μ' x = μ' y → x = y) →
      next (a.put o.dst v) M'.w) →
    o.wp C.P a M.w next Q

theorem OpOk.congr {C : Cfg} {o : Oper} {ρ ρ' : Operand → AV} {rd : List Nat} {pre pre' : Nat → Option Box} {r : AV} {ups : List (Nat × Option Box)}
    (hρ : ∀ x ∈ o.op.operands, ρ' x = ρ x) (hp : ∀ b ∈ rd ++ wrOf ups, pre' b = pre b) (h : OpOk C o ρ rd pre r ups) : OpOk C o ρ' rd pre' r ups := by
  intro μ M a next Q wf hr hb hd k
  refine h μ M a next Q wf (fun x hx => by rw [← hρ x hx]; exact hr x hx) (fun b hb' bx e => hb b hb' bx (by rw [hp b hb']; exact e))
    (fun x hx y hy lx ly => hd x hx y hy (by rw [hp x hx]; exact lx) (by rw [hp y hy]; exact ly)) ?_
  intro v μ' M' hv t hpb hf hd'
  have hw : ∀ b ∈ wrOf ups, pre' b = pre b := fun b hb => hp b (List.mem_append_right _ hb)
  refine k v μ' M' hv ⟨t.grow, t.wf, t.os, t.tape, t.output, fun blk h1 h2 h3 => t.fr blk h1 h2 fun b hb hl => h3 b hb (by rw [hw b hb]; exact hl), t.spb, t.wid,
    fun b hb => t.mu b fun hm => by rw [← hw b hm]; exact hb hm⟩ hpb ?_ hd'
  intro x hx hl
  rcases hf x hx hl with h | ⟨y, hy, h⟩
  · exact .inl h
  · exact .inr ⟨y, hy, by rw [hw y hy]; exact h⟩

structure StepOk (C : Cfg) (o : Oper) (s : St) (rd : List Nat) (r : AV) (ups : List (Nat × Option Box)) : Prop where
  op : OpOk C o (s.ev C) rd s.box r ups
  nom : ∀ b ∈ wrOf ups, s.box b = none → NoMen s b o.dst
  dst : ∀ d, o.dst = some d → d < s.n
  newb : ∀ b ∈ wrOf ups, s.box b = none → b < s.n

/-- Blocks that may be written; where the boxes stand that are there from the start (their numbers are above all slots'). -/
structure Pin where
  blk : Nat → Prop
  mu : Nat → Nat

/-- A state stands for a frame's slots and a memory that has come of M0 by rights. X: blocks of M0 that may be written. -/
structure Rel (C : Cfg) (X : Pin) (M0 : Mem) (μ : Nat → Nat) (M : Mem) (s : St) (a : Act) : Prop where
  wf : Wf C M
  grow : Grow C M0 M
  os : M.w.os = M0.w.os
  tape : M.w.tape = M0.w.tape
  output : M.w.output = M0.w.output
  fr : ∀ blk, blk < M0.w.heap.size → ¬ M0.Sp blk → ¬ X.blk blk → M.w.heap[blk]? = M0.w.heap[blk]? ∧ ∀ o, M.I blk o → M0.I blk o
  spb : ∀ blk, blk < M0.w.heap.size → M.Sp blk → M0.Sp blk
  len : a.tmps.size = s.n
  tmps : ∀ t, RepV C μ M (s.get t) (a.tmps.getD t undef)
  boxes : ∀ b bx, s.box b = some bx → RepB C μ M b bx
  dist : ∀ x y, liveB (s.box x) = true → liveB (s.box y) = true → μ x = μ y → x = y
  own : ∀ b, liveB (s.box b) = true → M0.w.heap.size ≤ μ b ∨ X.blk (μ b)
  defers : a.defers = []
  pin : ∀ b, s.n ≤ b → μ b = X.mu b
  wid : ∀ blk c T fz, M0.w.heap[blk]? = some (.cells c T fz) → ¬ M0.Sp blk → ∃ c' T' fz', M.w.heap[blk]? = some (.cells c' T' fz') ∧ c.size ≤ c'.size

theorem rep_const (C : Cfg) (μ : Nat → Nat) (M : Mem) (v : Value) : RepV C μ M (constAV v) v := by
  cases v with
  | agg cs =>
    refine ⟨cs, rfl, by simp, fun i h h' => ?_⟩
    simp only [List.getElem_map, Array.getElem_toList]
    exact .lit _
  | tuple _ => trivial
  | _ => exact RepI.lit _

theorem Rel.ev {C : Cfg} {X : Pin} {M0 : Mem} {μ : Nat → Nat} {M : Mem} {s : St} {a : Act} (h : Rel C X M0 μ M s a) (x : Operand) :
    RepV C μ M (s.ev C x) (a.eval x) := by
  cases x with
  | tmp t => exact h.tmps t
  | const v => exact rep_const C μ M v
  | global g =>
    simp only [St.ev]
    cases hg : C.G g with
    | none => exact RepI.lit _
    | some flat => exact h.wf.glob g flat hg
  | func f => exact RepI.lit _

theorem RepB.lt {C : Cfg} {μ : Nat → Nat} {M : Mem} {b : Nat} {bx : Box} (h : RepB C μ M b bx) (hl : bx.nl = false) : μ b < M.w.heap.size := by
  obtain ⟨⟨c, T, fz, hh, _⟩, _⟩ := h.2 hl
  rcases Nat.lt_or_ge (μ b) M.w.heap.size with h | h
  · exact h
  · simp [Array.getElem?_eq_none h] at hh

theorem Rel.lt {C : Cfg} {X : Pin} {M0 : Mem} {μ : Nat → Nat} {M : Mem} {s : St} {a : Act} (h : Rel C X M0 μ M s a) {b : Nat} (hl : liveB (s.box b) = true) :
    μ b < M.w.heap.size := by
  cases hb : s.box b with
  | none => simp [hb, liveB] at hl
  | some bx => exact (h.boxes b bx hb).lt (by simpa [hb, liveB] using hl)

theorem put_tmps_size (a : Act) (d : Option Nat) (v : Value) : (a.put d v).tmps.size = a.tmps.size := by cases d <;> simp [Act.put]
theorem put_defers (a : Act) (d : Option Nat) (v : Value) : (a.put d v).defers = a.defers := by cases d <;> rfl
theorem put_getD (a : Act) (d : Option Nat) (v : Value) (t : Nat) : (a.put d v).tmps.getD t undef = if d = some t ∧ t < a.tmps.size then v else a.tmps.getD t undef := by
  cases d with
  | none => simp [Act.put]
  | some d =>
    simp only [Act.put, Array.getD_eq_getD_getElem?, Array.getElem?_setIfInBounds, Option.some.injEq]
    by_cases h : d = t
    · subst h
      by_cases hl : d < a.tmps.size <;> simp [hl]
    · simp [h]

theorem step_sound {C : Cfg} {X : Pin} {M0 : Mem} {μ : Nat → Nat} {M : Mem} {s : St} {a : Act} {o : Oper} {rd : List Nat} {r : AV} {ups : List (Nat × Option Box)}
    {next : Act → World → Prop} {Q : Exit → Act → World → Prop} (h : Rel C X M0 μ M s a) (st : StepOk C o s rd r ups)
    (k : ∀ v μ' M', Rel C X M0 μ' M' ((s.upd ups).put o.dst r) (a.put o.dst v) → next (a.put o.dst v) M'.w) : o.wp C.P a M.w next Q := by
  refine st.op μ M a next Q h.wf (fun x _ => h.ev x) (fun b _ bx e => h.boxes b bx e) (fun x _ y _ => h.dist x y) ?_
  intro v μ' M' hv t hpb hf hd
  refine k v μ' M' ?_
  have mus : ∀ b, (b ∈ wrOf ups → s.box b = none → False) → μ' b = μ b := fun b hb => t.mu b fun hm e => hb hm e
  have hbx := St.upd_box s ups
  refine ⟨t.wf, h.grow.trans t.grow, t.os.trans h.os, t.tape.trans h.tape, t.output.trans h.output, ?fr, ?spb, ?len, ?tmps, ?boxes, ?dist, ?own, ?defers, ?pin, ?wid⟩
  case fr =>
    intro blk h1 h2 h3
    obtain ⟨e1, e2⟩ := h.fr blk h1 h2 h3
    obtain ⟨f1, f2⟩ := t.fr blk (Nat.lt_of_lt_of_le h1 h.grow.size) (fun c => h2 (h.spb blk h1 c)) (fun b _ hl e => by
      rcases h.own b hl with g | g
      · omega
      · exact h3 (e ▸ g))
    exact ⟨f1.trans e1, fun o i => e2 o (f2 o i)⟩
  case spb => exact fun blk h1 h2 => h.spb blk h1 (t.spb blk (Nat.lt_of_lt_of_le h1 h.grow.size) h2)
  case len => rw [put_tmps_size, h.len]; simp
  case defers => rw [put_defers]; exact h.defers
  case pin =>
    intro b hb
    have hb : s.n ≤ b := by simpa using hb
    rw [← h.pin b hb]
    exact mus b fun hw hn => by have := st.newb b hw hn; omega
  case wid =>
    intro blk c T fz e hs
    obtain ⟨c1, T1, fz1, e1, h1⟩ := h.wid blk c T fz e hs
    have hlt : blk < M0.w.heap.size := by
      rcases Nat.lt_or_ge blk M0.w.heap.size with h | h
      · exact h
      · simp [Array.getElem?_eq_none h] at e
    obtain ⟨c2, T2, fz2, e2, h2⟩ := t.wid blk c1 T1 fz1 e1 fun s => hs (h.spb blk hlt s)
    exact ⟨c2, T2, fz2, e2, Nat.le_trans h1 h2⟩
  case tmps =>
    intro u
    rw [St.get_put, put_getD]
    by_cases hc : o.dst = some u
    · have hlt := st.dst u hc
      rw [if_pos hc, if_pos ⟨hc, by rw [h.len]; exact hlt⟩]; exact hv
    · rw [if_neg hc, if_neg fun e => hc e.1, St.upd_get]
      refine (h.tmps u).trans t fun b hm => mus b fun hw hn => ?_
      have := (st.nom b hw hn).1 u hc
      rw [this] at hm; cases hm
  case boxes =>
    intro b bx e
    rw [St.put_box, hbx] at e
    split at e
    · rename_i hw; exact hpb b hw bx e
    · rename_i hw
      refine (h.boxes b bx e).trans t hw (fun hn b' hb' hl' eq => ?_) (fun b' hm => mus b' fun hw' hn => ?_)
      · have := h.dist b b' (by simp [e, liveB, hn]) hl' eq
        exact hw (this ▸ hb')
      · have := (st.nom b' hw' hn).2 b bx e
        rw [this] at hm; cases hm
  case dist =>
    intro x y lx ly eq
    rw [St.put_box, hbx] at lx ly
    have key : ∀ x y, x ∈ wrOf ups → y ∉ wrOf ups → liveB (postOf ups x) = true → liveB (s.box y) = true → μ' x = μ' y → False := by
      intro x y hx hy lx ly eq
      have ey : μ' y = μ y := t.mu y fun c => absurd c hy
      rcases hf x hx lx with g | ⟨z, hz, lz, ez⟩
      · have := h.lt ly; omega
      · have := h.dist z y lz ly (by omega)
        exact hy (this ▸ hz)
    by_cases hx : x ∈ wrOf ups <;> by_cases hy : y ∈ wrOf ups
    · rw [if_pos hx] at lx; rw [if_pos hy] at ly; exact hd x hx y hy lx ly eq
    · rw [if_pos hx] at lx; rw [if_neg hy] at ly; exact (key x y hx hy lx ly eq).elim
    · rw [if_neg hx] at lx; rw [if_pos hy] at ly; exact (key y x hy hx ly lx eq.symm).elim
    · rw [if_neg hx] at lx; rw [if_neg hy] at ly
      rw [t.mu x fun c => absurd c hx, t.mu y fun c => absurd c hy] at eq
      exact h.dist x y lx ly eq
  case own =>
    intro b lb
    rw [St.put_box, hbx] at lb
    by_cases hb : b ∈ wrOf ups
    · rw [if_pos hb] at lb
      rcases hf b hb lb with g | ⟨z, _, lz, ez⟩
      · exact .inl (Nat.le_trans h.grow.size g)
      · rw [ez]; exact h.own z lz
    · rw [if_neg hb] at lb
      rw [t.mu b fun c => absurd c hb]; exact h.own b lb

theorem skip_sound {C : Cfg} {X : Pin} {M0 : Mem} {μ : Nat → Nat} {M : Mem} {s : St} {a : Act} (h : Rel C X M0 μ M s a) (d : Option Nat) :
    Rel C X M0 μ M (s.put d (.tup [])) (a.put d undef) := by
  refine ⟨h.wf, h.grow, h.os, h.tape, h.output, h.fr, h.spb, ?_, ?_, fun b bx e => h.boxes b bx (by simpa using e), fun x y lx ly => h.dist x y (by simpa using lx) (by simpa using ly),
    fun b lb => h.own b (by simpa using lb), by rw [put_defers]; exact h.defers, fun b hb => h.pin b (by simpa using hb), h.wid⟩
  · rw [put_tmps_size, h.len]; simp
  · intro u
    rw [St.get_put, put_getD]
    by_cases hc : d = some u
    · rw [if_pos hc]
      by_cases hn : u < a.tmps.size
      · rw [if_pos ⟨hc, hn⟩]; exact ⟨#[], rfl, rfl, fun i h => absurd h (Nat.not_lt_zero _)⟩
      · rw [if_neg fun e => hn e.2]; have : a.tmps.getD u undef = undef := by simp [Array.getD_eq_getD_getElem?, Array.getElem?_eq_none (Nat.not_lt.1 hn)]
        rw [this]; exact ⟨#[], rfl, rfl, fun i h => absurd h (Nat.not_lt_zero _)⟩
    · rw [if_neg hc, if_neg fun e => hc e.1]; exact h.tmps u

end Go.Ev
