/-
  A symbolic executor over abstract states, part 1: memory, what abstract values stand for, and what growth of memory keeps.
-/
import Derived.Calls
import Derived.Orders
import Derived.Tactics
import Derived.Laws.Sem
import Derived.Laws.StructEq
namespace Go.Ev

/-- A memory: the world; the cells that nobody writes any more; the blocks that live by a rule of their own. -/
structure Mem where
  w : World
  I : Nat → Nat → Prop
  Sp : Nat → Prop

/-- Abstract cells: a value; a list in memory that nobody writes; the address of cells that nobody writes; an address in a box; a slice over a whole box (of n elements of sz cells; nl: it is nil); a map that is a box; nil or the address of a box of a known type (u: it is not nil); a slice over a box whose elements' type is known; a value of which a fact is known; a function value, by what it bears; anything. -/
inductive AC where
  | lit (v : Value)
  | list (n : Nat) (flat : List AC)
  | iptr (flat : List AC)
  | ptr (b off : Nat)
  | sl (b n sz : Nat) (nl : Bool)
  | mref (b : Nat)
  | bself (T : TypeId) (b : Nat) (u : Bool)
  | tsl (T : TypeId) (b n : Nat) (nl : Bool)
  | opq (p : Mem → Value → Prop)
  | clo (k : Nat) (fs cs : List AC)
  | junk

structure Cfg where
  P : Program
  G : Nat → Option (List AC)
  R : Obj → Obj → Prop
  refl : ∀ o, R o o
  trans : ∀ a b c, R a b → R b c → R a c
  /-- Variables whose whole cells nobody ever writes. -/
  F : Nat → Option (Array Value)

structure Grow (C : Cfg) (M M' : Mem) : Prop where
  size : M.w.heap.size ≤ M'.w.heap.size
  imm : ∀ b o, M.I b o → M'.I b o ∧ M'.w.cell? ⟨b, o, none⟩ = M.w.cell? ⟨b, o, none⟩
  sp : ∀ b, M.Sp b → M'.Sp b
  spR : ∀ b x, M.Sp b → M.w.heap[b]? = some x → ∃ y, M'.w.heap[b]? = some y ∧ C.R x y

theorem Grow.refl (C : Cfg) (M : Mem) : Grow C M M :=
  ⟨Nat.le_refl _, fun _ _ h => ⟨h, rfl⟩, fun _ h => h, fun _ x _ h => ⟨x, h, C.refl x⟩⟩

theorem Grow.trans {C : Cfg} {A B D : Mem} (h : Grow C A B) (k : Grow C B D) : Grow C A D :=
  ⟨Nat.le_trans h.size k.size,
   fun b o i => ⟨(k.imm b o (h.imm b o i).1).1, (k.imm b o (h.imm b o i).1).2.trans (h.imm b o i).2⟩,
   fun b s => k.sp b (h.sp b s),
   fun b x s e => by
     obtain ⟨y, hy, r⟩ := h.spR b x s e
     obtain ⟨z, hz, r'⟩ := k.spR b y (h.sp b s) hy
     exact ⟨z, hz, C.trans _ _ _ r r'⟩⟩

inductive AV where
  | c (a : AC)
  | agg (cs : List AC)
  | tup (vs : List AV)

/-- A value of one cell. -/
def single : Value → Bool
  | .agg _ | .tuple _ => false
  | _ => true

inductive RepI (C : Cfg) (M : Mem) : AC → Value → Prop
  | lit (v : Value) : RepI C M (.lit v) v
  | list (a : Option Addr) (n cap : Nat) (flat : List AC) (blk off : Nat) (c : Nat → Value) (hn : n ≤ cap)
      (ha : flat ≠ [] → a = some ⟨blk, off, none⟩)
      (hc : ∀ i, i < flat.length → M.I blk (off + i) ∧ M.w.cell? ⟨blk, off + i, none⟩ = some (c i))
      (hr : ∀ i (h : i < flat.length), RepI C M (flat[i]) (c i)) : RepI C M (.list n flat) (.slice a n cap)
  | iptr (flat : List AC) (blk off : Nat) (c : Nat → Value)
      (hc : ∀ i, i < flat.length → M.I blk (off + i) ∧ M.w.cell? ⟨blk, off + i, none⟩ = some (c i))
      (hr : ∀ i (h : i < flat.length), RepI C M (flat[i]) (c i)) : RepI C M (.iptr flat) (.pointer (some ⟨blk, off, none⟩))
  | opq (p : Mem → Value → Prop) (v : Value) (h : p M v) (st : ∀ M M' v, Grow C M M' → p M v → p M' v) (one : single v = true) : RepI C M (.opq p) v
  | clo (k : Nat) (fs cs : List AC) (vf vc : Array Value) (h1 : vf.size = fs.length) (h2 : vc.size = cs.length) (h3 : ∀ i (h : i < fs.length) (h' : i < vf.size), RepI C M fs[i] vf[i])
      (h4 : ∀ i (h : i < cs.length) (h' : i < vc.size), RepI C M cs[i] vc[i]) : RepI C M (.clo k fs cs) (.func (.func k) vf vc)
  | junk (v : Value) : RepI C M .junk v

theorem RepI.lit_eq {C : Cfg} {M : Mem} {v x : Value} (h : RepI C M (.lit v) x) : x = v := by
  generalize hx : AC.lit v = a at h
  cases h <;> simp_all

theorem RepI.mono {C : Cfg} {M M' : Mem} (g : Grow C M M') {a : AC} {v : Value} (h : RepI C M a v) : RepI C M' a v := by
  induction h with
  | lit v => exact .lit v
  | list a n cap flat blk off c hn ha hc hr ih =>
    exact .list a n cap flat blk off c hn ha (fun i hi => ⟨(g.imm _ _ (hc i hi).1).1, (g.imm _ _ (hc i hi).1).2.trans (hc i hi).2⟩) ih
  | iptr flat blk off c hc hr ih => exact .iptr flat blk off c (fun i hi => ⟨(g.imm _ _ (hc i hi).1).1, (g.imm _ _ (hc i hi).1).2.trans (hc i hi).2⟩) ih
  | opq p v h st one => exact .opq p v (st _ _ _ g h) st one
  | clo k fs cs vf vc h1 h2 h3 h4 ih3 ih4 => exact .clo k fs cs vf vc h1 h2 ih3 ih4
  | junk v => exact .junk v

structure Wf (C : Cfg) (M : Mem) : Prop where
  imm : ∀ b o, M.I b o → b < M.w.heap.size ∧ ¬ M.Sp b
  sp : ∀ b, M.Sp b → b < M.w.heap.size
  glob : ∀ g flat, C.G g = some flat → RepI C M (.iptr flat) (.pointer (some ⟨g, 0, none⟩))
  fix : ∀ g vs, C.F g = some vs → ∀ i, M.I g i ∧ M.w.cell? ⟨g, i, none⟩ = vs[i]?

theorem fix_mono {C : Cfg} {M M' : Mem} (g : Grow C M M') {b : Nat} {vs : Array Value} (h : ∀ i, M.I b i ∧ M.w.cell? ⟨b, i, none⟩ = vs[i]?) :
    ∀ i, M'.I b i ∧ M'.w.cell? ⟨b, i, none⟩ = vs[i]? :=
  fun i => ⟨(g.imm b i (h i).1).1, (g.imm b i (h i).1).2.trans (h i).2⟩

def RepC (C : Cfg) (μ : Nat → Nat) (M : Mem) : AC → Value → Prop
  | .ptr b off, v => v = .pointer (some ⟨μ b, off, none⟩)
  | .mref b, v => v = .map (some (μ b))
  | .sl _ n _ true, v => n = 0 ∧ v = .slice none 0 0
  | .sl b n sz false, v => ∃ cap c T fz, v = .slice (some ⟨μ b, 0, none⟩) n cap ∧ n ≤ cap ∧ M.w.heap[μ b]? = some (.cells c T fz) ∧ cap * sz ≤ c.size ∧ ¬ M.Sp (μ b)
  | .bself T b u, v => (v = .pointer (bif u then some ⟨μ b, 0, none⟩ else none)) ∧ (∃ c fz, M.w.heap[μ b]? = some (.cells c T fz) ∧ c.size = 2) ∧ ¬ M.Sp (μ b)
  | .tsl _ _ n true, v => n = 0 ∧ v = .slice none 0 0
  | .tsl T b n false, v => ∃ cap c fz, v = .slice (some ⟨μ b, 0, none⟩) n cap ∧ n ≤ cap ∧ M.w.heap[μ b]? = some (.cells c T fz) ∧ cap ≤ c.size ∧ ¬ M.Sp (μ b)
  | .junk, _ => True
  | a, v => RepI C M a v

theorem RepC.of_I {C : Cfg} {μ : Nat → Nat} {M : Mem} {a : AC} {v : Value} (h : RepI C M a v) : RepC C μ M a v := by
  cases h with
  | lit => exact .lit _
  | list a n cap flat blk off c hn ha hc hr => exact .list a n cap flat blk off c hn ha hc hr
  | iptr flat blk off c hc hr => exact .iptr flat blk off c hc hr
  | opq p v h st one => exact .opq p v h st one
  | clo k fs cs vf vc h1 h2 h3 h4 => exact .clo k fs cs vf vc h1 h2 h3 h4
  | junk => trivial

/-- The cells of an array of values stand for a list of abstract cells. -/
def RepCs (C : Cfg) (μ : Nat → Nat) (M : Mem) (cs : List AC) (vs : Array Value) : Prop :=
  vs.size = cs.length ∧ ∀ i (h : i < cs.length) (h' : i < vs.size), RepC C μ M cs[i] vs[i]

def Rep1 (C : Cfg) (μ : Nat → Nat) (M : Mem) : AV → Value → Prop
  | .c a, v => RepC C μ M a v
  | .agg cs, v => ∃ vs, v = .agg vs ∧ RepCs C μ M cs vs
  | .tup _, _ => False

def RepV (C : Cfg) (μ : Nat → Nat) (M : Mem) : AV → Value → Prop
  | .tup xs, v => ∃ vs : Array Value, v = .tuple vs ∧ vs.size = xs.length ∧ ∀ i (h : i < xs.length) (h' : i < vs.size), Rep1 C μ M xs[i] vs[i]
  | a, v => Rep1 C μ M a v

/-- Does an abstract cell name box b? -/
def AC.men (b : Nat) : AC → Bool
  | .ptr b' _ => b' == b
  | .sl b' _ _ _ => b' == b
  | .mref b' => b' == b
  | .bself _ b' _ => b' == b
  | .tsl _ b' _ _ => b' == b
  | _ => false

def men1 (b : Nat) : AV → Bool
  | .c a => a.men b
  | .agg cs => cs.any (·.men b)
  | .tup _ => false

def AV.men (b : Nat) : AV → Bool
  | .tup xs => xs.any (men1 b)
  | a => men1 b a

/-- A box: a variable, or the array behind a slice: its cells; how many of them, from the first on, nobody writes any more; nl: there is none, it is nil's; row: no cell names a box; obj: it is no variable, but this object (a map). -/
structure Box where
  cells : List AC
  pub : Nat := 0
  nl : Bool := false
  row : Bool := false
  obj : Option Obj := none

def Box.men (b : Nat) (bx : Box) : Bool := !bx.row && bx.cells.any (·.men b)

def liveB : Option Box → Bool
  | some bx => !bx.nl
  | none => false

/-- No cell of a row is frozen. -/
def FzOk (fz : Nat × Nat) (n : Nat) : Prop := fz.1 = fz.2 ∨ n ≤ fz.1
theorem FzOk.no {fz : Nat × Nat} {n : Nat} (h : FzOk fz n) : ∀ o, o < n → ¬ (fz.1 ≤ o ∧ o < fz.2) := fun o ho hh => by
  rcases h with h | h <;> omega

structure RepR (C : Cfg) (μ : Nat → Nat) (M : Mem) (b : Nat) (bx : Box) : Prop where
  cells : ∃ c T fz, M.w.heap[μ b]? = some (.cells c T fz) ∧ FzOk fz c.size ∧ bx.cells.length ≤ c.size ∧
    ∀ i (h : i < bx.cells.length) (h' : i < c.size), RepC C μ M bx.cells[i] c[i] ∧ (bx.row = true → RepI C M bx.cells[i] c[i])
  imm : ∀ o, M.I (μ b) o → o < bx.pub
  le : bx.pub ≤ bx.cells.length
  sp : ¬ M.Sp (μ b)

/-- A box that is an object of another kind: it stands as it is said. -/
structure RepO (μ : Nat → Nat) (M : Mem) (b : Nat) (bx : Box) (o : Obj) : Prop where
  nl : bx.nl = false
  at_ : M.w.heap[μ b]? = some o
  cells : bx.cells = []
  pub : bx.pub = 0
  imm : ∀ i, ¬ M.I (μ b) i
  sp : ¬ M.Sp (μ b)
  nc : ∀ c T fz, o ≠ .cells c T fz

def RepB (C : Cfg) (μ : Nat → Nat) (M : Mem) (b : Nat) (bx : Box) : Prop :=
  (bx.nl = true → bx.cells = [] ∧ bx.pub = 0) ∧ (bx.nl = false → bx.obj = none → RepR C μ M b bx) ∧ ∀ o, bx.obj = some o → RepO μ M b bx o

theorem RepB.repR {C : Cfg} {μ : Nat → Nat} {M : Mem} {b : Nat} {bx : Box} (h : RepB C μ M b bx) (hn : bx.nl = false) {c : Array Value} {T : TypeId} {fz : Nat × Nat} (hh : M.w.heap[μ b]? = some (.cells c T fz)) : bx.obj = none ∧ RepR C μ M b bx := by
  cases ho : bx.obj with
  | none => exact ⟨rfl, h.2.1 hn ho⟩
  | some o =>
    have hR := h.2.2 o ho
    have e := hR.at_
    rw [hh] at e
    exact absurd (Option.some.inj e).symm (hR.nc c T fz)

/-- What an operation may do to memory: of the blocks that were there only those of the boxes 'wr' (as far as they were there: 'pre') are written, where they may be. -/
structure Trans (C : Cfg) (wr : List Nat) (pre : Nat → Option Box) (μ : Nat → Nat) (M : Mem) (μ' : Nat → Nat) (M' : Mem) : Prop where
  grow : Grow C M M'
  wf : Wf C M'
  os : M'.w.os = M.w.os
  tape : M'.w.tape = M.w.tape
  output : M'.w.output = M.w.output
  fr : ∀ blk, blk < M.w.heap.size → ¬ M.Sp blk → (∀ b ∈ wr, liveB (pre b) = true → blk ≠ μ b) → M'.w.heap[blk]? = M.w.heap[blk]? ∧ ∀ o, M'.I blk o → M.I blk o
  spb : ∀ blk, blk < M.w.heap.size → M'.Sp blk → M.Sp blk
  wid : ∀ blk c T fz, M.w.heap[blk]? = some (.cells c T fz) → ¬ M.Sp blk → ∃ c' fz', M'.w.heap[blk]? = some (.cells c' T fz') ∧ c'.size = c.size
  mu : ∀ b, (b ∈ wr → pre b ≠ none) → μ' b = μ b

theorem RepC.trans {C : Cfg} {wr : List Nat} {pre : Nat → Option Box} {μ μ' : Nat → Nat} {M M' : Mem} (t : Trans C wr pre μ M μ' M')
    {a : AC} {v : Value} (hm : ∀ b, a.men b = true → μ' b = μ b) (h : RepC C μ M a v) : RepC C μ' M' a v := by
  cases a with
  | lit x => exact RepI.mono t.grow h
  | list n flat => exact RepI.mono t.grow h
  | iptr flat => exact RepI.mono t.grow h
  | opq p => exact RepI.mono t.grow h
  | clo k fs cs => exact RepI.mono t.grow h
  | junk => trivial
  | ptr b off =>
    have e : μ' b = μ b := hm b (by simp [AC.men])
    simp only [RepC] at h ⊢
    rw [e]; exact h
  | mref b =>
    have e : μ' b = μ b := hm b (by simp [AC.men])
    simp only [RepC] at h ⊢
    rw [e]; exact h
  | bself T b u =>
    have e : μ' b = μ b := hm b (by simp [AC.men])
    obtain ⟨hv, ⟨c, fz, hb, h2⟩, hs⟩ := h
    obtain ⟨c', fz', hb', hz'⟩ := t.wid _ _ _ _ hb hs
    have hlt : μ b < M.w.heap.size := by
      rcases Nat.lt_or_ge (μ b) M.w.heap.size with h | h
      · exact h
      · simp [Array.getElem?_eq_none h] at hb
    exact ⟨by rw [e]; exact hv, ⟨c', fz', by rw [e]; exact hb', hz'.trans h2⟩, by rw [e]; exact fun s => hs (t.spb _ hlt s)⟩
  | tsl T b n nl =>
    have e : μ' b = μ b := hm b (by simp [AC.men])
    cases nl with
    | true => exact h
    | false =>
      obtain ⟨cap, c, fz, hv, hn, hb, hz, hs⟩ := h
      obtain ⟨c', fz', hb', hz'⟩ := t.wid _ _ _ _ hb hs
      have hlt : μ b < M.w.heap.size := by
        rcases Nat.lt_or_ge (μ b) M.w.heap.size with h | h
        · exact h
        · simp [Array.getElem?_eq_none h] at hb
      exact ⟨cap, c', fz', by rw [e]; exact hv, hn, by rw [e]; exact hb', by rw [hz']; exact hz, by rw [e]; exact fun s => hs (t.spb _ hlt s)⟩
  | sl b n sz nl =>
    have e : μ' b = μ b := hm b (by simp [AC.men])
    cases nl with
    | true => exact h
    | false =>
      obtain ⟨cap, c, T, fz, hv, hn, hb, hz, hs⟩ := h
      obtain ⟨c', fz', hb', hz'⟩ := t.wid _ _ _ _ hb hs
      have hlt : μ b < M.w.heap.size := by
        rcases Nat.lt_or_ge (μ b) M.w.heap.size with h | h
        · exact h
        · simp [Array.getElem?_eq_none h] at hb
      exact ⟨cap, c', T, fz', by rw [e]; exact hv, hn, by rw [e]; exact hb', by rw [hz']; exact hz, by rw [e]; exact fun s => hs (t.spb _ hlt s)⟩

theorem RepCs.trans {C : Cfg} {wr : List Nat} {pre : Nat → Option Box} {μ μ' : Nat → Nat} {M M' : Mem} (t : Trans C wr pre μ M μ' M')
    {cs : List AC} {vs : Array Value} (hm : ∀ b, cs.any (·.men b) = true → μ' b = μ b) (h : RepCs C μ M cs vs) : RepCs C μ' M' cs vs :=
  ⟨h.1, fun i hi hi' => (h.2 i hi hi').trans t fun b hb => hm b (List.any_eq_true.2 ⟨_, List.getElem_mem hi, hb⟩)⟩

theorem Rep1.trans {C : Cfg} {wr : List Nat} {pre : Nat → Option Box} {μ μ' : Nat → Nat} {M M' : Mem} (t : Trans C wr pre μ M μ' M')
    {a : AV} {v : Value} (hm : ∀ b, men1 b a = true → μ' b = μ b) (h : Rep1 C μ M a v) : Rep1 C μ' M' a v := by
  cases a with
  | c a => exact RepC.trans t hm h
  | agg cs => obtain ⟨vs, e, h⟩ := h; exact ⟨vs, e, h.trans t hm⟩
  | tup _ => exact h

theorem RepV.trans {C : Cfg} {wr : List Nat} {pre : Nat → Option Box} {μ μ' : Nat → Nat} {M M' : Mem} (t : Trans C wr pre μ M μ' M')
    {a : AV} {v : Value} (hm : ∀ b, a.men b = true → μ' b = μ b) (h : RepV C μ M a v) : RepV C μ' M' a v := by
  cases a with
  | c a => exact Rep1.trans (a := .c a) t hm h
  | agg cs => exact Rep1.trans (a := .agg cs) t hm h
  | tup xs =>
    obtain ⟨vs, e, hs, h⟩ := h
    exact ⟨vs, e, hs, fun i hi hi' => (h i hi hi').trans t fun b hb => hm b (List.any_eq_true.2 ⟨_, List.getElem_mem hi, hb⟩)⟩

theorem RepB.trans {C : Cfg} {wr : List Nat} {pre : Nat → Option Box} {μ μ' : Nat → Nat} {M M' : Mem} (t : Trans C wr pre μ M μ' M')
    {b : Nat} {bx : Box} (hb : b ∉ wr) (hd : bx.nl = false → ∀ b' ∈ wr, liveB (pre b') = true → μ b ≠ μ b') (hm : ∀ b', bx.men b' = true → μ' b' = μ b')
    (h : RepB C μ M b bx) : RepB C μ' M' b bx := by
  have e : μ' b = μ b := t.mu b fun h => absurd h hb
  refine ⟨h.1, fun hn ho => ?_, fun o ho => ?_⟩
  case refine_2 =>
    have hR := h.2.2 o ho
    have hlt : μ b < M.w.heap.size := by
      rcases Nat.lt_or_ge (μ b) M.w.heap.size with h | h
      · exact h
      · have := hR.at_; simp [Array.getElem?_eq_none h] at this
    obtain ⟨f1, f2⟩ := t.fr (μ b) hlt hR.sp (hd hR.nl)
    exact ⟨hR.nl, by rw [e, f1]; exact hR.at_, hR.cells, hR.pub, fun i hi => hR.imm i (f2 i (by rw [← e]; exact hi)), by rw [e]; exact fun s => hR.sp (t.spb _ hlt s), hR.nc⟩
  obtain ⟨⟨c, T, fz, hh, hz, hl, hc⟩, hi, hle, hs⟩ := h.2.1 hn ho
  have hlt : μ b < M.w.heap.size := by
    rcases Nat.lt_or_ge (μ b) M.w.heap.size with h | h
    · exact h
    · simp [Array.getElem?_eq_none h] at hh
  obtain ⟨f1, f2⟩ := t.fr (μ b) hlt hs (hd hn)
  refine ⟨⟨c, T, fz, by rw [e, f1]; exact hh, hz, hl, fun i h1 h2 => ?_⟩, fun o => ?_, hle, by rw [e]; exact fun s => hs (t.spb _ hlt s)⟩
  · cases hr : bx.row with
    | false =>
      exact ⟨(hc i h1 h2).1.trans t fun b' hb' => hm b' (by simp only [Box.men, hr, Bool.not_false, Bool.true_and]; exact List.any_eq_true.2 ⟨_, List.getElem_mem h1, hb'⟩), by simp⟩
    | true => exact ⟨.of_I (((hc i h1 h2).2 hr).mono t.grow), fun _ => ((hc i h1 h2).2 hr).mono t.grow⟩
  · rw [e]
    exact fun h => hi o (f2 o h)

end Go.Ev
/-
  A symbolic executor over abstract states, part 2: states, one operation, operations in the order of the text.
-/
namespace Go.Ev

structure St where
  n : Nat
  T : Nat → AV
  B : Nat → Option Box

def St.get (s : St) (t : Nat) : AV := s.T t
def St.box (s : St) (b : Nat) : Option Box := s.B b
def St.put (s : St) (d : Option Nat) (r : AV) : St :=
  match d with
  | some d => { s with T := fun t => if t = d then r else s.T t }
  | none => s
def St.setB (s : St) (b : Nat) (x : Option Box) : St := { s with B := fun c => if c = b then x else s.B c }
def St.upd (s : St) : List (Nat × Option Box) → St
  | [] => s
  | (b, x) :: ups => (s.upd ups).setB b x

def constAV : Value → AV
  | .agg cs => .agg (cs.toList.map .lit)
  | .tuple _ => .c .junk
  | v => .c (.lit v)

def St.ev (C : Cfg) (s : St) : Operand → AV
  | .tmp t => s.get t
  | .const v => constAV v
  | .global g => match C.G g with
    | some flat => .c (.iptr flat)
    | none => .c (.lit (.pointer (some ⟨g, 0, none⟩)))
  | .func f => .c (.clo f [] [])

def wrOf (ups : List (Nat × Option Box)) : List Nat := ups.map (·.1)
def postOf (ups : List (Nat × Option Box)) (b : Nat) : Option Box := (ups.lookup b).getD none

/-- A state names box b nowhere, but perhaps in slot d. -/
def NoMen (s : St) (b : Nat) (d : Option Nat) : Prop :=
  (∀ t, d ≠ some t → (s.get t).men b = false) ∧ ∀ b' bx, s.box b' = some bx → bx.men b = false

theorem St.get_put (s : St) (d : Option Nat) (r : AV) (t : Nat) : (s.put d r).get t = if d = some t then r else s.get t := by
  cases d with
  | none => simp [St.put]
  | some d => simp [St.put, St.get, eq_comm]
@[simp] theorem St.put_n (s : St) (d : Option Nat) (r : AV) : (s.put d r).n = s.n := by cases d <;> rfl
@[simp] theorem St.put_box (s : St) (d : Option Nat) (r : AV) (b : Nat) : (s.put d r).box b = s.box b := by cases d <;> rfl
@[simp] theorem St.upd_n (s : St) (ups : List (Nat × Option Box)) : (s.upd ups).n = s.n := by
  induction ups with
  | nil => rfl
  | cons u ups ih => exact ih
@[simp] theorem St.upd_get (s : St) (ups : List (Nat × Option Box)) (t : Nat) : (s.upd ups).get t = s.get t := by
  induction ups with
  | nil => rfl
  | cons u ups ih => exact ih
theorem St.setB_box (s : St) (b : Nat) (x : Option Box) (c : Nat) : (s.setB b x).box c = if c = b then x else s.box c := rfl

theorem St.upd_box (s : St) (ups : List (Nat × Option Box)) (b : Nat) :
    (s.upd ups).box b = if b ∈ wrOf ups then postOf ups b else s.box b := by
  induction ups with
  | nil => simp [St.upd, wrOf]
  | cons u ups ih =>
    obtain ⟨c, x⟩ := u
    simp only [St.upd, St.setB_box]
    by_cases h : b = c
    · subst h; simp [wrOf, postOf, List.lookup]
    · have h' : (b == c) = false := by simpa using h
      have hm : (b ∈ wrOf ((c, x) :: ups)) ↔ b ∈ wrOf ups := by
        simp only [wrOf, List.map_cons, List.mem_cons]
        exact ⟨fun e => e.resolve_left h, .inr⟩
      have hp : postOf ((c, x) :: ups) b = postOf ups b := by simp [postOf, List.lookup, h']
      simp only [h, if_false, ih, hm, hp]

theorem St.upd_box_not (s : St) (ups : List (Nat × Option Box)) (b : Nat) (h : b ∉ wrOf ups) : (s.upd ups).box b = s.box b := by
  rw [St.upd_box, if_neg h]

/-- What one operation does, over whatever memory it is met: its slot holds r then, and the boxes are as 'ups' says. -/
def OpOk (C : Cfg) (o : Oper) (ρ : Operand → AV) (rd : List Nat) (pre : Nat → Option Box) (r : AV) (ups : List (Nat × Option Box)) : Prop :=
  ∀ (μ : Nat → Nat) (M : Mem) (a : Act) (next : Act → World → Prop) (Q : Exit → Act → World → Prop),
    Wf C M → (∀ x ∈ o.op.operands, RepV C μ M (ρ x) (a.eval x)) →
    (∀ b ∈ rd ++ wrOf ups, ∀ bx, pre b = some bx → RepB C μ M b bx) →
    (∀ x ∈ rd ++ wrOf ups, ∀ y ∈ rd ++ wrOf ups, liveB (pre x) = true → liveB (pre y) = true → μ x = μ y → x = y) →
    (∀ v μ' M', RepV C μ' M' r v → Trans C (wrOf ups) pre μ M μ' M' →
      (∀ b ∈ wrOf ups, ∀ bx, postOf ups b = some bx → RepB C μ' M' b bx) →
      (∀ x ∈ wrOf ups, liveB (postOf ups x) = true → M.w.heap.size ≤ μ' x ∨ ∃ y ∈ wrOf ups, liveB (pre y) = true ∧ μ' x = μ y) →
      (∀ x ∈ wrOf ups, ∀ y ∈ wrOf ups, liveB (postOf ups x) = true → liveB (postOf ups y) = true → μ' x = μ' y → x = y) →
      next (a.put o.dst v) M'.w) →
    o.wp C.P a M.w next Q

theorem OpOk.congr {C : Cfg} {o : Oper} {ρ ρ' : Operand → AV} {rd : List Nat} {pre pre' : Nat → Option Box} {r : AV} {ups : List (Nat × Option Box)}
    (hρ : ∀ x ∈ o.op.operands, ρ' x = ρ x) (hp : ∀ b ∈ rd ++ wrOf ups, pre' b = pre b) (h : OpOk C o ρ rd pre r ups) : OpOk C o ρ' rd pre' r ups := by
  intro μ M a next Q wf hr hb hd k
  refine h μ M a next Q wf (fun x hx => by rw [← hρ x hx]; exact hr x hx) (fun b hb' bx e => hb b hb' bx (by rw [hp b hb']; exact e))
    (fun x hx y hy lx ly => hd x hx y hy (by rw [hp x hx]; exact lx) (by rw [hp y hy]; exact ly)) ?_
  intro v μ' M' hv t hpb hf hd'
  have hw : ∀ b ∈ wrOf ups, pre' b = pre b := fun b hb => hp b (List.mem_append_right _ hb)
  refine k v μ' M' hv ⟨t.grow, t.wf, t.os, t.tape, t.output, fun blk h1 h2 h3 => t.fr blk h1 h2 fun b hb hl => h3 b hb (by rw [hw b hb]; exact hl), t.spb, t.wid,
    fun b hb => t.mu b fun hm => by rw [← hw b hm]; exact hb hm⟩ hpb ?_ hd'
  intro x hx hl
  rcases hf x hx hl with h | ⟨y, hy, h⟩
  · exact .inl h
  · exact .inr ⟨y, hy, by rw [hw y hy]; exact h⟩

structure StepOk (C : Cfg) (o : Oper) (s : St) (rd : List Nat) (r : AV) (ups : List (Nat × Option Box)) : Prop where
  op : OpOk C o (s.ev C) rd s.box r ups
  nom : ∀ b ∈ wrOf ups, s.box b = none → NoMen s b o.dst
  dst : ∀ d, o.dst = some d → d < s.n
  newb : ∀ b ∈ wrOf ups, s.box b = none → b < s.n

/-- Blocks that may be written; where the boxes stand that are there from the start (their numbers are above all slots'). -/
structure Pin where
  blk : Nat → Prop
  mu : Nat → Nat

/-- A state stands for a frame's slots and a memory that has come of M0 by rights. X: blocks of M0 that may be written. -/
structure Rel (C : Cfg) (X : Pin) (M0 : Mem) (μ : Nat → Nat) (M : Mem) (s : St) (a : Act) : Prop where
  wf : Wf C M
  grow : Grow C M0 M
  os : M.w.os = M0.w.os
  tape : M.w.tape = M0.w.tape
  output : M.w.output = M0.w.output
  fr : ∀ blk, blk < M0.w.heap.size → ¬ M0.Sp blk → ¬ X.blk blk → M.w.heap[blk]? = M0.w.heap[blk]? ∧ ∀ o, M.I blk o → M0.I blk o
  spb : ∀ blk, blk < M0.w.heap.size → M.Sp blk → M0.Sp blk
  len : a.tmps.size = s.n
  tmps : ∀ t, RepV C μ M (s.get t) (a.tmps.getD t undef)
  boxes : ∀ b bx, s.box b = some bx → RepB C μ M b bx
  dist : ∀ x y, liveB (s.box x) = true → liveB (s.box y) = true → μ x = μ y → x = y
  own : ∀ b, liveB (s.box b) = true → M0.w.heap.size ≤ μ b ∨ X.blk (μ b)
  defers : a.defers = []
  pin : ∀ b, s.n ≤ b → μ b = X.mu b
  wid : ∀ blk c T fz, M0.w.heap[blk]? = some (.cells c T fz) → ¬ M0.Sp blk → ∃ c' fz', M.w.heap[blk]? = some (.cells c' T fz') ∧ c'.size = c.size

theorem rep_const (C : Cfg) (μ : Nat → Nat) (M : Mem) (v : Value) : RepV C μ M (constAV v) v := by
  cases v with
  | agg cs =>
    refine ⟨cs, rfl, by simp, fun i h h' => ?_⟩
    simp only [List.getElem_map, Array.getElem_toList]
    exact .lit _
  | tuple _ => trivial
  | _ => exact RepI.lit _

theorem Rel.ev {C : Cfg} {X : Pin} {M0 : Mem} {μ : Nat → Nat} {M : Mem} {s : St} {a : Act} (h : Rel C X M0 μ M s a) (x : Operand) :
    RepV C μ M (s.ev C x) (a.eval x) := by
  cases x with
  | tmp t => exact h.tmps t
  | const v => exact rep_const C μ M v
  | global g =>
    simp only [St.ev]
    cases hg : C.G g with
    | none => exact RepI.lit _
    | some flat => exact h.wf.glob g flat hg
  | func f => exact RepI.clo f [] [] #[] #[] rfl rfl (fun i h => absurd h (Nat.not_lt_zero _)) (fun i h => absurd h (Nat.not_lt_zero _))

theorem RepB.lt {C : Cfg} {μ : Nat → Nat} {M : Mem} {b : Nat} {bx : Box} (h : RepB C μ M b bx) (hl : bx.nl = false) : μ b < M.w.heap.size := by
  cases ho : bx.obj with
  | none =>
    obtain ⟨⟨c, T, fz, hh, _⟩, _⟩ := h.2.1 hl ho
    rcases Nat.lt_or_ge (μ b) M.w.heap.size with h | h
    · exact h
    · simp [Array.getElem?_eq_none h] at hh
  | some o =>
    have hh := (h.2.2 o ho).at_
    rcases Nat.lt_or_ge (μ b) M.w.heap.size with h | h
    · exact h
    · simp [Array.getElem?_eq_none h] at hh

theorem Rel.lt {C : Cfg} {X : Pin} {M0 : Mem} {μ : Nat → Nat} {M : Mem} {s : St} {a : Act} (h : Rel C X M0 μ M s a) {b : Nat} (hl : liveB (s.box b) = true) :
    μ b < M.w.heap.size := by
  cases hb : s.box b with
  | none => simp [hb, liveB] at hl
  | some bx => exact (h.boxes b bx hb).lt (by simpa [hb, liveB] using hl)

theorem put_tmps_size (a : Act) (d : Option Nat) (v : Value) : (a.put d v).tmps.size = a.tmps.size := by cases d <;> simp [Act.put]
theorem put_defers (a : Act) (d : Option Nat) (v : Value) : (a.put d v).defers = a.defers := by cases d <;> rfl
theorem put_getD (a : Act) (d : Option Nat) (v : Value) (t : Nat) : (a.put d v).tmps.getD t undef = if d = some t ∧ t < a.tmps.size then v else a.tmps.getD t undef := by
  cases d with
  | none => simp [Act.put]
  | some d =>
    simp only [Act.put, Array.getD_eq_getD_getElem?, Array.getElem?_setIfInBounds, Option.some.injEq]
    by_cases h : d = t
    · subst h
      by_cases hl : d < a.tmps.size <;> simp [hl]
    · simp [h]

theorem step_sound {C : Cfg} {X : Pin} {M0 : Mem} {μ : Nat → Nat} {M : Mem} {s : St} {a : Act} {o : Oper} {rd : List Nat} {r : AV} {ups : List (Nat × Option Box)}
    {next : Act → World → Prop} {Q : Exit → Act → World → Prop} (h : Rel C X M0 μ M s a) (st : StepOk C o s rd r ups)
    (k : ∀ v μ' M', Rel C X M0 μ' M' ((s.upd ups).put o.dst r) (a.put o.dst v) → next (a.put o.dst v) M'.w) : o.wp C.P a M.w next Q := by
  refine st.op μ M a next Q h.wf (fun x _ => h.ev x) (fun b _ bx e => h.boxes b bx e) (fun x _ y _ => h.dist x y) ?_
  intro v μ' M' hv t hpb hf hd
  refine k v μ' M' ?_
  have mus : ∀ b, (b ∈ wrOf ups → s.box b = none → False) → μ' b = μ b := fun b hb => t.mu b fun hm e => hb hm e
  have hbx := St.upd_box s ups
  refine ⟨t.wf, h.grow.trans t.grow, t.os.trans h.os, t.tape.trans h.tape, t.output.trans h.output, ?fr, ?spb, ?len, ?tmps, ?boxes, ?dist, ?own, ?defers, ?pin, ?wid⟩
  case fr =>
    intro blk h1 h2 h3
    obtain ⟨e1, e2⟩ := h.fr blk h1 h2 h3
    obtain ⟨f1, f2⟩ := t.fr blk (Nat.lt_of_lt_of_le h1 h.grow.size) (fun c => h2 (h.spb blk h1 c)) (fun b _ hl e => by
      rcases h.own b hl with g | g
      · omega
      · exact h3 (e ▸ g))
    exact ⟨f1.trans e1, fun o i => e2 o (f2 o i)⟩
  case spb => exact fun blk h1 h2 => h.spb blk h1 (t.spb blk (Nat.lt_of_lt_of_le h1 h.grow.size) h2)
  case len => rw [put_tmps_size, h.len]; simp
  case defers => rw [put_defers]; exact h.defers
  case pin =>
    intro b hb
    have hb : s.n ≤ b := by simpa using hb
    rw [← h.pin b hb]
    exact mus b fun hw hn => by have := st.newb b hw hn; omega
  case wid =>
    intro blk c T fz e hs
    obtain ⟨c1, fz1, e1, h1⟩ := h.wid blk c T fz e hs
    have hlt : blk < M0.w.heap.size := by
      rcases Nat.lt_or_ge blk M0.w.heap.size with h | h
      · exact h
      · simp [Array.getElem?_eq_none h] at e
    obtain ⟨c2, fz2, e2, h2⟩ := t.wid blk c1 T fz1 e1 fun s => hs (h.spb blk hlt s)
    exact ⟨c2, fz2, e2, h2.trans h1⟩
  case tmps =>
    intro u
    rw [St.get_put, put_getD]
    by_cases hc : o.dst = some u
    · have hlt := st.dst u hc
      rw [if_pos hc, if_pos ⟨hc, by rw [h.len]; exact hlt⟩]; exact hv
    · rw [if_neg hc, if_neg fun e => hc e.1, St.upd_get]
      refine (h.tmps u).trans t fun b hm => mus b fun hw hn => ?_
      have := (st.nom b hw hn).1 u hc
      rw [this] at hm; cases hm
  case boxes =>
    intro b bx e
    rw [St.put_box, hbx] at e
    split at e
    · rename_i hw; exact hpb b hw bx e
    · rename_i hw
      refine (h.boxes b bx e).trans t hw (fun hn b' hb' hl' eq => ?_) (fun b' hm => mus b' fun hw' hn => ?_)
      · have := h.dist b b' (by simp [e, liveB, hn]) hl' eq
        exact hw (this ▸ hb')
      · have := (st.nom b' hw' hn).2 b bx e
        rw [this] at hm; cases hm
  case dist =>
    intro x y lx ly eq
    rw [St.put_box, hbx] at lx ly
    have key : ∀ x y, x ∈ wrOf ups → y ∉ wrOf ups → liveB (postOf ups x) = true → liveB (s.box y) = true → μ' x = μ' y → False := by
      intro x y hx hy lx ly eq
      have ey : μ' y = μ y := t.mu y fun c => absurd c hy
      rcases hf x hx lx with g | ⟨z, hz, lz, ez⟩
      · have := h.lt ly; omega
      · have := h.dist z y lz ly (by omega)
        exact hy (this ▸ hz)
    by_cases hx : x ∈ wrOf ups <;> by_cases hy : y ∈ wrOf ups
    · rw [if_pos hx] at lx; rw [if_pos hy] at ly; exact hd x hx y hy lx ly eq
    · rw [if_pos hx] at lx; rw [if_neg hy] at ly; exact (key x y hx hy lx ly eq).elim
    · rw [if_neg hx] at lx; rw [if_pos hy] at ly; exact (key y x hy hx ly lx eq.symm).elim
    · rw [if_neg hx] at lx; rw [if_neg hy] at ly
      rw [t.mu x fun c => absurd c hx, t.mu y fun c => absurd c hy] at eq
      exact h.dist x y lx ly eq
  case own =>
    intro b lb
    rw [St.put_box, hbx] at lb
    by_cases hb : b ∈ wrOf ups
    · rw [if_pos hb] at lb
      rcases hf b hb lb with g | ⟨z, _, lz, ez⟩
      · exact .inl (Nat.le_trans h.grow.size g)
      · rw [ez]; exact h.own z lz
    · rw [if_neg hb] at lb
      rw [t.mu b fun c => absurd c hb]; exact h.own b lb

theorem skip_sound {C : Cfg} {X : Pin} {M0 : Mem} {μ : Nat → Nat} {M : Mem} {s : St} {a : Act} (h : Rel C X M0 μ M s a) (d : Option Nat) :
    Rel C X M0 μ M (s.put d (.tup [])) (a.put d undef) := by
  refine ⟨h.wf, h.grow, h.os, h.tape, h.output, h.fr, h.spb, ?_, ?_, fun b bx e => h.boxes b bx (by simpa using e), fun x y lx ly => h.dist x y (by simpa using lx) (by simpa using ly),
    fun b lb => h.own b (by simpa using lb), by rw [put_defers]; exact h.defers, fun b hb => h.pin b (by simpa using hb), h.wid⟩
  · rw [put_tmps_size, h.len]; simp
  · intro u
    rw [St.get_put, put_getD]
    by_cases hc : d = some u
    · rw [if_pos hc]
      by_cases hn : u < a.tmps.size
      · rw [if_pos ⟨hc, hn⟩]; exact ⟨#[], rfl, rfl, fun i h => absurd h (Nat.not_lt_zero _)⟩
      · rw [if_neg fun e => hn e.2]; have : a.tmps.getD u undef = undef := by simp [Array.getD_eq_getD_getElem?, Array.getElem?_eq_none (Nat.not_lt.1 hn)]
        rw [this]; exact ⟨#[], rfl, rfl, fun i h => absurd h (Nat.not_lt_zero _)⟩
    · rw [if_neg hc, if_neg fun e => hc e.1]; exact h.tmps u

end Go.Ev
/-
  A symbolic executor over abstract states, part 3: regions, in the order of the text, and in any order that Go allows.
-/
namespace Go.Ev

/-- What an operation did: was it left out; the boxes that it reads; its slot's value; the boxes that it wrote. -/
structure Rec where
  skip : Bool
  rd : List Nat
  r : AV
  ups : List (Nat × Option Box)

def skipRec : Rec := ⟨true, [], .tup [], []⟩

def applyR (o : Oper) (rc : Rec) (s : St) : St := (s.upd rc.ups).put o.dst rc.r

/-- What a guard's operation yielded: unknown, or no truth value (it was skipped), or one. -/
def yieldedA (ops : Array Oper) (s : St) (j : Nat) : Option (Option Bool) :=
  match ((ops[j]?).bind (·.dst)).map s.get with
  | some (.c (.lit (.bool b))) => some (some b)
  | some (.tup _) => some none
  | _ => none

def StepR (C : Cfg) (ops : Array Oper) (o : Oper) (s : St) (rc : Rec) : Prop :=
  (rc = skipRec ∧ ∃ j want b, o.guard = some (j, want) ∧ yieldedA ops s j = some b ∧ b ≠ some want) ∨
  (rc.skip = false ∧ (o.guard = none ∨ ∃ j want, o.guard = some (j, want) ∧ yieldedA ops s j = some (some want)) ∧ StepOk C o s rc.rd rc.r rc.ups)

theorem yielded_of {C : Cfg} {X : Pin} {M0 : Mem} {μ : Nat → Nat} {M : Mem} {s : St} {a : Act} (h : Rel C X M0 μ M s a) {ops : Array Oper} {j : Nat} {b : Option Bool}
    (hy : yieldedA ops s j = some b) : yielded ops a.tmps j = b := by
  unfold yieldedA at hy
  unfold yielded
  cases hd : (ops[j]?).bind (·.dst) with
  | none => simp [hd] at hy
  | some t =>
    simp only [hd, Option.map_some] at hy
    cases hg : s.get t with
    | c x =>
      cases x with
      | lit v =>
        cases v with
        | bool b' =>
          simp only [hg, Option.some.injEq] at hy
          subst hy
          have hr := h.tmps t
          rw [hg] at hr
          have hv : a.tmps.getD t undef = .bool b' := RepI.lit_eq hr
          simp only [Option.bind_some]
          cases ht : a.tmps[t]? with
          | none => simp [Array.getD_eq_getD_getElem?, ht, undef] at hv
          | some v => simp only [Array.getD_eq_getD_getElem?, ht, Option.getD_some] at hv; simp [hv]
        | _ => simp [hg] at hy
      | _ => simp [hg] at hy
    | tup vs =>
      simp only [hg, Option.some.injEq] at hy
      subst hy
      have hr := h.tmps t
      rw [hg] at hr
      obtain ⟨xs, hv, _⟩ := hr
      simp only [Option.bind_some]
      cases ht : a.tmps[t]? with
      | none => rfl
      | some v => simp only [Array.getD_eq_getD_getElem?, ht, Option.getD_some] at hv; simp [hv]
    | _ => simp [hg] at hy

theorem stepR_sound {C : Cfg} {X : Pin} {M0 : Mem} {μ : Nat → Nat} {M : Mem} {s : St} {a : Act} {ops : Array Oper} {i : Nat} {o : Oper} {rc : Rec}
    {K : Act → World → Prop} {Q : Exit → Act → World → Prop} (ho : ops[i]? = some o) (h : Rel C X M0 μ M s a) (st : StepR C ops o s rc)
    (k : ∀ a' μ' M', Rel C X M0 μ' M' (applyR o rc s) a' → K a' M'.w) : wpOp C.P ops Q i K a M.w := by
  unfold wpOp
  simp only [ho]
  rcases st with ⟨rfl, j, want, b, hg, hy, hb⟩ | ⟨_, hg, st⟩
  · have hw : Region.wanted o (yielded ops a.tmps) = false := by
      unfold Region.wanted
      simp only [hg, yielded_of h hy]
      simpa using hb
    simp only [hw, Bool.false_eq_true, if_false]
    exact k _ _ _ (skip_sound h o.dst)
  · have hw : Region.wanted o (yielded ops a.tmps) = true := by
      unfold Region.wanted
      rcases hg with hg | ⟨j, want, hg, hy⟩
      · simp [hg]
      · simp [hg, yielded_of h hy]
    simp only [hw, if_true]
    exact .inl (step_sound h st fun v μ' M' hr => k _ _ _ hr)

/-- The operations from the i-th on, in the order of the text. -/
def RunN (C : Cfg) (ops : Array Oper) : List Oper → St → (St → Prop) → Prop
  | [], s, K => K s
  | o :: os, s, K =>
    match o.guard with
    | none => ∃ rd r ups, StepOk C o s rd r ups ∧ RunN C ops os ((s.upd ups).put o.dst r) K
    | some (j, want) => ∃ b, yieldedA ops s j = some b ∧
      (b = some want → ∃ rd r ups, StepOk C o s rd r ups ∧ RunN C ops os ((s.upd ups).put o.dst r) K) ∧
      (b ≠ some want → RunN C ops os (s.put o.dst (.tup [])) K)

/-- The same, with what each did. -/
def RunK (C : Cfg) (ops : Array Oper) : List Oper → St → List Rec → (List Rec → St → Prop) → Prop
  | [], s, acc, K => K acc s
  | o :: os, s, acc, K =>
    match o.guard with
    | none => ∃ rd r ups, StepOk C o s rd r ups ∧ RunK C ops os ((s.upd ups).put o.dst r) (acc ++ [⟨false, rd, r, ups⟩]) K
    | some (j, want) => ∃ b, yieldedA ops s j = some b ∧
      (b = some want → ∃ rd r ups, StepOk C o s rd r ups ∧ RunK C ops os ((s.upd ups).put o.dst r) (acc ++ [⟨false, rd, r, ups⟩]) K) ∧
      (b ≠ some want → RunK C ops os (s.put o.dst (.tup [])) (acc ++ [skipRec]) K)

theorem runN_sound {C : Cfg} {X : Pin} {M0 : Mem} {ops : Array Oper} {Q : Exit → Act → World → Prop} {K : St → Prop}
    (k : ∀ s μ M a, K s → Rel C X M0 μ M s a → Q .normal a M.w) (os : List Oper) : ∀ (i : Nat) (s : St) (μ : Nat → Nat) (M : Mem) (a : Act),
      (∀ n, os[n]? = ops[i + n]?) → Rel C X M0 μ M s a → RunN C ops os s K → wpOps C.P ops Q (List.range' i os.length) a M.w := by
  induction os with
  | nil => intro i s μ M a _ h hk; exact k s μ M a hk h
  | cons o os ih =>
    intro i s μ M a he h hk
    have ho : ops[i]? = some o := by have := he 0; simpa using this.symm
    have he' : ∀ n, os[n]? = ops[i + 1 + n]? := fun n => by have := he (n + 1); simpa [Nat.add_assoc, Nat.add_comm 1 n] using this
    rw [List.length_cons, List.range'_succ, wpOps_cons]
    have go : ∀ rc, StepR C ops o s rc → RunN C ops os (applyR o rc s) K → wpOp C.P ops Q i (wpOps C.P ops Q (List.range' (i + 1) os.length)) a M.w :=
      fun rc st hn => stepR_sound ho h st fun a' μ' M' hr => ih (i + 1) _ μ' M' a' he' hr hn
    unfold RunN at hk
    cases hg : o.guard with
    | none =>
      simp only [hg] at hk
      obtain ⟨rd, r, ups, st, hn⟩ := hk
      exact go ⟨false, rd, r, ups⟩ (.inr ⟨rfl, .inl hg, st⟩) hn
    | some jw =>
      obtain ⟨j, want⟩ := jw
      simp only [hg] at hk
      obtain ⟨b, hy, h1, h2⟩ := hk
      by_cases hb : b = some want
      · obtain ⟨rd, r, ups, st, hn⟩ := h1 hb
        exact go ⟨false, rd, r, ups⟩ (.inr ⟨rfl, .inr ⟨j, want, hg, hb ▸ hy⟩, st⟩) hn
      · exact go skipRec (.inl ⟨rfl, j, want, b, hg, hy, hb⟩) (h2 hb)

/-! ### any order -/

section any
variable (ops : Array Oper)

/-- Which operations are ahead of each, by the edges that bind in any order, as bits. -/
def masks : List Oper → List Nat → List Nat
  | [], acc => acc
  | o :: os, acc => masks os (acc ++ [o.after.toList.foldl (fun m e => if Region.binds .any e then m ||| 2 ^ e.on ||| acc.getD e.on 0 else m) 0])

def slotOf : Operand → List Nat
  | .tmp t => [t]
  | _ => []
def looks (o : Oper) : List Nat :=
  o.op.operands.toList.flatMap slotOf ++ (match o.guard with
    | some (j, _) => ((ops[j]?).bind (·.dst)).toList
    | none => [])

def disj (a b : List Nat) : Bool := a.all fun x => !b.contains x

def indep (o p : Oper) (x y : Rec) : Bool :=
  disj o.dst.toList (p.dst.toList ++ looks ops p) && disj p.dst.toList (looks ops o) &&
  disj (wrOf x.ups) (wrOf y.ups ++ y.rd) && disj (wrOf y.ups) x.rd

def menR (b : Nat) (x : Rec) : Bool := x.r.men b || x.ups.any fun u => match u.2 with
  | some bx => bx.men b
  | none => false

end any

structure Trace (C : Cfg) (ops : Array Oper) (rc : Nat → Rec) (S : Nat → St) : Prop where
  step : ∀ i o, ops[i]? = some o → StepR C ops o (S i) (rc i) ∧ S (i + 1) = applyR o (rc i) (S i)

/-- The state behind those operations that D holds of, among the first n. -/
def SD (ops : Array Oper) (rc : Nat → Rec) (s : St) (D : Nat → Bool) : Nat → St
  | 0 => s
  | n + 1 => match ops[n]? with
    | some o => if D n then applyR o (rc n) (SD ops rc s D n) else SD ops rc s D n
    | none => SD ops rc s D n

theorem applyR_get (o : Oper) (rc : Rec) (s : St) (t : Nat) (h : o.dst ≠ some t) : (applyR o rc s).get t = s.get t := by
  simp [applyR, St.get_put, h]

theorem applyR_get' (o : Oper) (rc : Rec) (s s' : St) (t : Nat) (h : s.get t = s'.get t) :
    (applyR o rc s).get t = (applyR o rc s').get t := by
  simp [applyR, St.get_put, h]

theorem applyR_box (o : Oper) (rc : Rec) (s : St) (b : Nat) (h : b ∉ wrOf rc.ups) : (applyR o rc s).box b = s.box b := by
  simp [applyR, St.upd_box_not _ _ _ h]

theorem applyR_box' (o : Oper) (rc : Rec) (s s' : St) (b : Nat) (h : s.box b = s'.box b) :
    (applyR o rc s).box b = (applyR o rc s').box b := by
  simp only [applyR, St.put_box, St.upd_box, h]

@[simp] theorem applyR_n (o : Oper) (rc : Rec) (s : St) : (applyR o rc s).n = s.n := by simp [applyR]

theorem SD_n (ops : Array Oper) (rc : Nat → Rec) (s : St) (D : Nat → Bool) (n : Nat) : (SD ops rc s D n).n = s.n := by
  induction n with
  | zero => rfl
  | succ n ih =>
    simp only [SD]
    split
    · split <;> simp [ih]
    · exact ih

theorem SD_get (ops : Array Oper) (rc : Nat → Rec) (s : St) (D D' : Nat → Bool) (t : Nat) (n : Nat)
    (h : ∀ j o, j < n → ops[j]? = some o → o.dst = some t → D j = D' j) : (SD ops rc s D n).get t = (SD ops rc s D' n).get t := by
  induction n with
  | zero => rfl
  | succ n ih =>
    have ih := ih fun j o hj => h j o (by omega)
    simp only [SD]
    cases ho : ops[n]? with
    | none => exact ih
    | some o =>
      simp only
      by_cases hd : o.dst = some t
      · rw [h n o (by omega) ho hd]
        split
        · exact applyR_get' _ _ _ _ _ ih
        · exact ih
      · have e : ∀ (x : St), (applyR o (rc n) x).get t = x.get t := fun x => applyR_get _ _ _ _ hd
        cases D n <;> cases D' n <;> simp [e, ih]

theorem SD_box (ops : Array Oper) (rc : Nat → Rec) (s : St) (D D' : Nat → Bool) (b : Nat) (n : Nat)
    (h : ∀ j, j < n → b ∈ wrOf (rc j).ups → D j = D' j) : (SD ops rc s D n).box b = (SD ops rc s D' n).box b := by
  induction n with
  | zero => rfl
  | succ n ih =>
    have ih := ih fun j hj => h j (by omega)
    simp only [SD]
    cases ho : ops[n]? with
    | none => exact ih
    | some o =>
      simp only
      by_cases hd : b ∈ wrOf (rc n).ups
      · rw [h n (by omega) hd]
        split
        · exact applyR_box' _ _ _ _ _ ih
        · exact ih
      · have e : ∀ (x : St), (applyR o (rc n) x).box b = x.box b := fun x => applyR_box _ _ _ _ hd
        cases D n <;> cases D' n <;> simp [e, ih]

theorem ext_state {s s' : St} (h1 : s.n = s'.n) (h3 : ∀ t, s.get t = s'.get t) (h4 : ∀ b, s.box b = s'.box b) : s = s' := by
  obtain ⟨n, t, b⟩ := s
  obtain ⟨n', t', b'⟩ := s'
  simp only [St.mk.injEq]
  exact ⟨h1, funext h3, funext h4⟩

/-- Two operations that do not touch each other's things may change places. -/
theorem applyR_comm {ops : Array Oper} {o p : Oper} {x y : Rec} (h : indep ops o p x y = true) (s : St) :
    applyR o x (applyR p y s) = applyR p y (applyR o x s) := by
  simp only [indep, Bool.and_eq_true, disj, List.all_eq_true, Bool.not_eq_true', List.contains_eq_mem] at h
  obtain ⟨⟨⟨h1, h2⟩, h3⟩, h4⟩ := h
  have hd : ∀ t, o.dst = some t → p.dst ≠ some t := fun t e e' => by
    have := h1 t (by simp [e]); simp [e'] at this
  have hw : ∀ b, b ∈ wrOf x.ups → b ∉ wrOf y.ups := fun b hb hb' => by
    have := h3 b hb; simp [hb'] at this
  refine ext_state (by simp) (fun t => ?_) (fun b => ?_)
  · by_cases e : o.dst = some t
    · rw [applyR_get p y _ t (hd t e)]
      simp [applyR, St.get_put, e]
    · rw [applyR_get o x _ t e]
      by_cases e' : p.dst = some t
      · simp [applyR, St.get_put, e']
      · rw [applyR_get p y _ t e', applyR_get p y _ t e', applyR_get o x _ t e]
  · by_cases e : b ∈ wrOf x.ups
    · rw [applyR_box p y _ b (hw b e)]
      simp only [applyR, St.put_box, St.upd_box, e, if_true]
    · rw [applyR_box o x _ b e]
      by_cases e' : b ∈ wrOf y.ups
      · simp only [applyR, St.put_box, St.upd_box, e', if_true]
      · rw [applyR_box p y _ b e', applyR_box p y _ b e', applyR_box o x _ b e]

theorem SD_add (ops : Array Oper) (rc : Nat → Rec) (s : St) (D : Nat → Bool) (i : Nat) (o : Oper) (ho : ops[i]? = some o) (hi : D i = false)
    (n : Nat) (hn : i < n) (h : ∀ j p, i < j → j < n → ops[j]? = some p → D j = true → indep ops o p (rc i) (rc j) = true) :
    SD ops rc s (fun k => D k || k == i) n = applyR o (rc i) (SD ops rc s D n) := by
  have below : ∀ m, m ≤ i → SD ops rc s (fun k => D k || k == i) m = SD ops rc s D m := by
    intro m
    induction m with
    | zero => intro _; rfl
    | succ m ih =>
      intro hm
      have hne : (m == i) = false := by simp; omega
      simp only [SD, hne, Bool.or_false, ih (by omega)]
  induction n with
  | zero => omega
  | succ n ih =>
    by_cases e : n = i
    · subst e
      simp only [SD, ho, beq_self_eq_true, Bool.or_true, if_true, hi, Bool.false_eq_true, if_false]
      rw [below n (Nat.le_refl _)]
    · have ih := ih (by omega) fun j p h1 h2 => h j p h1 (by omega)
      have hne : (n == i) = false := by simpa using e
      simp only [SD, hne, Bool.or_false]
      cases hp : ops[n]? with
      | none => exact ih
      | some p =>
        simp only
        cases hD : D n with
        | false => simpa using ih
        | true =>
          simp only [if_true, ih]
          exact (applyR_comm (h n p (by omega) (by omega) hp hD) _).symm

end Go.Ev
/-
  A symbolic executor over abstract states, part 4: a region that draws its order: what holds in the order of the text holds in any.
-/
namespace Go.Ev

def RunL (C : Cfg) (ops : Array Oper) : List Oper → St → List Rec → St → Prop
  | [], s, rcs, s' => rcs = [] ∧ s = s'
  | o :: os, s, rcs, s' => ∃ rc rest, rcs = rc :: rest ∧ StepR C ops o s rc ∧ RunL C ops os (applyR o rc s) rest s'

theorem runK_L {C : Cfg} {ops : Array Oper} {K : List Rec → St → Prop} (os : List Oper) : ∀ (s : St) (acc : List Rec), RunK C ops os s acc K →
    ∃ rcs s', RunL C ops os s rcs s' ∧ K (acc ++ rcs) s' := by
  induction os with
  | nil => intro s acc h; exact ⟨[], s, ⟨rfl, rfl⟩, by simpa [RunK] using h⟩
  | cons o os ih =>
    intro s acc h
    have go : ∀ rc, StepR C ops o s rc → RunK C ops os (applyR o rc s) (acc ++ [rc]) K → ∃ rcs s', RunL C ops (o :: os) s rcs s' ∧ K (acc ++ rcs) s' := by
      intro rc st hk
      obtain ⟨rcs, s', hl, hk'⟩ := ih _ _ hk
      exact ⟨rc :: rcs, s', ⟨rc, rcs, rfl, st, hl⟩, by simpa using hk'⟩
    unfold RunK at h
    cases hg : o.guard with
    | none =>
      simp only [hg] at h
      obtain ⟨rd, r, ups, st, hn⟩ := h
      exact go ⟨false, rd, r, ups⟩ (.inr ⟨rfl, .inl hg, st⟩) hn
    | some jw =>
      obtain ⟨j, want⟩ := jw
      simp only [hg] at h
      obtain ⟨b, hy, h1, h2⟩ := h
      by_cases hb : b = some want
      · obtain ⟨rd, r, ups, st, hn⟩ := h1 hb
        exact go ⟨false, rd, r, ups⟩ (.inr ⟨rfl, .inr ⟨j, want, hg, hb ▸ hy⟩, st⟩) hn
      · exact go skipRec (.inl ⟨rfl, j, want, b, hg, hy, hb⟩) (h2 hb)

theorem runL_SD {C : Cfg} {ops : Array Oper} {s0 : St} (rc : Nat → Rec) (os : List Oper) : ∀ (i : Nat) (rcs : List Rec) (s' : St),
    (∀ n, os[n]? = ops[i + n]?) → (∀ n, n < os.length → rcs.getD n skipRec = rc (i + n)) → RunL C ops os (SD ops rc s0 (fun _ => true) i) rcs s' →
    (∀ n o, os[n]? = some o → StepR C ops o (SD ops rc s0 (fun _ => true) (i + n)) (rc (i + n))) ∧ s' = SD ops rc s0 (fun _ => true) (i + os.length) := by
  induction os with
  | nil => intro i rcs s' _ _ h; exact ⟨fun n o h => by simp at h, by simpa using h.2.symm⟩
  | cons o os ih =>
    intro i rcs s' he hr h
    obtain ⟨x, rest, rfl, st, hl⟩ := h
    have ho : ops[i]? = some o := by have := he 0; simpa using this.symm
    have hx : x = rc i := by have := hr 0 (by simp); simpa using this
    subst hx
    have hs : SD ops rc s0 (fun _ => true) (i + 1) = applyR o (rc i) (SD ops rc s0 (fun _ => true) i) := by simp [SD, ho]
    rw [← hs] at hl
    obtain ⟨h1, h2⟩ := ih (i + 1) rest s' (fun n => by have := he (n + 1); simpa [Nat.add_assoc, Nat.add_comm 1 n] using this)
      (fun n hn => by have := hr (n + 1) (by simpa using hn); simpa [Nat.add_assoc, Nat.add_comm 1 n] using this) hl
    refine ⟨fun n p hp => ?_, by rw [h2]; congr 1; simp; omega⟩
    cases n with
    | zero => simp at hp; subst hp; exact st
    | succ n =>
      have := h1 n p (by simpa using hp)
      have e : i + 1 + n = i + (n + 1) := by omega
      rw [e] at this; exact this

section
variable (ops : Array Oper) (rcs : List Rec) (s0 : St)

/-- The boxes that the i-th operation may have made. -/
def newOf (i : Nat) : List Nat :=
  (wrOf (rcs.getD i skipRec).ups).filter fun b => ((s0.box b).isNone && !((List.range i).any fun j => (wrOf (rcs.getD j skipRec).ups).contains b)) || (List.range i).any fun j => (wrOf (rcs.getD j skipRec).ups).contains b && (postOf (rcs.getD j skipRec).ups b).isNone

def edgesOk : Bool := (List.range ops.size).all fun i => match ops[i]? with
  | some o => o.after.toList.all fun e => !Region.binds .any e || decide (e.on < i)
  | none => true

def pairOk (ms : List Nat) (i j : Nat) : Bool := match ops[i]?, ops[j]? with
  | some o, some p => (if i < j then (ms.getD j 0).testBit i || indep ops o p (rcs.getD i skipRec) (rcs.getD j skipRec) else true) &&
      (i == j || (ms.getD j 0).testBit i || (newOf rcs s0 i).all fun b => !menR b (rcs.getD j skipRec))
  | _, _ => true

def pairsOk : Bool :=
  edgesOk ops && (List.range ops.size).all fun i => (List.range ops.size).all fun j => pairOk ops rcs s0 (masks ops.toList []) i j

def orderOk : Prop :=
  pairsOk ops rcs s0 = true ∧ ∀ i o, ops[i]? = some o → ∀ b ∈ newOf rcs s0 i, NoMen s0 b o.dst
end

/-- What is listed bears, with each operation, those ahead of it. -/
def Closed (ops : Array Oper) (L : Nat → Bool) : Prop :=
  ∀ j o, ops[j]? = some o → L j = true → ∀ e ∈ o.after.toList, Region.binds .any e = true → L e.on = true

theorem mask_bits (L : Nat → Bool) (acc : List Nat) (h : ∀ j, L j = true → ∀ i, (acc.getD j 0).testBit i = true → L i = true) (es : List Edge)
    (he : ∀ e ∈ es, Region.binds .any e = true → L e.on = true) : ∀ (m : Nat), (∀ i, m.testBit i = true → L i = true) →
    ∀ i, (es.foldl (fun m e => if Region.binds .any e then m ||| 2 ^ e.on ||| acc.getD e.on 0 else m) m).testBit i = true → L i = true := by
  induction es with
  | nil => intro m hm i hi; exact hm i hi
  | cons e es ih =>
    intro m hm i hi
    refine ih (fun e' h' => he e' (by simp [h'])) _ ?_ i hi
    intro i hi
    dsimp only at hi
    split at hi
    · rename_i hb
      have hl := he e (by simp) hb
      simp only [Nat.testBit_or, Bool.or_eq_true, Nat.testBit_two_pow, decide_eq_true_eq] at hi
      rcases hi with (hi | hi) | hi
      · exact hm i hi
      · exact hi ▸ hl
      · exact h e.on hl i hi
    · exact hm i hi

theorem masks_bits (ops : Array Oper) (L : Nat → Bool) (hL : Closed ops L) (os : List Oper) : ∀ (acc : List Nat),
    (∀ n, os[n]? = ops[acc.length + n]?) → (∀ j, L j = true → ∀ i, (acc.getD j 0).testBit i = true → L i = true) →
    ∀ j, L j = true → ∀ i, ((masks os acc).getD j 0).testBit i = true → L i = true := by
  induction os with
  | nil => intro acc _ h; exact h
  | cons o os ih =>
    intro acc he h
    simp only [masks]
    refine ih _ (fun n => by have := he (n + 1); simp at this ⊢; rw [this]; congr 1; omega) ?_
    intro j hj i hi
    by_cases e : j < acc.length
    · have e2 : ∀ x, (acc ++ [x]).getD j 0 = acc.getD j 0 := fun x => by simp [List.getD_eq_getElem?_getD, List.getElem?_append_left e]
      rw [e2] at hi
      exact h j hj i hi
    · by_cases e' : j = acc.length
      · subst e'
        have ho : ops[acc.length]? = some o := by have := he 0; simpa using this.symm
        have e2 : ∀ x, (acc ++ [x]).getD acc.length 0 = x := fun x => by simp [List.getD_eq_getElem?_getD]
        rw [e2] at hi
        exact mask_bits L acc h o.after.toList (fun e he hb => hL _ o ho hj e he hb) 0 (fun i hi => by simp at hi) i hi
      · have e2 : ∀ x, (acc ++ [x]).getD j 0 = 0 := fun x => by
          simp only [List.getD_eq_getElem?_getD]
          rw [List.getElem?_eq_none (by simp; omega)]; rfl
        rw [e2] at hi; simp at hi

theorem SD_men (ops : Array Oper) (rc : Nat → Rec) (s : St) (D : Nat → Bool) (b : Nat) (d : Option Nat) (h0 : NoMen s b d)
    (n : Nat) (h : ∀ j, j < n → D j = true → menR b (rc j) = false) : NoMen (SD ops rc s D n) b d := by
  induction n with
  | zero => exact h0
  | succ n ih =>
    have ih := ih fun j hj => h j (by omega)
    simp only [SD]
    cases ho : ops[n]? with
    | none => exact ih
    | some o =>
      simp only
      cases hD : D n with
      | false => simpa using ih
      | true =>
        simp only [if_true]
        have hr := h n (by omega) hD
        simp only [menR, Bool.or_eq_false_iff, List.any_eq_false] at hr
        obtain ⟨i1, i2⟩ := ih
        refine ⟨fun t ht => ?_, fun b' bx e => ?_⟩
        · simp only [applyR, St.get_put, St.upd_get]
          split
          · exact hr.1
          · exact i1 t ht
        · simp only [applyR, St.put_box] at e
          rw [St.upd_box] at e
          split at e
          · rename_i hw
            simp only [postOf] at e
            cases hlk : (rc n).ups.lookup b' with
            | none => simp [hlk] at e
            | some y =>
              simp only [hlk, Option.getD_some] at e
              subst e
              have hm : (b', some bx) ∈ (rc n).ups := by
                have : ∀ (l : List (Nat × Option Box)), l.lookup b' = some (some bx) → (b', some bx) ∈ l := by
                  intro l
                  induction l with
                  | nil => intro h; simp at h
                  | cons u l ih =>
                    intro h
                    obtain ⟨c, x⟩ := u
                    simp only [List.lookup] at h
                    split at h
                    · rename_i hc; simp at hc h; subst hc; subst h; simp
                    · exact List.mem_cons_of_mem _ (ih h)
                exact this _ hlk
              have := hr.2 _ hm
              simpa using this
          · exact i2 b' bx e

theorem StepR.congr {C : Cfg} {ops : Array Oper} {o : Oper} {s s' : St} {rc : Rec} (h : StepR C ops o s rc)
    (hl : s'.n = s.n) (hg : ∀ t ∈ looks ops o, s'.get t = s.get t)
    (hb : ∀ b ∈ rc.rd ++ wrOf rc.ups, s'.box b = s.box b) (hn : ∀ b ∈ wrOf rc.ups, s.box b = none → NoMen s' b o.dst) : StepR C ops o s' rc := by
  have hy : ∀ j want, o.guard = some (j, want) → yieldedA ops s' j = yieldedA ops s j := by
    intro j want hgd
    unfold yieldedA
    cases hd : (ops[j]?).bind (·.dst) with
    | none => rfl
    | some t => simp only [Option.map_some]; rw [hg t (by simp [looks, hgd, hd])]
  rcases h with ⟨rfl, j, want, b, h1, h2, h3⟩ | ⟨h0, h1, h2⟩
  · exact .inl ⟨rfl, j, want, b, h1, (hy j want h1).trans h2, h3⟩
  · refine .inr ⟨h0, ?_, ?_⟩
    · rcases h1 with h1 | ⟨j, want, e, h1⟩
      · exact .inl h1
      · exact .inr ⟨j, want, e, (hy j want e).trans h1⟩
    · refine ⟨h2.op.congr (fun x hx => ?_) hb, fun b hw e => hn b hw (by rw [← hb b (List.mem_append_right _ hw)]; exact e), fun d hd => by rw [hl]; exact h2.dst d hd, fun b hw e => by rw [hl]; exact h2.newb b hw (by rw [← hb b (List.mem_append_right _ hw)]; exact e)⟩
      cases x with
      | tmp t => exact hg t (by simp only [looks, List.mem_append, List.mem_flatMap]; exact .inl ⟨_, by simpa using hx, by simp [slotOf]⟩)
      | _ => rfl

theorem Rel.trans0 {C : Cfg} {X : Pin} {M0 : Mem} {μ μ' : Nat → Nat} {M M' : Mem} {s : St} {a : Act} {pre : Nat → Option Box} (h : Rel C X M0 μ M s a)
    (t : Trans C [] pre μ M μ' M') : Rel C X M0 μ' M' s a := by
  have e : ∀ b, μ' b = μ b := fun b => t.mu b fun h => by simp at h
  refine ⟨t.wf, h.grow.trans t.grow, t.os.trans h.os, t.tape.trans h.tape, t.output.trans h.output, ?_, ?_, h.len, fun u => (h.tmps u).trans t fun b _ => e b,
    fun b bx hb => (h.boxes b bx hb).trans t (by simp) (by simp) fun b' _ => e b', fun x y lx ly eq => h.dist x y lx ly (by rw [← e, ← e]; exact eq), fun b lb => by rw [e]; exact h.own b lb, h.defers, fun b hb => by rw [e]; exact h.pin b hb, fun blk c T fz hb hs => ?_⟩
  · intro blk h1 h2 h3
    obtain ⟨e1, e2⟩ := h.fr blk h1 h2 h3
    obtain ⟨f1, f2⟩ := t.fr blk (Nat.lt_of_lt_of_le h1 h.grow.size) (fun c => h2 (h.spb blk h1 c)) (by simp)
    exact ⟨f1.trans e1, fun o i => e2 o (f2 o i)⟩
  · exact fun blk h1 h2 => h.spb blk h1 (t.spb blk (Nat.lt_of_lt_of_le h1 h.grow.size) h2)
  · obtain ⟨c1, fz1, e1, h1⟩ := h.wid blk c T fz hb hs
    have hlt : blk < M0.w.heap.size := by
      rcases Nat.lt_or_ge blk M0.w.heap.size with h | h
      · exact h
      · simp [Array.getElem?_eq_none h] at hb
    obtain ⟨c2, fz2, e2, h2⟩ := t.wid blk c1 T fz1 e1 fun s => hs (h.spb blk hlt s)
    exact ⟨c2, fz2, e2, h2.trans h1⟩

/-- A world with the same memory. -/
theorem Trans.same {C : Cfg} (pre : Nat → Option Box) (μ : Nat → Nat) (M : Mem) (wf : Wf C M) (w' : World) (hh : w'.heap = M.w.heap) (ho : w'.os = M.w.os) (ht : w'.tape = M.w.tape)
    (hp : w'.output = M.w.output) : Trans C [] pre μ M μ { M with w := w' } := by
  have hc : ∀ a, w'.cell? a = M.w.cell? a := fun a => by simp [World.cell?, hh]
  have g : Grow C M { M with w := w' } := ⟨by simp [hh], fun b o i => ⟨i, hc _⟩, fun b s => s, fun b x s e => ⟨x, by simpa [hh] using e, C.refl x⟩⟩
  refine ⟨g, ⟨fun b o i => by simpa [hh] using wf.imm b o i, fun b s => by simpa [hh] using wf.sp b s, fun g' flat hg => (wf.glob g' flat hg).mono g, fun g' vs hg => fix_mono g (wf.fix g' vs hg)⟩,
    ho, ht, hp, fun blk _ _ _ => ⟨by simp [hh], fun _ i => i⟩, fun _ _ s => s, fun blk c T fz e _ => ⟨c, fz, by simpa [hh] using e, rfl⟩, fun _ _ => rfl⟩

theorem any_go {C : Cfg} {X : Pin} {M0 : Mem} {ops : Array Oper} {rcs : List Rec} {s0 : St} {Q : Exit → Act → World → Prop} {K : St → Prop}
    (k : ∀ s μ M a, K s → Rel C X M0 μ M s a → Q .normal a M.w) (ok : orderOk ops rcs s0)
    (st : ∀ i o, ops[i]? = some o → StepR C ops o (SD ops (fun i => rcs.getD i skipRec) s0 (fun _ => true) i) (rcs.getD i skipRec))
    (hK : K (SD ops (fun i => rcs.getD i skipRec) s0 (fun _ => true) ops.size)) :
    ∀ (fuel : Nat) (listed : Array Bool) (a : Act) (μ : Nat → Nat) (M : Mem), listed.size = ops.size → Closed ops (fun j => listed.getD j false) →
      listed.toList.count false = fuel → Rel C X M0 μ M (SD ops (fun i => rcs.getD i skipRec) s0 (fun j => listed.getD j false) ops.size) a →
      wpAny C.P .any ops Q fuel listed a M.w := by
  obtain ⟨ok, ok3⟩ := ok
  simp only [pairsOk, Bool.and_eq_true, List.all_eq_true, List.mem_range] at ok
  obtain ⟨ok1, ok2⟩ := ok
  intro fuel
  have done : ∀ (listed : Array Bool) (a : Act) (μ : Nat → Nat) (M : Mem), listed.size = ops.size → listed.toList.count false = 0 →
      Rel C X M0 μ M (SD ops (fun i => rcs.getD i skipRec) s0 (fun j => listed.getD j false) ops.size) a → Q .normal a M.w := by
    intro listed a μ M hsz hc h
    have hall : ∀ j, j < ops.size → listed.getD j false = true := by
      intro j hj
      rw [List.count_eq_zero] at hc
      rw [Array.getD_eq_getD_getElem?, Array.getElem?_eq_getElem (by omega), Option.getD_some]
      by_cases e : listed[j]'(by omega) = true
      · exact e
      · exact (hc (by simp only [Bool.not_eq_true] at e; rw [← e]; simp [Array.getElem_mem])).elim
    have e : ∀ n, n ≤ ops.size → SD ops (fun i => rcs.getD i skipRec) s0 (fun j => listed.getD j false) n = SD ops (fun i => rcs.getD i skipRec) s0 (fun _ => true) n := by
      intro n
      induction n with
      | zero => intro _; rfl
      | succ n ih => intro hn; simp only [SD, hall n (by omega), ih (by omega)]
    rw [e _ (Nat.le_refl _)] at h
    exact k _ μ M a hK h
  induction fuel with
  | zero =>
    intro listed a μ M hsz hcl hc h
    refine ⟨?_, done listed a μ M hsz hc h⟩
    simp only [Region.ready, List.filter_eq_nil_iff, List.mem_range]
    intro i hi
    rw [List.count_eq_zero] at hc
    have : listed.getD i true = true := by
      rw [Array.getD_eq_getD_getElem?, Array.getElem?_eq_getElem (by omega), Option.getD_some]
      by_cases e : listed[i]'(by omega) = true
      · exact e
      · exact (hc (by simp only [Bool.not_eq_true] at e; rw [← e]; simp [Array.getElem_mem])).elim
    simp [this]
  | succ fuel ih =>
    intro listed a μ M hsz hcl hc h
    constructor
    · intro hnone
      exfalso
      -- the least one that isn't listed is ready
      have hex : ∃ i, i < ops.size ∧ listed.getD i false = false := by
        have hm : false ∈ listed.toList := by
          rw [← List.count_pos_iff]; omega
        obtain ⟨i, hi, e⟩ := List.getElem_of_mem hm
        have hi' : i < listed.size := by simpa using hi
        refine ⟨i, by omega, ?_⟩
        rw [Array.getD_eq_getD_getElem?, Array.getElem?_eq_getElem hi', Option.getD_some]
        simpa using e
      obtain ⟨i, ⟨hi, hf⟩, hmin⟩ : ∃ i, (i < ops.size ∧ listed.getD i false = false) ∧ ∀ j, j < i → ¬ (j < ops.size ∧ listed.getD j false = false) := by
        obtain ⟨i0, h0⟩ := hex
        induction i0 using Nat.strongRecOn with
        | _ i0 ih =>
          by_cases hx : ∃ j, j < i0 ∧ (j < ops.size ∧ listed.getD j false = false)
          · obtain ⟨j, hj, h⟩ := hx; exact ih j hj h
          · exact ⟨i0, h0, fun j hj h => hx ⟨j, hj, h⟩⟩
      have hr : i ∈ Region.ready .any ops listed := by
        simp only [Region.ready, List.mem_filter, List.mem_range]
        refine ⟨hi, ?_⟩
        have e1 : listed.getD i true = false := by
          rw [Array.getD_eq_getD_getElem?, Array.getElem?_eq_getElem (by omega), Option.getD_some] at hf ⊢; exact hf
        simp only [e1, Bool.not_false, Bool.true_and, Array.getElem?_eq_getElem hi, Option.map_some, Option.getD_some]
        rw [Array.all_eq_true]
        intro n hn
        have ho := ok1
        simp only [edgesOk, List.all_eq_true, List.mem_range] at ho
        have ho := ho i hi
        simp only [Array.getElem?_eq_getElem hi, List.all_eq_true] at ho
        have ho := ho (ops[i].after[n]) (by simp [Array.getElem_mem])
        cases hb : Region.binds .any ops[i].after[n] with
        | false => simp
        | true =>
          simp only [hb, Bool.not_true, Bool.false_or, decide_eq_true_eq] at ho
          simp only [Bool.not_true, Bool.false_or]
          by_cases e : listed.getD (ops[i].after[n]).on false = true
          · exact e
          · exact (hmin _ ho ⟨by omega, by simpa using e⟩).elim
      rw [hnone] at hr; simp at hr
    · intro i hr
      simp only [Region.ready, List.mem_filter, List.mem_range, Bool.and_eq_true, Bool.not_eq_true'] at hr
      obtain ⟨hi, hu, hp⟩ := hr
      have ho : ops[i]? = some ops[i] := Array.getElem?_eq_getElem hi
      have hu' : listed.getD i false = false := by
        rw [Array.getD_eq_getD_getElem?, Array.getElem?_eq_getElem (by omega), Option.getD_some] at hu ⊢; exact hu
      simp only [ho, Option.map_some, Option.getD_some, Array.all_eq_true] at hp
      have hpre : ∀ e ∈ ops[i].after.toList, Region.binds .any e = true → listed.getD e.on false = true := by
        intro e he hb
        obtain ⟨n, hn, rfl⟩ := List.getElem_of_mem he
        have := hp n (by simpa using hn)
        simp only [Array.getElem_toList] at hb ⊢
        simpa [hb] using this
      let L : Nat → Bool := fun j => listed.getD j false
      let L' : Nat → Bool := fun j => (listed.setIfInBounds i true).getD j false
      have hL' : ∀ j, L' j = (L j || j == i) := by
        intro j
        simp only [L, L', Array.getD_eq_getD_getElem?, Array.getElem?_setIfInBounds]
        by_cases e : i = j
        · subst e; simp [hsz, hi]
        · have : (j == i) = false := by simp; exact fun h => e h.symm
          simp [e, this]
      have hcl' : Closed ops L' := by
        intro j o hj hjl e he hb
        rw [hL'] at hjl ⊢
        simp only [Bool.or_eq_true, beq_iff_eq] at hjl ⊢
        rcases hjl with hjl | hjl
        · exact .inl (hcl j o hj hjl e he hb)
        · subst hjl
          rw [ho] at hj; cases hj
          exact .inl (hpre e he hb)
      have bits : ∀ j, L j = true → ((masks ops.toList []).getD j 0).testBit i = true → False := by
        intro j hj hb
        have := masks_bits ops L hcl ops.toList [] (fun n => by simp) (fun j _ i h => by simp at h) j hj i hb
        simp only [L] at this
        rw [hu'] at this; cases this
      have bits' : ∀ j, j < ops.size → L j = false → ((masks ops.toList []).getD i 0).testBit j = true → False := by
        intro j _ hj hb
        have := masks_bits ops L' hcl' ops.toList [] (fun n => by simp) (fun j _ i h => by simp at h) i (by rw [hL']; simp) j hb
        rw [hL'] at this
        simp only [hj, Bool.false_or, beq_iff_eq] at this
        subst this
        -- no edge leads back to i
        have hlt : ∀ (os : List Oper) (acc : List Nat), (∀ n, os[n]? = ops[acc.length + n]?) → (∀ j i, (acc.getD j 0).testBit i = true → i < j) →
            ∀ j i, ((masks os acc).getD j 0).testBit i = true → i < j := by
          intro os
          induction os with
          | nil => intro acc _ h; exact h
          | cons o os ih =>
            intro acc he hacc
            simp only [masks]
            refine ih _ (fun n => by have := he (n + 1); simp at this ⊢; rw [this]; congr 1; omega) ?_
            intro j i hi
            by_cases e : j < acc.length
            · have e2 : ∀ x, (acc ++ [x]).getD j 0 = acc.getD j 0 := fun x => by simp [List.getD_eq_getElem?_getD, List.getElem?_append_left e]
              rw [e2] at hi; exact hacc j i hi
            · by_cases e' : j = acc.length
              · subst e'
                have e2 : ∀ x, (acc ++ [x]).getD acc.length 0 = x := fun x => by simp [List.getD_eq_getElem?_getD]
                rw [e2] at hi
                have ho' : ops[acc.length]? = some o := by have := he 0; simpa using this.symm
                have hlen : acc.length < ops.size := by
                  rcases Nat.lt_or_ge acc.length ops.size with h | h
                  · exact h
                  · simp [Array.getElem?_eq_none h] at ho'
                have he2 : ∀ e ∈ o.after.toList, Region.binds .any e = true → decide (e.on < acc.length) = true := by
                  intro e he hb
                  have hx := ok1
                  simp only [edgesOk, List.all_eq_true, List.mem_range] at hx
                  have hx := hx acc.length hlen
                  simp only [ho', List.all_eq_true] at hx
                  have := hx e he
                  simpa [hb] using this
                have := mask_bits (fun x => decide (x < acc.length)) acc (fun j hj i hi => by
                  have := hacc j i hi
                  simp only [decide_eq_true_eq] at hj ⊢; omega) o.after.toList he2 0 (fun i hi => by simp at hi) i hi
                simpa using this
              · have e2 : ∀ x, (acc ++ [x]).getD j 0 = 0 := fun x => by
                  simp only [List.getD_eq_getElem?_getD]
                  rw [List.getElem?_eq_none (by simp; omega)]; rfl
                rw [e2] at hi; simp at hi
        have := hlt ops.toList [] (fun n => by simp) (fun j i h => by simp at h) j j hb
        omega
      -- pairs
      have pair : ∀ x y (hx : x < ops.size) (hy : y < ops.size), x < y → ((masks ops.toList []).getD y 0).testBit x = true ∨
          indep ops ops[x] ops[y] (rcs.getD x skipRec) (rcs.getD y skipRec) = true := by
        intro x y hx hy hxy
        have := ok2 x hx y hy
        simp only [pairOk, Array.getElem?_eq_getElem hx, Array.getElem?_eq_getElem hy, hxy, if_true, Bool.and_eq_true, Bool.or_eq_true] at this
        exact this.1
      have ind_dst : ∀ {o p : Oper} {x y : Rec} {t : Nat}, indep ops o p x y = true → o.dst = some t → t ∈ looks ops p → False := by
        intro o p x y t h hd ht
        simp only [indep, Bool.and_eq_true, disj, List.all_eq_true, Bool.not_eq_true', List.contains_eq_mem] at h
        have := h.1.1.1 t (by simp [hd])
        simp [ht] at this
      have ind_dst' : ∀ {o p : Oper} {x y : Rec} {t : Nat}, indep ops o p x y = true → p.dst = some t → t ∈ looks ops o → False := by
        intro o p x y t h hd ht
        simp only [indep, Bool.and_eq_true, disj, List.all_eq_true, Bool.not_eq_true', List.contains_eq_mem] at h
        have := h.1.1.2 t (by simp [hd])
        simp [ht] at this
      have ind_wr : ∀ {o p : Oper} {x y : Rec} {b : Nat}, indep ops o p x y = true → b ∈ wrOf x.ups → b ∈ y.rd ++ wrOf y.ups → False := by
        intro o p x y b h hd ht
        simp only [indep, Bool.and_eq_true, disj, List.all_eq_true, Bool.not_eq_true', List.contains_eq_mem] at h
        have := h.1.2 b hd
        simp only [List.mem_append, decide_eq_false_iff_not, not_or] at this
        rcases List.mem_append.1 ht with h | h
        · exact this.2 h
        · exact this.1 h
      have ind_wr' : ∀ {o p : Oper} {x y : Rec} {b : Nat}, indep ops o p x y = true → b ∈ wrOf y.ups → b ∈ x.rd ++ wrOf x.ups → False := by
        intro o p x y b h hd ht
        simp only [indep, Bool.and_eq_true, disj, List.all_eq_true, Bool.not_eq_true', List.contains_eq_mem] at h
        rcases List.mem_append.1 ht with h' | h'
        · have := h.2 b hd; simp [h'] at this
        · have := h.1.2 b h'; simp [hd] at this
      -- the same operands and boxes as in the order of the text
      have differ : ∀ j, j < ops.size → L j ≠ decide (j < i) → j ≠ i → (hj : j < ops.size) →
          (j < i ∧ indep ops ops[j] ops[i] (rcs.getD j skipRec) (rcs.getD i skipRec) = true) ∨ (i < j ∧ L j = true ∧ indep ops ops[i] ops[j] (rcs.getD i skipRec) (rcs.getD j skipRec) = true) := by
        intro j _ hne hji hj
        rcases Nat.lt_or_ge j i with hlt | hge
        · left
          refine ⟨hlt, ?_⟩
          rcases pair j i hj hi hlt with h | h
          · have hLj : L j = false := by
              cases hL : L j with
              | false => rfl
              | true => simp [hL, hlt] at hne
            exact (bits' j hj hLj h).elim
          · exact h
        · right
          have hgt : i < j := by omega
          have hLj : L j = true := by
            cases hL : L j with
            | true => rfl
            | false =>
              have : decide (j < i) = false := by simp; omega
              rw [hL, this] at hne; exact (hne rfl).elim
          refine ⟨hgt, hLj, ?_⟩
          rcases pair i j hi hj hgt with h | h
          · exact (bits j hLj h).elim
          · exact h
      have upto : ∀ m, m ≤ ops.size → i ≤ m → SD ops (fun i => rcs.getD i skipRec) s0 (fun j => decide (j < i)) m = SD ops (fun i => rcs.getD i skipRec) s0 (fun _ => true) i := by
        have low : ∀ m, m ≤ i → SD ops (fun i => rcs.getD i skipRec) s0 (fun j => decide (j < i)) m = SD ops (fun i => rcs.getD i skipRec) s0 (fun _ => true) m := by
          intro m
          induction m with
          | zero => intro _; rfl
          | succ m ih =>
            intro hm
            have hd : decide (m < i) = true := by simp; omega
            simp only [SD, hd, ih (by omega)]
        intro m
        induction m with
        | zero => intro _ h0; have : i = 0 := by omega
                  subst this; rfl
        | succ m ih =>
          intro hm him
          by_cases e : i = m + 1
          · exact (low (m + 1) (by omega)).trans (by rw [e])
          · have hd : decide (m < i) = false := by simp; omega
            simp only [SD, hd]
            rw [ih (by omega) (by omega)]
            cases ops[m]? <;> simp
      have hgt : ∀ t ∈ looks ops ops[i], (SD ops (fun i => rcs.getD i skipRec) s0 L ops.size).get t = (SD ops (fun i => rcs.getD i skipRec) s0 (fun _ => true) i).get t := by
        intro t ht
        rw [← upto ops.size (Nat.le_refl _) (by omega)]
        refine SD_get ops _ s0 L _ t ops.size fun j o hj hjo hdst => ?_
        have hjo' : o = ops[j] := by rw [Array.getElem?_eq_getElem hj] at hjo; exact (Option.some.inj hjo).symm
        subst hjo'
        by_cases hji : j = i
        · subst hji; simp only [L, hu']; simp
        · by_cases hne : L j = decide (j < i)
          · exact hne
          · rcases differ j hj hne hji hj with ⟨_, h⟩ | ⟨_, _, h⟩
            · exact (ind_dst h hdst ht).elim
            · exact (ind_dst' h hdst ht).elim
      have hbx : ∀ b ∈ (rcs.getD i skipRec).rd ++ wrOf (rcs.getD i skipRec).ups, (SD ops (fun i => rcs.getD i skipRec) s0 L ops.size).box b = (SD ops (fun i => rcs.getD i skipRec) s0 (fun _ => true) i).box b := by
        intro b hb
        rw [← upto ops.size (Nat.le_refl _) (by omega)]
        refine SD_box ops _ s0 L _ b ops.size fun j hj hjb => ?_
        by_cases hji : j = i
        · subst hji; simp only [L, hu']; simp
        · by_cases hne : L j = decide (j < i)
          · exact hne
          · rcases differ j hj hne hji hj with ⟨_, h⟩ | ⟨_, _, h⟩
            · exact (ind_wr h hjb hb).elim
            · exact (ind_wr' h hjb hb).elim
      have hnew : ∀ b ∈ wrOf (rcs.getD i skipRec).ups, (SD ops (fun i => rcs.getD i skipRec) s0 (fun _ => true) i).box b = none →
          NoMen (SD ops (fun i => rcs.getD i skipRec) s0 L ops.size) b ops[i].dst := by
        intro b hb hnone
        have hmem : b ∈ newOf rcs s0 i := by
          simp only [newOf, List.mem_filter, Bool.or_eq_true]
          refine ⟨hb, ?_⟩
          have : ∀ m, (SD ops (fun i => rcs.getD i skipRec) s0 (fun _ => true) m).box b = none → (s0.box b = none ∧ ∀ j, j < m → j < ops.size → b ∉ wrOf (rcs.getD j skipRec).ups) ∨ ∃ j, j < m ∧ b ∈ wrOf (rcs.getD j skipRec).ups ∧ postOf (rcs.getD j skipRec).ups b = none := by
            intro m
            induction m with
            | zero => intro h; exact .inl ⟨h, fun j hj _ => absurd hj (Nat.not_lt_zero _)⟩
            | succ m ih =>
              intro h
              simp only [SD] at h
              cases ho' : ops[m]? with
              | none =>
                simp only [ho'] at h
                rcases ih h with ⟨e, f⟩ | e
                · refine .inl ⟨e, fun j hj hjs => ?_⟩
                  by_cases hjm : j = m
                  · subst hjm
                    rw [Array.getElem?_eq_getElem hjs] at ho'; cases ho'
                  · exact f j (by omega) hjs
                · obtain ⟨j, hj, e1, e2⟩ := e; exact .inr ⟨j, by omega, e1, e2⟩
              | some p =>
                simp only [ho', if_true, applyR, St.put_box] at h
                rw [St.upd_box] at h
                split at h
                · rename_i hw; exact .inr ⟨m, by omega, hw, h⟩
                · rename_i hw
                  rcases ih h with ⟨e, f⟩ | e
                  · refine .inl ⟨e, fun j hj hjs => ?_⟩
                    by_cases hjm : j = m
                    · subst hjm; exact hw
                    · exact f j (by omega) hjs
                  · obtain ⟨j, hj, e1, e2⟩ := e; exact .inr ⟨j, by omega, e1, e2⟩
          rcases this i hnone with ⟨e, f⟩ | ⟨j, hji, h1, h2⟩
          · left
            simp only [e, Option.isNone_none, Bool.true_and, Bool.not_eq_true', List.any_eq_false, List.mem_range]
            intro j hj
            simpa using f j hj (Nat.lt_trans hj hi)
          · right
            -- someone ahead of it has taken it away
            rw [List.any_eq_true]
            exact ⟨j, List.mem_range.2 hji, by rw [h2]; simp only [List.contains_eq_mem, h1, decide_true, Option.isNone_none, Bool.and_self]⟩
        have h3 := ok3 i ops[i] ho
        refine SD_men ops _ s0 L b ops[i].dst (h3 b hmem) ops.size fun j hj hLj => ?_
        have hji : j ≠ i := fun e => by subst e; simp only [L, hu'] at hLj; cases hLj
        have h2 := ok2 i hi j hj
        simp only [pairOk, ho, Array.getElem?_eq_getElem hj, Bool.and_eq_true, Bool.or_eq_true, List.all_eq_true, Bool.not_eq_true'] at h2
        rcases h2.2 with (h2 | h2) | h2
        · simp at h2; exact (hji h2.symm).elim
        · exact (bits j hLj h2).elim
        · exact h2 b hmem
      have hst := (st i ops[i] ho).congr (s' := SD ops (fun i => rcs.getD i skipRec) s0 L ops.size) (by rw [SD_n, SD_n]) hgt hbx hnew
      refine stepR_sound ho h hst fun a' μ' M' hr => ?_
      have hadd := SD_add ops (fun i => rcs.getD i skipRec) s0 L i ops[i] ho hu' ops.size hi (fun j p hij hj hp hLj => by
        have hp' : p = ops[j] := by rw [Array.getElem?_eq_getElem hj] at hp; exact (Option.some.inj hp).symm
        subst hp'
        rcases pair i j hi hj hij with h | h
        · exact (bits j hLj h).elim
        · exact h)
      have hfun : (fun k => L k || k == i) = L' := funext fun j => (hL' j).symm
      rw [hfun] at hadd
      refine ih _ a' μ' M' (by simpa using hsz) hcl' ?_ (by rw [← hadd] at hr; exact hr)
      have hi2 : i < listed.toList.length := by simpa [hsz] using hi
      have hfalse : listed.toList[i] = false := by
        have := hu
        rw [Array.getD_eq_getD_getElem?, Array.getElem?_eq_getElem (by omega), Option.getD_some] at this
        simpa using this
      rw [Array.toList_setIfInBounds]
      have hcnt := List.count_set (l := listed.toList) (i := i) (a := true) (b := false) hi2
      rw [hcnt]
      simp only [hfalse, beq_self_eq_true, if_true]
      have : (true == false) = false := rfl
      simp only [this, Bool.false_eq_true, if_false]
      omega

/-- A region that draws its order: what its operations do in the order of the text, they do. -/
theorem any_sound {C : Cfg} {X : Pin} {M0 : Mem} {ops : Array Oper} {s : St} {Q : Exit → Act → World → Prop} {K : St → Prop} (hm : C.P.follows .mixedOrders = true) {id : Nat}
    {μ : Nat → Nat} {M : Mem} {a : Act} (k : ∀ s μ M a, K s → Rel C X M0 μ M s a → Q .normal a M.w) (h : Rel C X M0 μ M s a)
    (hr : RunK C ops ops.toList s [] fun rcs s' => orderOk ops rcs s ∧ K s') :
    (Code.region id ops true).wp C.P Q a M.w := by
  obtain ⟨rcs, s', hl, ok, hk⟩ := runK_L _ _ _ hr
  simp only [List.nil_append] at ok hk
  have h0 : SD ops (fun i => rcs.getD i skipRec) s (fun _ => true) 0 = s := rfl
  obtain ⟨h1, h2⟩ := runL_SD (s0 := s) (fun i => rcs.getD i skipRec) ops.toList 0 rcs s' (fun n => by simp) (fun n _ => by simp) hl
  simp only [Nat.zero_add, Array.length_toList] at h1 h2
  refine wp_region_any hm ?_
  have hsame := Trans.same (C := C) (fun _ => none) μ M h.wf { M.w with drawn := M.w.drawn + 1 } rfl rfl rfl rfl
  have h' := h.trans0 hsame
  have hcount : (Array.replicate ops.size false).toList.count false = ops.size := by simp
  refine any_go (rcs := rcs) (s0 := s) k ok (fun i o ho => h1 i o (by simpa using ho)) (h2 ▸ hk) ops.size (Array.replicate ops.size false) a μ { M with w := { M.w with drawn := M.w.drawn + 1 } } (by simp) ?_ hcount ?_
  · intro j o _ hj
    simp only [Array.getD_eq_getD_getElem?, Array.getElem?_replicate] at hj
    split at hj <;> simp at hj
  · have e : ∀ n, SD ops (fun i => rcs.getD i skipRec) s (fun j => (Array.replicate ops.size false).getD j false) n = s := by
      intro n
      induction n with
      | zero => rfl
      | succ n ih =>
        have hf : (Array.replicate ops.size false).getD n false = false := by
          simp only [Array.getD_eq_getD_getElem?, Array.getElem?_replicate]; split <;> rfl
        simp only [SD, hf, Bool.false_eq_true, if_false, ih]
        cases ops[n]? <;> rfl
    rw [e]; exact h'

end Go.Ev
/-
  A symbolic executor over abstract states, part 5: code, functions, contracts.
-/
namespace Go.Ev

/-- How a piece of code is left. -/
inductive Ex where
  | normal
  | exit (id : Nat)
  | ret

def Ex.up : Ex → Exit
  | .normal => .normal
  | .exit id => .exit id
  | .ret => .ret

/-- A box by another number. -/
def AC.ren (f : Nat → Nat) : AC → AC
  | .ptr b o => .ptr (f b) o
  | .sl b n sz nl => .sl (f b) n sz nl
  | .mref b => .mref (f b)
  | .bself T b u => .bself T (f b) u
  | .tsl T b n nl => .tsl T (f b) n nl
  | a => a
def renL (f : Nat → Nat) (cs : List AC) : List AC := cs.map (·.ren f)
def ren1 (f : Nat → Nat) : AV → AV
  | .c a => .c (a.ren f)
  | .agg cs => .agg (renL f cs)
  | .tup vs => .tup vs
def AV.ren (f : Nat → Nat) : AV → AV
  | .tup vs => .tup (vs.map (ren1 f))
  | a => ren1 f a
def Box.ren (f : Nat → Nat) (bx : Box) : Box := { bx with cells := renL f bx.cells }

theorem RepC_ren {C : Cfg} {μ : Nat → Nat} {M : Mem} {f : Nat → Nat} {a : AC} {v : Value} (h : RepC C μ M (a.ren f) v) : RepC C (fun b => μ (f b)) M a v := by
  cases a with
  | sl b n sz nl => cases nl <;> exact h
  | tsl T b n nl => cases nl <;> exact h
  | _ => exact h
theorem RepCs_ren {C : Cfg} {μ : Nat → Nat} {M : Mem} {f : Nat → Nat} {cs : List AC} {vs : Array Value} (h : RepCs C μ M (renL f cs) vs) : RepCs C (fun b => μ (f b)) M cs vs :=
  ⟨by simpa [renL] using h.1, fun i h1 h2 => RepC_ren (by simpa [renL] using h.2 i (by simpa [renL] using h1) h2)⟩
theorem Rep1_ren {C : Cfg} {μ : Nat → Nat} {M : Mem} {f : Nat → Nat} {a : AV} {v : Value} (h : Rep1 C μ M (ren1 f a) v) : Rep1 C (fun b => μ (f b)) M a v := by
  cases a with
  | c a => exact RepC_ren h
  | agg cs => obtain ⟨vs, e, h⟩ := h; exact ⟨vs, e, RepCs_ren h⟩
  | tup _ => exact h
theorem RepV_ren {C : Cfg} {μ : Nat → Nat} {M : Mem} {f : Nat → Nat} {a : AV} {v : Value} (h : RepV C μ M (a.ren f) v) : RepV C (fun b => μ (f b)) M a v := by
  cases a with
  | c a => exact Rep1_ren (a := .c a) h
  | agg cs => exact Rep1_ren (a := .agg cs) h
  | tup xs =>
    obtain ⟨vs, e, hs, h⟩ := h
    refine ⟨vs, e, by simpa using hs, fun i h1 h2 => Rep1_ren ?_⟩
    have := h i (by simpa using h1) h2
    rw [List.getElem_map] at this; exact this
theorem RepB_ren {C : Cfg} {μ : Nat → Nat} {M : Mem} {f : Nat → Nat} {b : Nat} {bx : Box} (h : RepB C μ M (f b) (bx.ren f)) : RepB C (fun b => μ (f b)) M b bx := by
  refine ⟨fun hn => ?_, fun hn ho => ?_, fun o ho => ?_⟩
  · have := h.1 hn
    exact ⟨by simpa [Box.ren, renL] using this.1, this.2⟩
  case refine_3 =>
    have hR := h.2.2 o ho
    exact ⟨hR.nl, hR.at_, by simpa [Box.ren, renL] using hR.cells, hR.pub, hR.imm, hR.sp, hR.nc⟩
  · obtain ⟨⟨c, T, fz, h1, h2, h3, h4⟩, h5, h6, h7⟩ := h.2.1 hn ho
    refine ⟨⟨c, T, fz, h1, h2, by simpa [Box.ren, renL] using h3, fun i i1 i2 => ?_⟩, h5, by simpa [Box.ren, renL] using h6, h7⟩
    have := h4 i (by simpa [Box.ren, renL] using i1) i2
    simp only [Box.ren, renL, List.getElem_map] at this
    refine ⟨RepC_ren this.1, fun hr => ?_⟩
    have := this.2 hr
    revert this
    generalize c[i] = v
    cases bx.cells[i] with
    | ptr b' o =>
      intro this
      simp only [AC.ren] at this
      generalize hx : AC.ptr (f b') o = x at this
      cases this <;> cases hx
    | mref b' =>
      intro this
      simp only [AC.ren] at this
      generalize hx : AC.mref (f b') = x at this
      cases this <;> cases hx
    | sl b' n sz nl =>
      intro this
      simp only [AC.ren] at this
      generalize hx : AC.sl (f b') n sz nl = x at this
      cases this <;> cases hx
    | bself T b' u =>
      intro this
      simp only [AC.ren] at this
      generalize hx : AC.bself T (f b') u = x at this
      cases this <;> cases hx
    | tsl T b' n nl =>
      intro this
      simp only [AC.ren] at this
      generalize hx : AC.tsl T (f b') n nl = x at this
      cases this <;> cases hx
    | _ => exact fun h => h

/-- The same cell, its box by another number; or: a nil slice is a list without elements. -/
def AC.leC (f : Nat → Nat) (a b : AC) : Prop := a = b.ren f ∨ (a = .lit (.slice none 0 0) ∧ b = .list 0 []) ∨ (a = .lit (.slice none 0 0) ∧ ∃ B z, b = .sl B 0 z true) ∨ (a = .lit (.slice none 0 0) ∧ ∃ T B, b = .tsl T B 0 true)
inductive LeL (f : Nat → Nat) : List AC → List AC → Prop
  | nil : LeL f [] []
  | cons {a b : AC} {xs ys : List AC} (h : a.leC f b) (t : LeL f xs ys) : LeL f (a :: xs) (b :: ys)
theorem LeL.append {f : Nat → Nat} {a b c d : List AC} (h : LeL f a b) (k : LeL f c d) : LeL f (a ++ c) (b ++ d) := by
  induction h with
  | nil => exact k
  | cons h _ ih => exact .cons h ih
theorem LeL.ren (f : Nat → Nat) (l : List AC) : LeL f (renL f l) l := by
  induction l with
  | nil => exact .nil
  | cons a l ih => exact .cons (.inl rfl) ih
theorem LeL.length {f : Nat → Nat} {a b : List AC} (h : LeL f a b) : a.length = b.length := by
  induction h with
  | nil => rfl
  | cons _ _ ih => simp [ih]
theorem LeL.get {f : Nat → Nat} {a b : List AC} (h : LeL f a b) : ∀ i (h1 : i < a.length) (h2 : i < b.length), (a[i]).leC f b[i] := by
  induction h with
  | nil => intro i h1; exact absurd h1 (by simp)
  | cons h _ ih =>
    intro i h1 h2
    cases i with
    | zero => exact h
    | succ i => exact ih i (by simpa using h1) (by simpa using h2)
theorem RepC_leC {C : Cfg} {μ : Nat → Nat} {M : Mem} {f : Nat → Nat} {a b : AC} {v : Value} (l : a.leC f b) (h : RepC C μ M a v) : RepC C (fun b => μ (f b)) M b v := by
  rcases l with rfl | ⟨rfl, rfl⟩ | ⟨rfl, B, z, rfl⟩ | ⟨rfl, T, B, rfl⟩
  · exact RepC_ren h
  rotate_left
  · have : v = .slice none 0 0 := RepI.lit_eq h
    exact ⟨rfl, this⟩
  · have : v = .slice none 0 0 := RepI.lit_eq h
    exact ⟨rfl, this⟩
  · have : v = .slice none 0 0 := RepI.lit_eq h
    subst this
    exact RepI.list none 0 0 [] 0 0 (fun _ => .bool false) (Nat.le_refl _) (by simp) (fun i hi => by simp at hi) (fun i hi => by simp at hi)
theorem RepCs_leL {C : Cfg} {μ : Nat → Nat} {M : Mem} {f : Nat → Nat} {xs ys : List AC} {vs : Array Value} (l : LeL f xs ys) (h : RepCs C μ M xs vs) : RepCs C (fun b => μ (f b)) M ys vs :=
  ⟨h.1.trans l.length, fun i h1 h2 => RepC_leC (l.get i (by rw [l.length]; exact h1) h1) (h.2 i (by rw [l.length]; exact h1) h2)⟩
structure Box.leB (f : Nat → Nat) (a b : Box) : Prop where
  cells : LeL f a.cells b.cells
  pub : a.pub = b.pub
  nl : a.nl = b.nl
  row : b.row = false
  obj : a.obj = b.obj
theorem RepB_leB {C : Cfg} {μ : Nat → Nat} {M : Mem} {f : Nat → Nat} {b : Nat} {a bx : Box} (l : a.leB f bx) (h : RepB C μ M (f b) a) : RepB C (fun b => μ (f b)) M b bx := by
  have hl := l.cells.length
  refine ⟨fun hn => ?_, fun hn ho => ?_, fun o ho => ?_⟩
  case refine_3 =>
    have hR := h.2.2 o (l.obj.trans ho)
    have e := hR.cells
    rw [e] at hl
    exact ⟨l.nl.symm.trans hR.nl, hR.at_, List.length_eq_zero_iff.1 hl.symm, l.pub.symm.trans hR.pub, hR.imm, hR.sp, hR.nc⟩
  · have := h.1 (l.nl.trans hn)
    rw [this.1] at hl
    exact ⟨List.length_eq_zero_iff.1 hl.symm, l.pub.symm.trans this.2⟩
  · obtain ⟨⟨c, T, fz, h1, h2, h3, h4⟩, h5, h6, h7⟩ := h.2.1 (l.nl.trans hn) (l.obj.trans ho)
    refine ⟨⟨c, T, fz, h1, h2, by omega, fun i i1 i2 => ⟨RepC_leC (l.cells.get i (by omega) i1) (h4 i (by omega) i2).1, fun hr => ?_⟩⟩, fun o ho => by have := h5 o ho; rw [l.pub] at this; exact this, by rw [← l.pub, ← hl]; exact h6, h7⟩
    rw [l.row] at hr; cases hr

/-- What is known of the one value is known of the other, whose boxes have other numbers. -/
def AV.leR (f : Nat → Nat) (a b : AV) : Prop := b = .c .junk ∨ a = b.ren f ∨ (a = .c (.lit (.slice none 0 0)) ∧ ∃ B sz, b = .c (.sl B 0 sz true)) ∨
  (∃ x y, a = .c x ∧ b = .c y ∧ x.leC f y) ∨ (∃ xs ys, a = .agg xs ∧ b = .agg ys ∧ LeL f xs ys)

/-- Forget: slots may be anything again, boxes may be left, or have other numbers. Of the slots ts and the boxes bs nothing is said. -/
structure St.leX (f : Nat → Nat) (ts bs : List Nat) (s s' : St) : Prop where
  len : s.n = s'.n
  get : ∀ t, ts.contains t = false → (s.get t).leR f (s'.get t)
  box : ∀ b, bs.contains b = false → s'.box b = none ∨ (∃ r, s'.box b = some ⟨[], 0, true, r, none⟩) ∨ (∃ bx, s'.box b = some bx ∧ s.box (f b) = some (bx.ren f)) ∨ ∃ bx a, s'.box b = some bx ∧ s.box (f b) = some a ∧ a.leB f bx

def St.le (s s' : St) : Prop := ∃ f : Nat → Nat, ((∀ x y, f x = f y → x = y) ∧ ∀ b, s.n ≤ b → f b = b) ∧ s.leX f [] [] s'

def St.goes (next : St → Prop) (K : Ex → St → Prop) : Ex → St → Prop
  | .normal, s => next s
  | e, s => K e s

def inBlockA (id : Nat) (K : Ex → St → Prop) : Ex → St → Prop
  | .exit id', s => if id' = id then K .normal s else K (.exit id') s
  | e, s => K e s

def WPc (C : Cfg) : Code → (Ex → St → Prop) → St → Prop
  | .skip, K, s => K .normal s
  | .region _ ops false, K, s => RunN C ops ops.toList s (K .normal)
  | .region _ ops true, K, s => RunK C ops ops.toList s [] fun rcs s' => orderOk ops rcs s ∧ K .normal s'
  | .seq x y, K, s => WPc C x (St.goes (WPc C y K) K) s
  | .cond c x y, K, s => ∃ b, s.ev C c = .c (.lit (.bool b)) ∧ (b = true → WPc C x K s) ∧ (b = false → WPc C y K s)
  | .block id c, K, s => WPc C c (inBlockA id K) s
  | .loop c, K, s => ∃ (Inv : St → Prop) (m : St → Nat), (∃ s0, s.le s0 ∧ Inv s0) ∧
      ∀ s1, Inv s1 → WPc C c (St.goes (fun s2 => ∃ s3, s2.le s3 ∧ Inv s3 ∧ m s3 < m s1) K) s1
  | .exit id, K, s => K (.exit id) s
  | .label _, K, s => K .normal s
  | .ret, K, s => K .ret s
  | _, _, _ => False

theorem WPc.mono {C : Cfg} (c : Code) : ∀ {K K' : Ex → St → Prop} {s : St}, (∀ e s, K e s → K' e s) → WPc C c K s → WPc C c K' s := by
  have runN : ∀ (ops : Array Oper) (os : List Oper) (s : St) (K K' : St → Prop), (∀ s, K s → K' s) → RunN C ops os s K → RunN C ops os s K' := by
    intro ops os
    induction os with
    | nil => intro s K K' h hk; exact h s hk
    | cons o os ih =>
      intro s K K' h hk
      unfold RunN at hk ⊢
      cases hg : o.guard with
      | none =>
        simp only [hg] at hk ⊢
        obtain ⟨rd, r, ups, st, hn⟩ := hk
        exact ⟨rd, r, ups, st, ih _ _ _ h hn⟩
      | some jw =>
        obtain ⟨j, want⟩ := jw
        simp only [hg] at hk ⊢
        obtain ⟨b, hy, h1, h2⟩ := hk
        exact ⟨b, hy, fun e => by obtain ⟨rd, r, ups, st, hn⟩ := h1 e; exact ⟨rd, r, ups, st, ih _ _ _ h hn⟩, fun e => ih _ _ _ h (h2 e)⟩
  have runK : ∀ (ops : Array Oper) (os : List Oper) (s : St) (acc : List Rec) (K K' : List Rec → St → Prop), (∀ l s, K l s → K' l s) → RunK C ops os s acc K → RunK C ops os s acc K' := by
    intro ops os
    induction os with
    | nil => intro s acc K K' h hk; exact h acc s hk
    | cons o os ih =>
      intro s acc K K' h hk
      unfold RunK at hk ⊢
      cases hg : o.guard with
      | none =>
        simp only [hg] at hk ⊢
        obtain ⟨rd, r, ups, st, hn⟩ := hk
        exact ⟨rd, r, ups, st, ih _ _ _ _ h hn⟩
      | some jw =>
        obtain ⟨j, want⟩ := jw
        simp only [hg] at hk ⊢
        obtain ⟨b, hy, h1, h2⟩ := hk
        exact ⟨b, hy, fun e => by obtain ⟨rd, r, ups, st, hn⟩ := h1 e; exact ⟨rd, r, ups, st, ih _ _ _ _ h hn⟩, fun e => ih _ _ _ _ h (h2 e)⟩
  induction c with
  | skip => intro K K' s h hk; exact h _ _ hk
  | region id ops draw =>
    intro K K' s h hk
    cases draw with
    | false => exact runN ops _ s _ _ (h .normal) hk
    | true => exact runK ops _ s _ _ _ (fun _ _ ⟨a, c⟩ => ⟨a, h _ _ c⟩) hk
  | seq x y ihx ihy =>
    intro K K' s h hk
    exact ihx (fun e s hs => by cases e with
      | normal => exact ihy h hs
      | exit id => exact h _ _ hs
      | ret => exact h _ _ hs) hk
  | cond c x y ihx ihy =>
    intro K K' s h hk
    obtain ⟨b, e, h1, h2⟩ := hk
    exact ⟨b, e, fun hb => ihx h (h1 hb), fun hb => ihy h (h2 hb)⟩
  | block id c ih =>
    intro K K' s h hk
    refine ih (fun e s hs => ?_) hk
    cases e with
    | normal => exact h _ _ hs
    | exit id' =>
      simp only [inBlockA] at hs ⊢
      split
      · rename_i e; rw [if_pos e] at hs; exact h _ _ hs
      · rename_i e; rw [if_neg e] at hs; exact h _ _ hs
    | ret => exact h _ _ hs
  | loop c ih =>
    intro K K' s h hk
    obtain ⟨Inv, m, h0, hr⟩ := hk
    exact ⟨Inv, m, h0, fun s1 hs => ih (fun e s hs => by cases e with
      | normal => exact hs
      | exit id => exact h _ _ hs
      | ret => exact h _ _ hs) (hr s1 hs)⟩
  | exit id => intro K K' s h hk; exact h _ _ hk
  | label l => intro K K' s h hk; exact h _ _ hk
  | ret => intro K K' s h hk; exact h _ _ hk
  | _ => intro K K' s _ hk; exact hk.elim

theorem Rel.forget {C : Cfg} {X : Pin} {M0 : Mem} {μ : Nat → Nat} {M : Mem} {s s' : St} {a : Act} (h : Rel C X M0 μ M s a) (l : s.le s') : ∃ μ', Rel C X M0 μ' M s' a := by
  obtain ⟨f, ⟨inj, hi⟩, l⟩ := l
  refine ⟨fun b => μ (f b), ?_⟩
  have hl : ∀ b, liveB (s'.box b) = true → liveB (s.box (f b)) = true := fun b hb' => by
    rcases l.box b rfl with g | ⟨r, g⟩ | ⟨bx, g, e⟩ | ⟨bx, a, g, e, le⟩
    · rw [g] at hb'; cases hb'
    · rw [g] at hb'; cases hb'
    · rw [g] at hb'; rw [e]; exact hb'
    · rw [g] at hb'; rw [e]
      simp only [liveB] at hb' ⊢
      rw [le.nl]; exact hb'
  refine ⟨h.wf, h.grow, h.os, h.tape, h.output, h.fr, h.spb, h.len.trans l.len, fun t => ?_, fun b bx e => ?_, fun x y lx ly eq => inj _ _ (h.dist _ _ (hl x lx) (hl y ly) eq), fun b lb => h.own _ (hl b lb), h.defers, fun b hb => by have := l.len; rw [hi b (by omega)]; exact h.pin b (by omega), h.wid⟩
  · have ht := h.tmps t
    rcases l.get t rfl with g | g | ⟨g, B, sz, e⟩ | ⟨x, y, g, e, le⟩ | ⟨xs, ys, g, e, le⟩
    · rw [g]; trivial
    · rw [g] at ht; exact RepV_ren ht
    · rw [g] at ht
      have : a.tmps.getD t undef = .slice none 0 0 := RepI.lit_eq ht
      rw [e, this]; exact ⟨rfl, rfl⟩
    · rw [g] at ht; rw [e]; exact RepC_leC le ht
    · rw [g] at ht; rw [e]
      obtain ⟨vs, ev, hr⟩ := ht
      exact ⟨vs, ev, RepCs_leL le hr⟩
  · rcases l.box b rfl with g | ⟨r, g⟩ | ⟨bx', g, e'⟩ | ⟨bx', a', g, e', le⟩
    · rw [g] at e; cases e
    · rw [g] at e; cases e; exact ⟨fun _ => ⟨rfl, rfl⟩, (fun (h : true = false) _ => nomatch h), fun _ (h : none = some _) => nomatch h⟩
    · rw [g] at e; cases e; exact RepB_ren (h.boxes _ _ e')
    · rw [g] at e; cases e; exact RepB_leB le (h.boxes _ _ e')

/-- Where a piece of code is left, and what holds there. -/
def Post (C : Cfg) (X : Pin) (M0 : Mem) (K : Ex → St → Prop) : Exit → Act → World → Prop :=
  fun e a w => ∃ e' s μ M, e = e'.up ∧ K e' s ∧ M.w = w ∧ Rel C X M0 μ M s a

theorem wpc_sound {C : Cfg} {X : Pin} {M0 : Mem} (hm : C.P.follows .mixedOrders = true) (c : Code) : ∀ {K : Ex → St → Prop} {s : St} {μ : Nat → Nat} {M : Mem} {a : Act},
    Rel C X M0 μ M s a → WPc C c K s → c.wp C.P (Post C X M0 K) a M.w := by
  induction c with
  | skip => intro K s μ M a h hk; exact wp_skip ⟨.normal, s, μ, M, rfl, hk, rfl, h⟩
  | label l => intro K s μ M a h hk; exact wp_label ⟨.normal, s, μ, M, rfl, hk, rfl, h⟩
  | exit id => intro K s μ M a h hk; exact wp_exit ⟨.exit id, s, μ, M, rfl, hk, rfl, h⟩
  | ret => intro K s μ M a h hk; exact wp_ret ⟨.ret, s, μ, M, rfl, hk, rfl, h⟩
  | region id ops draw =>
    intro K s μ M a h hk
    cases draw with
    | false =>
      refine wp_region ?_
      rw [List.range_eq_range', show ops.size = ops.toList.length by simp]
      exact runN_sound (C := C) (X := X) (M0 := M0) (K := K .normal) (fun s μ M a hs hr => ⟨.normal, s, μ, M, rfl, hs, rfl, hr⟩) ops.toList 0 s μ M a (fun n => by simp) h hk
    | true => exact any_sound hm (K := K .normal) (fun s μ M a hs hr => ⟨.normal, s, μ, M, rfl, hs, rfl, hr⟩) h hk
  | seq x y ihx ihy =>
    intro K s μ M a h hk
    refine wp_seq (wp_mono (ihx h hk) ?_)
    rintro e a' w' ⟨e', s', μ', M', rfl, hs, rfl, hr⟩
    cases e' with
    | normal => exact ihy hr hs
    | exit id => exact ⟨.exit id, s', μ', M', rfl, hs, rfl, hr⟩
    | ret => exact ⟨.ret, s', μ', M', rfl, hs, rfl, hr⟩
  | cond c x y ihx ihy =>
    intro K s μ M a h hk
    obtain ⟨b, e, h1, h2⟩ := hk
    have hv := h.ev c
    rw [e] at hv
    have hv : a.eval c = .bool b := RepI.lit_eq hv
    cases b with
    | true => exact wp_cond_true hv (ihx h (h1 rfl))
    | false => exact wp_cond_false hv (ihy h (h2 rfl))
  | block id c ih =>
    intro K s μ M a h hk
    refine wp_block (wp_mono (ih h hk) ?_)
    rintro e a' w' ⟨e', s', μ', M', rfl, hs, rfl, hr⟩
    cases e' with
    | normal => exact ⟨.normal, s', μ', M', rfl, hs, rfl, hr⟩
    | ret => exact ⟨.ret, s', μ', M', rfl, hs, rfl, hr⟩
    | exit id' =>
      simp only [inBlockA] at hs
      simp only [Ex.up, Exit.inBlock]
      split
      · rename_i e; rw [if_pos e] at hs; exact ⟨.normal, s', μ', M', rfl, hs, rfl, hr⟩
      · rename_i e; rw [if_neg e] at hs; exact ⟨.exit id', s', μ', M', rfl, hs, rfl, hr⟩
  | loop c ih =>
    intro K s μ M a h hk
    obtain ⟨Inv, m, ⟨s0, l0, h0⟩, hr⟩ := hk
    -- the measure stands in a state, not in a frame: rounds by hand
    have key : ∀ n s1 μ M a, m s1 = n → Inv s1 → Rel C X M0 μ M s1 a → ∀ (b : Frame) (k : List Item) (cs : List Frame),
        ∃ e a' w', Post C X M0 K e a' w' ∧ Arrives C.P (Go.lone (b.at a (.code c :: .inLoop c :: k)) cs M.w) b k cs e a' w' := by
      intro n
      induction n using Nat.strongRecOn with
      | _ n ihn =>
        intro s1 μ M a hn hi hrel b k cs
        obtain ⟨e, a', w', ⟨e', s', μ', M', rfl, hs, rfl, hr'⟩, harr⟩ := ih hrel (hr s1 hi) b (.inLoop c :: k) cs
        cases e' with
        | normal =>
          obtain ⟨s3, l3, h3, hlt⟩ := hs
          obtain ⟨μ3, hr3⟩ := hr'.forget l3
          obtain ⟨e2, a2, w2, hp, harr2⟩ := ihn (m s3) (hn ▸ hlt) s3 μ3 M' a' rfl h3 hr3 b k cs
          exact ⟨e2, a2, w2, hp, .of_steps (Steps.trans harr (.one step_inLoop)) harr2⟩
        | exit id =>
          exact ⟨.exit id, a', M'.w, ⟨.exit id, s', μ', M', rfl, hs, rfl, hr'⟩, fun k' hk' => harr k' (by simpa [exitTo] using hk')⟩
        | ret => exact ⟨.ret, a', M'.w, ⟨.ret, s', μ', M', rfl, hs, rfl, hr'⟩, harr⟩
    intro b k cs
    obtain ⟨μ0, hr0⟩ := h.forget l0
    obtain ⟨e, a', w', hp, harr⟩ := key _ s0 μ0 M a rfl h0 hr0 b k cs
    exact ⟨e, a', w', hp, .of_steps (.one step_loop) harr⟩
  | _ => intro K s μ M a _ hk; exact hk.elim

end Go.Ev
/-
  A symbolic executor over abstract states, part 6: contracts of functions; how one is proved by its code, and used at a call.
-/
namespace Go.Ev

def AC.pure : AC → Bool
  | .ptr .. => false
  | .sl .. => false
  | .mref .. => false
  | .bself .. => false
  | .tsl .. => false
  | _ => true

def pure1 : AV → Bool
  | .c a => a.pure
  | .agg cs => cs.all (·.pure)
  | .tup _ => false

def AV.pure : AV → Bool
  | .tup xs => xs.all pure1
  | a => pure1 a

/-- Can the function be called by a static call? -/
def callable (P : Program) (k : FuncId) : Prop :=
  ∃ fn, P.funcs[k]? = some fn ∧ fn.body.isNone = false ∧ (fn.name == "runtime.NumGoroutine") = false

/-- THE CONTRACT OF A CALL, over whatever memory: it returns r; of the blocks that were there it writes those of the boxes of 'ups' alone, which are as 'ups' says then; boxes that were not there ahead of it are new, or have come of these. -/
def FnOkB (C : Cfg) (k : FuncId) (args : List AV) (pre : Nat → Option Box) (r : AV) (ups : List (Nat × Option Box)) : Prop :=
  callable C.P k ∧
  ∀ (μ : Nat → Nat) (M : Mem) (vs : Array Value), Wf C M → vs.size = args.length → (∀ i (h : i < args.length) (h' : i < vs.size), Rep1 C μ M args[i] vs[i]) →
    (∀ b ∈ wrOf ups, ∀ bx, pre b = some bx → RepB C μ M b bx) →
    (∀ x ∈ wrOf ups, ∀ y ∈ wrOf ups, liveB (pre x) = true → liveB (pre y) = true → μ x = μ y → x = y) →
    Calls C.P k vs M.w fun e w' => ∃ v μ' M', e = .returned v ∧ M'.w = w' ∧ RepV C μ' M' r v ∧ Trans C (wrOf ups) pre μ M μ' M' ∧
      (∀ b ∈ wrOf ups, ∀ bx, postOf ups b = some bx → RepB C μ' M' b bx) ∧
      (∀ x ∈ wrOf ups, liveB (postOf ups x) = true → M.w.heap.size ≤ μ' x ∨ ∃ y ∈ wrOf ups, liveB (pre y) = true ∧ μ' x = μ y) ∧
      (∀ x ∈ wrOf ups, ∀ y ∈ wrOf ups, liveB (postOf ups x) = true → liveB (postOf ups y) = true → μ' x = μ' y → x = y)
/-- Where no box is new. -/
theorem FnOkB.of_fixed {C : Cfg} {k : FuncId} {args : List AV} {pre : Nat → Option Box} {r : AV} {ups : List (Nat × Option Box)} (hc : callable C.P k) (hl : ∀ b ∈ wrOf ups, liveB (postOf ups b) = true → liveB (pre b) = true)
    (h : ∀ (μ : Nat → Nat) (M : Mem) (vs : Array Value), Wf C M → vs.size = args.length → (∀ i (h : i < args.length) (h' : i < vs.size), Rep1 C μ M args[i] vs[i]) →
    (∀ b ∈ wrOf ups, ∀ bx, pre b = some bx → RepB C μ M b bx) →
    (∀ x ∈ wrOf ups, ∀ y ∈ wrOf ups, liveB (pre x) = true → liveB (pre y) = true → μ x = μ y → x = y) →
    Calls C.P k vs M.w fun e w' => ∃ v M', e = .returned v ∧ M'.w = w' ∧ RepV C μ M' r v ∧ Trans C (wrOf ups) pre μ M μ M' ∧
      ∀ b ∈ wrOf ups, ∀ bx, postOf ups b = some bx → RepB C μ M' b bx) : FnOkB C k args pre r ups := by
  refine ⟨hc, fun μ M vs wf hsz hrep hb hd => (h μ M vs wf hsz hrep hb hd).mono ?_⟩
  rintro e w' ⟨v, M', he, hw, hv, t, hp⟩
  exact ⟨v, μ, M', he, hw, hv, t, hp, fun x hx hlx => .inr ⟨x, hx, hl x hx hlx, rfl⟩, fun x hx y hy lx ly eq => hd x hx y hy (hl x hx lx) (hl y hy ly) eq⟩

/-- The contract of a call that hands no box over. -/
def FnOk (C : Cfg) (k : FuncId) (args : List AV) (r : AV) : Prop := ∀ pre, FnOkB C k args pre r []

theorem Trans.refl (C : Cfg) (pre : Nat → Option Box) (μ : Nat → Nat) (M : Mem) (wf : Wf C M) : Trans C [] pre μ M μ M := Trans.same pre μ M wf M.w rfl rfl rfl rfl

theorem Trans.weaken {C : Cfg} {wr : List Nat} {pre pre' : Nat → Option Box} {μ μ' : Nat → Nat} {M M' : Mem} (t : Trans C [] pre μ M μ' M') : Trans C wr pre' μ M μ' M' :=
  ⟨t.grow, t.wf, t.os, t.tape, t.output, fun blk h1 h2 _ => t.fr blk h1 h2 (by simp), t.spb, t.wid, fun b _ => t.mu b (by simp)⟩

/-- An operation that only computes. -/
theorem opOk_pure {C : Cfg} {o : Oper} {ρ : Operand → AV} {pre : Nat → Option Box} {r : AV}
    (h : ∀ μ M (a : Act), Wf C M → (∀ x ∈ o.op.operands, RepV C μ M (ρ x) (a.eval x)) → ∃ v, (execOp a.eval o).run C.P M.w = .ok (.value v) M.w ∧ RepV C μ M r v) :
    OpOk C o ρ [] pre r [] := by
  intro μ M a next Q wf hr _ _ k
  obtain ⟨v, e, hv⟩ := h μ M a wf hr
  unfold Oper.wp
  rw [e]
  exact k v μ M hv (Trans.refl C pre μ M wf) (by simp [wrOf]) (by simp [wrOf]) (by simp [wrOf])

theorem callFunc_run {P : Program} {k : FuncId} {w : World} (h : callable P k) (args : Array Value) : (callFunc k args).run P w = .ok (.enter k args) w := by
  obtain ⟨fn, hf, hb, hn⟩ := h
  have hn' : fn.name ≠ "runtime.NumGoroutine" := by simpa using hn
  have hb' : fn.body ≠ none := by intro e; simp [e] at hb
  unfold callFunc
  simp [program, bind, Sem.bind, Sem.run, hf, hn', hb', pure]

/-! ### the contract of a function, by its code -/

/-- A slot's or a box's content, as one result. -/
def ResA (P : Program) (s : St) : ResultVar → AV → Prop
  | .tmp t, r => r = s.get t ∧ ∀ vs, r ≠ .tup vs
  | .cell a T, r => ∃ b off bx, s.get a = .c (.ptr b off) ∧ s.box b = some bx ∧ bx.nl = false ∧ bx.obj = none ∧
      ((∃ x, (∀ w : World, (isAgg T).run P w = .ok false w) ∧ bx.cells[off]? = some x ∧ r = .c x) ∨
       (∃ n, (∀ w : World, (isAgg T).run P w = .ok true w) ∧ (∀ w : World, (sizeOf T).run P w = .ok n w) ∧ off + n ≤ bx.cells.length ∧ r = .agg ((bx.cells.drop off).take n)))

theorem Sem.run_bind {α β : Type} (P : Program) (e : Sem α) (f : α → Sem β) : ∀ w, (e.bind f).run P w = match e.run P w with
    | .ok a w' => (f a).run P w'
    | .halt h w' => .halt h w' := by
  induction e with
  | store m a v k ih =>
    intro w
    cases v <;> simp only [Sem.bind, Sem.run] <;> (repeat' split) <;> simp_all
  | frozen a k ih => intro w; exact ih _ w
  | _ => intro w; simp only [Sem.bind, Sem.run] <;> (repeat' split) <;> simp_all

theorem run_load {P : Program} {w : World} {a : Addr} {v : Value} (h : w.cell? a = some v) : (load a).run P w = .ok v w := by
  simp [load, Sem.run, h]

theorem run_loadCells {P : Program} {w : World} (b off : Nat) : ∀ (n i : Nat) (acc : Array Value) (f : Nat → Value),
    (∀ j, j < n → w.cell? ⟨b, off + (i + j), none⟩ = some (f j)) →
    (loadCellsFrom ⟨b, off, none⟩ i n acc).run P w = .ok (acc ++ (Array.range n).map f) w := by
  intro n
  induction n with
  | zero => intro i acc f _; simp [loadCellsFrom, pure]
  | succ n ih =>
    intro i acc f h
    have ha : (Addr.mk b off none).add i = ⟨b, off + i, none⟩ := by
      unfold Addr.add
      split
      · rename_i e; simp [e]
      · rfl
    have h0 : w.cell? ((Addr.mk b off none).add i) = some (f 0) := by rw [ha]; simpa using h 0 (by omega)
    simp only [loadCellsFrom, bind, Sem.run_bind, run_load h0]
    rw [ih (i + 1) (acc.push (f 0)) (fun j => f (j + 1)) (fun j hj => by have := h (j + 1) (by omega); rwa [show i + (j + 1) = i + 1 + j by omega] at this)]
    congr 1
    apply Array.ext
    · simp; omega
    · intro k h1 h2
      simp only [Array.getElem_append, Array.getElem_map, Array.getElem_range, Array.getElem_push, Array.size_push]
      by_cases e1 : k < acc.size
      · simp [e1, Nat.lt_succ_of_lt e1]
      · by_cases e2 : k = acc.size
        · subst e2; simp
        · have : ¬ k < acc.size + 1 := by omega
          simp only [this, e1, dif_neg, not_false_eq_true]
          congr 1; omega

/-- A variable of a box is read: its cells. -/
theorem run_loadVar {C : Cfg} {μ : Nat → Nat} {M : Mem} {b : Nat} {bx : Box} (h : RepB C μ M b bx) (hn : bx.nl = false) (ho : bx.obj = none) {T : TypeId} {off : Nat} {r : AV}
    (hr : (∃ x, (∀ w : World, (isAgg T).run C.P w = .ok false w) ∧ bx.cells[off]? = some x ∧ r = .c x) ∨
       (∃ n, (∀ w : World, (isAgg T).run C.P w = .ok true w) ∧ (∀ w : World, (sizeOf T).run C.P w = .ok n w) ∧ off + n ≤ bx.cells.length ∧ r = .agg ((bx.cells.drop off).take n))) :
    ∃ v, (loadVar T ⟨μ b, off, none⟩).run C.P M.w = .ok v M.w ∧ Rep1 C μ M r v := by
  obtain ⟨⟨c, Tb, fz, hh, _, hl, hc⟩, _, _, _⟩ := h.2.1 hn ho
  have hcell : ∀ i (hi : i < c.size), M.w.cell? ⟨μ b, i, none⟩ = some c[i] := fun i hi => by simp [World.cell?, hh, hi]
  rcases hr with ⟨x, ha, hx, rfl⟩ | ⟨n, ha, hs, hle, rfl⟩
  · have hoff : off < bx.cells.length := by
      rcases Nat.lt_or_ge off bx.cells.length with h | h
      · exact h
      · rw [List.getElem?_eq_none h] at hx; cases hx
    have hx' : x = bx.cells[off] := by rw [List.getElem?_eq_getElem hoff] at hx; exact (Option.some.inj hx).symm
    refine ⟨c[off]'(by omega), ?_, ?_⟩
    · simp only [loadVar, bind, Sem.run_bind, ha, Bool.false_eq_true, if_false, run_load (hcell off (by omega))]
    · rw [hx']; exact (hc off hoff (by omega)).1
  · refine ⟨.agg ((Array.range n).map fun j => c.getD (off + j) undef), ?_, ⟨_, rfl, ?_, ?_⟩⟩
    · simp only [loadVar, bind, Sem.run_bind, ha, if_true, hs, loadCells]
      rw [run_loadCells (μ b) off n 0 #[] (fun j => c.getD (off + j) undef) (fun j hj => by
        have hlt : off + j < c.size := by omega
        rw [Nat.zero_add, hcell _ hlt]; simp [Array.getD_eq_getD_getElem?, hlt])]
      simp [pure]
    · simp; omega
    · intro i h1 h2
      have hi : i < n := by simpa using h2
      have hlt : off + i < c.size := by omega
      have := (hc (off + i) (by omega) hlt).1
      simpa [List.getElem_take, List.getElem_drop, Array.getD_eq_getD_getElem?, hlt] using this

theorem run_res {C : Cfg} {X : Pin} {M0 : Mem} {μ : Nat → Nat} {M : Mem} {s : St} {a : Act} (h : Rel C X M0 μ M s a) {x : ResultVar} {r : AV} (hr : ResA C.P s x r) :
    ∃ v, (match x with
      | .tmp t => (pure (a.tmps.getD t undef) : Sem Value)
      | .cell t T => do loadVar T (← asAddr (a.tmps.getD t undef))).run C.P M.w = .ok v M.w ∧ Rep1 C μ M r v := by
  cases x with
  | tmp t =>
    obtain ⟨rfl, hnt⟩ := hr
    refine ⟨_, rfl, ?_⟩
    have := h.tmps t
    cases hg : s.get t with
    | tup vs => exact (hnt vs hg).elim
    | c x => rw [hg] at this; exact this
    | agg x => rw [hg] at this; exact this
  | cell t T =>
    obtain ⟨b, off, bx, hg, hb, hn, ho, hr⟩ := hr
    have hv := h.tmps t
    rw [hg] at hv
    have hv : a.tmps.getD t undef = .pointer (some ⟨μ b, off, none⟩) := hv
    obtain ⟨v, e, hrep⟩ := run_loadVar (h.boxes b bx hb) hn ho hr
    refine ⟨v, ?_, hrep⟩
    simp only [hv, asAddr, bind, Sem.run_bind, pure, Sem.run, e]

def ResL (P : Program) (s : St) : List ResultVar → List AV → Prop
  | [], [] => True
  | x :: xs, a :: as => ResA P s x a ∧ ResL P s xs as
  | _, _ => False

/-- What a function returns. -/
def ResAs (P : Program) (s : St) (rs : List ResultVar) (r : AV) : Prop :=
  match rs with
  | [x] => ResA P s x r
  | xs => ∃ as, r = .tup as ∧ ResL P s xs as

/-- One result's operation. -/
def resOp (tmps : Array Value) : ResultVar → Sem Value
  | .tmp t => pure (tmps.getD t undef)
  | .cell a t => do loadVar t (← asAddr (tmps.getD a undef))

theorem results_eq (fn : Func) (tmps : Array Value) : results fn tmps = (do
    let vs ← fn.results.mapM (resOp tmps)
    pure (if h : vs.size = 1 then vs[0] else .tuple vs)) := by
  unfold results
  congr 1

theorem results_run {fn : Func} {tmps : Array Value} {P : Program} {w : World} {vs : List Value} (h : (fn.results.toList.mapM (resOp tmps)).run P w = .ok vs w) :
    (results fn tmps).run P w = .ok (if h : vs.length = 1 then vs[0] else .tuple vs.toArray) w := by
  rw [results_eq, Array.mapM_eq_mapM_toList]
  simp [h]

theorem res_list {C : Cfg} {X : Pin} {M0 : Mem} {μ : Nat → Nat} {M : Mem} {s : St} {a : Act} (h : Rel C X M0 μ M s a) : ∀ (rs : List ResultVar) (as : List AV), ResL C.P s rs as →
    ∃ vs : List Value, (rs.mapM (resOp a.tmps)).run C.P M.w = .ok vs M.w ∧ vs.length = as.length ∧ as.length = rs.length ∧
      ∀ i (h1 : i < as.length) (h2 : i < vs.length), Rep1 C μ M as[i] vs[i] := by
  intro rs
  induction rs with
  | nil => intro as hl; cases as with
    | nil => exact ⟨[], by simp, rfl, rfl, fun i h1 => by simp at h1⟩
    | cons _ _ => exact hl.elim
  | cons x rs ih =>
    intro as hl
    cases as with
    | nil => exact hl.elim
    | cons r as =>
      obtain ⟨v, e, hv⟩ := run_res h hl.1
      have e : (resOp a.tmps x).run C.P M.w = .ok v M.w := by cases x <;> exact e
      obtain ⟨vs, e', h1, h2, h3⟩ := ih as hl.2
      refine ⟨v :: vs, by simp [List.mapM_cons, e, e'], by simp [h1], by simp [h2], fun i i1 i2 => ?_⟩
      cases i with
      | zero => exact hv
      | succ i => exact h3 i (by simpa using i1) (by simpa using i2)

theorem res_run {C : Cfg} {X : Pin} {M0 : Mem} {μ : Nat → Nat} {M : Mem} {s : St} {a : Act} (h : Rel C X M0 μ M s a) {fn : Func} {r : AV} (hr : ResAs C.P s fn.results.toList r) :
    ∃ v, (results fn a.tmps).run C.P M.w = .ok v M.w ∧ RepV C μ M r v := by
  unfold ResAs at hr
  split at hr
  · rename_i x hx
    obtain ⟨vs, e, h1, h2, h3⟩ := res_list h [x] [r] ⟨hr, trivial⟩
    rw [← hx] at e
    match vs, h1 with
    | [v], _ =>
      refine ⟨v, by rw [results_run e]; simp, ?_⟩
      have := h3 0 (by simp) (by simp)
      cases r with
      | tup _ => exact this.elim
      | c _ => exact this
      | agg _ => exact this
  · rename_i hne
    obtain ⟨as, rfl, hl⟩ := hr
    obtain ⟨vs, e, h1, h2, h3⟩ := res_list h _ as hl
    have hlen : vs.length ≠ 1 := by
      intro e1
      have : fn.results.toList.length = 1 := by omega
      match hx : fn.results.toList, this with
      | [x], _ => exact hne x hx
    refine ⟨.tuple vs.toArray, by rw [results_run e, dif_neg hlen], vs.toArray, rfl, by simpa using h1, fun i i1 i2 => ?_⟩
    simpa using h3 i i1 (by simpa using i2)

theorem RepC.pure {C : Cfg} {μ : Nat → Nat} {M : Mem} {a : AC} {v : Value} (hp : a.pure = true) (h : RepC C μ M a v) (μ' : Nat → Nat) : RepC C μ' M a v := by
  cases a <;> first | exact h | simp [AC.pure] at hp
theorem Rep1.pure {C : Cfg} {μ : Nat → Nat} {M : Mem} {a : AV} {v : Value} (hp : pure1 a = true) (h : Rep1 C μ M a v) (μ' : Nat → Nat) : Rep1 C μ' M a v := by
  cases a with
  | c a => exact RepC.pure hp h μ'
  | agg cs =>
    obtain ⟨vs, e, h1, h2⟩ := h
    exact ⟨vs, e, h1, fun i hi hi' => (h2 i hi hi').pure (List.all_eq_true.1 hp _ (List.getElem_mem hi)) μ'⟩
  | tup _ => exact h
theorem RepV.pure {C : Cfg} {μ : Nat → Nat} {M : Mem} {a : AV} {v : Value} (hp : a.pure = true) (h : RepV C μ M a v) (μ' : Nat → Nat) : RepV C μ' M a v := by
  cases a with
  | c a => exact Rep1.pure (a := .c a) hp h μ'
  | agg a => exact Rep1.pure (a := .agg a) hp h μ'
  | tup xs =>
    obtain ⟨vs, e, h1, h2⟩ := h
    exact ⟨vs, e, h1, fun i hi hi' => (h2 i hi hi').pure (List.all_eq_true.1 hp _ (List.getElem_mem hi)) μ'⟩

end Go.Ev
/-
  A symbolic executor over abstract states, part 7: the operations.
-/
namespace Go.Ev
set_option linter.unusedSimpArgs false
set_option linter.unusedVariables false

/-! ### types -/

def tyAgg (P : Program) (T : TypeId) : Option Bool :=
  match P.underlying T with
  | some (.struct _) => some true
  | some (.array _ _) => some true
  | some _ => some false
  | none => none
def tySize (P : Program) (T : TypeId) : Option Nat := (P.info? T).map (·.size)
def tyBytes (P : Program) (T : TypeId) : Option Nat := (P.info? T).map (·.bytes)
def tyZero (P : Program) (T : TypeId) : Option Value := (P.info? T).bind (·.zero)
def tyField (P : Program) (T : TypeId) (f : Nat) : Option (Nat × TypeId) :=
  match P.underlying T with
  | some (.struct fs) => (fs[f]?).map fun x => (x.offset, x.type)
  | _ => none
def tyArr (P : Program) (T : TypeId) : Option (Nat × TypeId) :=
  match P.underlying T with
  | some (.array n e) => some (n, e)
  | _ => none
def tySlice (P : Program) (T : TypeId) : Option TypeId :=
  match P.underlying T with
  | some (.slice e) => some e
  | _ => none
def tyInt (P : Program) (T : TypeId) : Option IntKind :=
  match P.underlying T with
  | some (.int k) => some k
  | _ => none
def tyIs (P : Program) (T : TypeId) (b : TypeDesc → Bool) : Bool :=
  match P.underlying T with
  | some d => b d
  | none => false

theorem run_underlying {P : Program} {T : TypeId} {d : TypeDesc} (h : P.underlying T = some d) (w : World) : (underlying T).run P w = .ok d w := by
  simp [underlying, h]
theorem run_isAgg {P : Program} {T : TypeId} {b : Bool} (h : tyAgg P T = some b) (w : World) : (isAgg T).run P w = .ok b w := by
  unfold tyAgg at h
  cases hu : P.underlying T with
  | none => simp [hu] at h
  | some d =>
    simp only [hu] at h
    simp only [isAgg, Sem.run_bind, bind, run_underlying hu]
    cases d <;> simp_all [pure]
theorem run_sizeOf {P : Program} {T : TypeId} {n : Nat} (h : tySize P T = some n) (w : World) : (sizeOf T).run P w = .ok n w := by
  unfold tySize at h
  cases hi : P.info? T with
  | none => simp [hi] at h
  | some i => simp [hi] at h; simp [sizeOf, typeInfo, hi, h]
theorem run_zero {P : Program} {T : TypeId} {v : Value} (h : tyZero P T = some v) (w : World) : (zeroValue T).run P w = .ok v w := by
  unfold tyZero at h
  cases hi : P.info? T with
  | none => simp [hi] at h
  | some i => simp [hi] at h; simp [zeroValue, typeInfo, hi, h]

/-! ### cells of a value -/

def AC.single : AC → Bool
  | .lit v => Ev.single v
  | .junk => false
  | _ => true

def cellsOf : AV → Option (List AC)
  | .c a => if a.single then some [a] else none
  | .agg cs => if cs.all (·.single) then some cs else none
  | .tup _ => none

theorem RepC.single {C : Cfg} {μ : Nat → Nat} {M : Mem} {a : AC} {v : Value} (hs : a.single = true) (h : RepC C μ M a v) : Ev.single v = true := by
  cases a with
  | lit x => have := RepI.lit_eq h; subst this; exact hs
  | list n flat => have h : RepI C M (.list n flat) v := h; generalize hx : AC.list n flat = y at h; cases h <;> simp_all [Ev.single]
  | iptr flat => have h : RepI C M (.iptr flat) v := h; generalize hx : AC.iptr flat = y at h; cases h <;> simp_all [Ev.single]
  | opq p => have h : RepI C M (.opq p) v := h; generalize hx : AC.opq p = y at h; cases h <;> simp_all [Ev.single]
  | clo k fs cs => have h : RepI C M (.clo k fs cs) v := h; generalize hx : AC.clo k fs cs = y at h; cases h <;> simp_all [Ev.single]
  | ptr b off => have : v = _ := h; subst this; rfl
  | mref b => have : v = _ := h; subst this; rfl
  | bself T b u => obtain ⟨rfl, _⟩ := h; rfl
  | tsl T b n nl => cases nl with
    | true => obtain ⟨_, rfl⟩ := h; rfl
    | false => obtain ⟨cap, c, fz, rfl, _⟩ := h; rfl
  | sl b n sz nl => cases nl with
    | true => obtain ⟨_, rfl⟩ := h; rfl
    | false => obtain ⟨cap, c, T, fz, rfl, _⟩ := h; rfl
  | junk => simp [AC.single] at hs

theorem rep_cells {C : Cfg} {μ : Nat → Nat} {M : Mem} {a : AV} {cs : List AC} {v : Value} (hc : cellsOf a = some cs) (h : RepV C μ M a v) :
    RepCs C μ M cs v.cells ∧ ∀ x ∈ v.cells.toList, Ev.single x = true := by
  cases a with
  | c x =>
    simp only [cellsOf] at hc
    split at hc
    · rename_i hs
      cases hc
      have h1 : Ev.single v = true := RepC.single hs h
      have hv : v.cells = #[v] := by cases v <;> first | rfl | simp [Ev.single] at h1
      rw [hv]
      exact ⟨⟨rfl, fun i hi hi' => by have : i = 0 := by simpa using hi
                                      subst this; exact h⟩, by simp [h1]⟩
    · cases hc
  | agg cs' =>
    simp only [cellsOf] at hc
    split at hc
    · rename_i hs
      cases hc
      obtain ⟨vs, rfl, h1, h2⟩ := h
      refine ⟨⟨h1, h2⟩, fun x hx => ?_⟩
      obtain ⟨i, hi, rfl⟩ := List.getElem_of_mem hx
      have hi' : i < vs.size := by simpa [Value.cells] using hi
      have := (h2 i (by omega) hi').single (List.all_eq_true.1 hs _ (List.getElem_mem _))
      simpa [Value.cells] using this
    · cases hc
  | tup _ => simp [cellsOf] at hc

/-! ### operations that only compute -/

section
variable {C : Cfg} {dst : Option Tmp} {ty : TypeId} {pos : String} {after : Array Edge} {guard : Option (Nat × Bool)} {ρ : Operand → AV} {pre : Nat → Option Box}

theorem ok_move (x : Operand) : OpOk C ⟨dst, .move x, ty, pos, after, guard⟩ ρ [] pre (ρ x) [] :=
  opOk_pure fun _ _ a _ hr => ⟨a.eval x, rfl, hr x (by simp [Op.operands])⟩
theorem ok_assign (x : Operand) : OpOk C ⟨dst, .assign x, ty, pos, after, guard⟩ ρ [] pre (ρ x) [] :=
  opOk_pure fun _ _ a _ hr => ⟨a.eval x, rfl, hr x (by simp [Op.operands])⟩

theorem ok_pick {c x y : Operand} {b : Bool} (h : ρ c = .c (.lit (.bool b))) : OpOk C ⟨dst, .pick c x y, ty, pos, after, guard⟩ ρ [] pre (bif b then ρ x else ρ y) [] :=
  opOk_pure fun μ M a _ hr => by
    have hc := hr c (by simp [Op.operands])
    rw [h] at hc
    have hc : a.eval c = .bool b := RepI.lit_eq hc
    refine ⟨if b then a.eval x else a.eval y, by simp [execOp, hc, asBool], ?_⟩
    cases b
    · exact hr y (by simp [Op.operands])
    · exact hr x (by simp [Op.operands])

def intBin (op : BinOp) (k : IntKind) (a b : Int) : Option Value :=
  match op with
  | .add => some (.int k (k.wrap (a + b)))
  | .sub => some (.int k (k.wrap (a - b)))
  | .mul => some (.int k (k.wrap (a * b)))
  | .quo => if b = 0 then none else some (.int k (k.wrap (a.tdiv b)))
  | .rem => if b = 0 then none else some (.int k (a.tmod b))
  | .and => some (.int k (k.wrap (BitVec.ofInt k.bits a &&& BitVec.ofInt k.bits b).toNat))
  | .or => some (.int k (k.wrap (BitVec.ofInt k.bits a ||| BitVec.ofInt k.bits b).toNat))
  | .xor => some (.int k (k.wrap (BitVec.ofInt k.bits a ^^^ BitVec.ofInt k.bits b).toNat))
  | .andNot => some (.int k (k.wrap (BitVec.ofInt k.bits a &&& ~~~BitVec.ofInt k.bits b).toNat))
  | .eql => some (.bool (a == b))
  | .neq => some (.bool (a != b))
  | .lss => some (.bool (decide (a < b)))
  | .leq => some (.bool (decide (a ≤ b)))
  | .gtr => some (.bool (decide (a > b)))
  | .geq => some (.bool (decide (a ≥ b)))
  | .shl => if 0 ≤ b then some (.int k (k.wrap (a * 2 ^ (min b.toNat k.bits)))) else none
  | .shr => if 0 ≤ b then some (.int k (a.fdiv (2 ^ (min b.toNat k.bits)))) else none

def strBin (op : BinOp) (x y : ByteArray) : Option Value :=
  match op with
  | .add => if ((x.size + y.size : Nat) : Int) ≤ 9223372036854775807 then some (.string (x ++ y)) else none
  | .eql => some (.bool (x.toList == y.toList))
  | .neq => some (.bool !(x.toList == y.toList))
  | .lss => some (.bool (Op.bytesLess x.toList y.toList))
  | .leq => some (.bool (Op.bytesLess x.toList y.toList || x.toList == y.toList))
  | .gtr => some (.bool !(Op.bytesLess x.toList y.toList || x.toList == y.toList))
  | .geq => some (.bool !(Op.bytesLess x.toList y.toList))
  | _ => none

def binA (P : Program) (op : BinOp) (T : TypeId) : Value → Value → Option Value
  | .int k a, .int k' b => if k = k' ∨ op = .shl ∨ op = .shr then intBin op k a b else none
  | .string a, .string b => strBin op a b
  | .bool a, .bool b => if tyIs P T (· matches .bool) then (match op with
    | .eql => some (.bool (a == b))
    | .neq => some (.bool (a != b))
    | _ => none) else none
  | _, _ => none

theorem run_intBin {P : Program} {op : BinOp} {T : TypeId} {k k' : IntKind} {a b : Int} {r : Value} (h : intBin op k a b = some r) (hk : k = k' ∨ op = .shl ∨ op = .shr) (w : World) :
    (binOp op T (.int k a) (.int k' b)).run P w = .ok r w := by
  cases op <;> simp only [intBin] at h <;> (try (split at h <;> try (cases h; done))) <;> simp only [Option.some.injEq] at h <;> subst h
  case shl hb => simp [binOp, Op.shift, Int.not_lt.2 hb]
  case shr hb => simp [binOp, Op.shift, Int.not_lt.2 hb]
  all_goals
    have hk : k = k' := by simpa using hk
    subst hk
  case quo hb => simp [binOp, Op.intDiv, hb]
  case rem hb => simp [binOp, Op.intDiv, hb]
  all_goals simp [binOp, Op.intArith, Op.intBits, Op.intCmp]

theorem run_strBin {P : Program} {op : BinOp} {T : TypeId} {s t : ByteArray} {r : Value} (h : strBin op s t = some r) (w : World) :
    (binOp op T (.string s) (.string t)).run P w = .ok r w := by
  cases op <;> simp only [strBin] at h <;> (try (cases h; done))
  case add =>
    split at h
    · rename_i hle
      simp only [Option.some.injEq] at h
      subst h
      have : ¬ (((s.size + t.size : Nat) : Int) > IntKind.i64.max) := by
        have e : IntKind.i64.max = 9223372036854775807 := by decide
        rw [e]; omega
      simp only [binOp, Op.stringOp, this, if_false]; rfl
    · cases h
  all_goals
    simp only [Option.some.injEq] at h
    subst h
    simp [binOp, Op.stringOp]

theorem run_equalIn_bool {P : Program} {T : TypeId} (ht : tyIs P T (· matches .bool) = true) (d : Nat) (p q : Bool) (w : World) :
    (Op.equalIn (d + 1) T (.bool p) (.bool q)).run P w = .ok (p == q) w := by
  unfold tyIs at ht
  cases hu : P.underlying T with
  | none => simp [hu] at ht
  | some x => cases x <;> simp [hu] at ht; simp [Op.equalIn, run_underlying hu]

theorem run_boolBin {P : Program} {op : BinOp} {T : TypeId} {p q : Bool} {r : Value} (ht : tyIs P T (· matches .bool) = true)
    (h : (match op with
      | .eql => some (.bool (p == q))
      | .neq => some (.bool (p != q))
      | _ => none) = some r) (w : World) : (binOp op T (.bool p) (.bool q)).run P w = .ok r w := by
  have e : (Op.equal T (.bool p) (.bool q)).run P w = .ok (p == q) w := run_equalIn_bool ht 9999 p q w
  cases op <;> simp at h <;> subst h <;> simp [binOp, e, bne]

theorem run_binA {P : Program} {op : BinOp} {T : TypeId} {x y : Operand} {a b r : Value} (h : binA P op T a b = some r) (w : World) :
    (do eqGuard op T x y a b; binOp op T a b).run P w = .ok r w := by
  have hg : (eqGuard op T x y a b).run P w = .ok () w := by
    unfold eqGuard
    cases a <;> cases b <;> first | (simp [binA] at h; done) | (cases op <;> simp)
  rw [_root_.Go.Sem.run_bind, hg]
  simp only [Result.andThen_ok]
  cases a with
  | int k m =>
    cases b with
    | int k' n =>
      simp only [binA] at h
      split at h
      · rename_i hk; exact run_intBin h hk w
      · cases h
    | _ => simp [binA] at h
  | string s =>
    cases b with
    | string t => exact run_strBin h w
    | _ => simp [binA] at h
  | bool p =>
    cases b with
    | bool q =>
      simp only [binA] at h
      split at h
      · rename_i ht; exact run_boolBin ht h w
      · cases h
    | _ => simp [binA] at h
  | _ => simp [binA] at h

theorem ok_bin {op : BinOp} {T T' : TypeId} {x y : Operand} {a b r : Value} (hx : ρ x = .c (.lit a)) (hy : ρ y = .c (.lit b)) (h : binA C.P op T a b = some r) :
    OpOk C ⟨dst, .binOp op T x y T', ty, pos, after, guard⟩ ρ [] pre (.c (.lit r)) [] :=
  opOk_pure fun μ M ac _ hr => by
    have h1 := hr x (by simp [Op.operands]); rw [hx] at h1
    have h2 := hr y (by simp [Op.operands]); rw [hy] at h2
    have h1 : ac.eval x = a := RepI.lit_eq h1
    have h2 : ac.eval y = b := RepI.lit_eq h2
    refine ⟨r, ?_, RepI.lit r⟩
    have := run_binA (x := x) (y := y) h M.w
    simp only [execOp, h1, h2]
    simp only [bind, pure, Sem.run_bind] at this ⊢
    rw [this]; rfl

def unA (op : UnOp) : Value → Option Value
  | .int k n => match op with
    | .neg => some (.int k (k.wrap (0 - n)))
    | .xor => some (.int k (k.wrap (BitVec.ofInt k.bits (if k.signed then -1 else k.max) ^^^ BitVec.ofInt k.bits n).toNat))
    | _ => none
  | .bool b => match op with
    | .not => some (.bool !b)
    | _ => none
  | _ => none

theorem ok_un {op : UnOp} {T : TypeId} {x : Operand} {a r : Value} (hx : ρ x = .c (.lit a)) (h : unA op a = some r) :
    OpOk C ⟨dst, .unOp op T x, ty, pos, after, guard⟩ ρ [] pre (.c (.lit r)) [] :=
  opOk_pure fun μ M ac _ hr => by
    have h1 := hr x (by simp [Op.operands]); rw [hx] at h1
    have h1 : ac.eval x = a := RepI.lit_eq h1
    refine ⟨r, ?_, RepI.lit r⟩
    have e : (Op.unary op a).run C.P M.w = .ok r M.w := by
      cases a <;> cases op <;> simp [unA] at h <;> subst h <;> simp [Op.unary, Op.intArith, Op.intBits]
    simp only [execOp, h1, Sem.run_bind', bind]
    rw [e]; rfl

/-- int to int. -/
theorem ok_conv_int {S D : TypeId} {x : Operand} {k k' : IntKind} {n : Int} (hx : ρ x = .c (.lit (.int k n))) (hs : tyIs C.P S (fun _ => true) = true) (hd : tyInt C.P D = some k') :
    OpOk C ⟨dst, .convert S D x, ty, pos, after, guard⟩ ρ [] pre (.c (.lit (.int k' (k'.wrap n)))) [] :=
  opOk_pure fun μ M ac _ hr => by
    have h1 := hr x (by simp [Op.operands]); rw [hx] at h1
    have h1 : ac.eval x = _ := RepI.lit_eq h1
    refine ⟨_, ?_, RepI.lit _⟩
    unfold tyIs at hs
    unfold tyInt at hd
    cases hu : C.P.underlying S with
    | none => simp [hu] at hs
    | some d1 =>
      cases hv : C.P.underlying D with
      | none => simp [hv] at hd
      | some d2 =>
        cases d2 <;> simp [hv] at hd
        subst hd
        simp [execOp, h1, convert, run_underlying hu, run_underlying hv, Conv.intToInt]

/-- A text to a text. -/
theorem ok_conv_str {S D : TypeId} {x : Operand} {s : ByteArray} (hx : ρ x = .c (.lit (.string s))) (hs : tyIs C.P S (fun _ => true) = true) (hd : tyIs C.P D (· matches .string) = true) :
    OpOk C ⟨dst, .convert S D x, ty, pos, after, guard⟩ ρ [] pre (.c (.lit (.string s))) [] :=
  opOk_pure fun μ M ac _ hr => by
    have h1 := hr x (by simp [Op.operands]); rw [hx] at h1
    have h1 : ac.eval x = _ := RepI.lit_eq h1
    refine ⟨_, ?_, RepI.lit _⟩
    unfold tyIs at hs hd
    cases hu : C.P.underlying S with
    | none => simp [hu] at hs
    | some d1 =>
      cases hv : C.P.underlying D with
      | none => simp [hv] at hd
      | some d2 =>
        cases d2 <;> simp [hv] at hd
        simp [execOp, h1, convert, run_underlying hu, run_underlying hv]

/-! ### addresses -/

theorem ok_nil_ptr {x : Operand} {b off : Nat} (hx : ρ x = .c (.ptr b off)) : OpOk C ⟨dst, .nilCheck x, ty, pos, after, guard⟩ ρ [] pre (.c (.ptr b off)) [] :=
  opOk_pure fun μ M ac _ hr => by
    have h1 := hr x (by simp [Op.operands]); rw [hx] at h1
    have h1 : ac.eval x = .pointer (some ⟨μ b, off, none⟩) := h1
    exact ⟨.pointer (some ⟨μ b, off, none⟩), by simp [execOp, h1], rfl⟩

theorem ok_nil_iptr {x : Operand} {flat : List AC} (hx : ρ x = .c (.iptr flat)) : OpOk C ⟨dst, .nilCheck x, ty, pos, after, guard⟩ ρ [] pre (.c (.iptr flat)) [] :=
  opOk_pure fun μ M ac _ hr => by
    have h1 := hr x (by simp [Op.operands]); rw [hx] at h1
    have h1 : RepI C M (.iptr flat) (ac.eval x) := h1
    have h2 := h1
    generalize hy : AC.iptr flat = y at h2
    generalize hv : ac.eval x = v at h1 h2
    cases h2 <;> cases hy
    rename_i blk off c hc hr'
    exact ⟨_, by simp [execOp, hv], h1⟩

theorem RepI.drop {C : Cfg} {M : Mem} {flat : List AC} {blk off : Nat} (h : RepI C M (.iptr flat) (.pointer (some ⟨blk, off, none⟩))) (n : Nat) :
    RepI C M (.iptr (flat.drop n)) (.pointer (some ⟨blk, off + n, none⟩)) := by
  generalize hy : AC.iptr flat = y at h
  generalize hv : Value.pointer (some ⟨blk, off, none⟩) = v at h
  cases h <;> cases hy <;> simp at hv
  rename_i blk' off' c hc hr
  obtain ⟨rfl, rfl⟩ := hv
  refine .iptr _ _ _ (fun i => c (n + i)) (fun i hi => ?_) (fun i hi => ?_)
  · have := hc (n + i) (by simp at hi; omega)
    rwa [← Nat.add_assoc] at this
  · have := hr (n + i) (by simp at hi; omega)
    simpa [List.getElem_drop] using this

theorem addr_add (b off n : Nat) : (Addr.mk b off none).add n = ⟨b, off + n, none⟩ := by
  unfold Addr.add
  split
  · rename_i e; simp [e]
  · rfl

theorem run_fieldAt {P : Program} {T : TypeId} {f o : Nat} {U : TypeId} (h : tyField P T f = some (o, U)) {n : Nat} (hn : tySize P U = some (n + 1)) (b off : Nat) (w : World) :
    (Instr.fieldAt T (.pointer (some ⟨b, off, none⟩)) f).run P w = .ok (.pointer (some ⟨b, off + o, none⟩)) w := by
  unfold tyField at h
  cases hu : P.underlying T with
  | none => simp [hu] at h
  | some d =>
    cases d <;> simp [hu] at h
    rename_i fs
    obtain ⟨x, hx, rfl, rfl⟩ := h
    simp [Instr.fieldAt, run_underlying hu, hx, Instr.sureAddr, fieldPlace, run_sizeOf hn, addr_add]

theorem ok_field_ptr {T : TypeId} {x : Operand} {f b off o n : Nat} {U : TypeId} (hx : ρ x = .c (.ptr b off)) (h : tyField C.P T f = some (o, U)) (hn : tySize C.P U = some (n + 1)) :
    OpOk C ⟨dst, .fieldAddr T x f, ty, pos, after, guard⟩ ρ [] pre (.c (.ptr b (off + o))) [] :=
  opOk_pure fun μ M ac _ hr => by
    have h1 := hr x (by simp [Op.operands]); rw [hx] at h1
    have h1 : ac.eval x = .pointer (some ⟨μ b, off, none⟩) := h1
    refine ⟨_, ?_, rfl⟩
    simp only [execOp, h1, Sem.run_bind', bind, run_fieldAt h hn]; rfl

theorem ok_field_iptr {T : TypeId} {x : Operand} {f o n : Nat} {U : TypeId} {flat : List AC} (hx : ρ x = .c (.iptr flat)) (h : tyField C.P T f = some (o, U)) (hn : tySize C.P U = some (n + 1)) :
    OpOk C ⟨dst, .fieldAddr T x f, ty, pos, after, guard⟩ ρ [] pre (.c (.iptr (flat.drop o))) [] :=
  opOk_pure fun μ M ac _ hr => by
    have h1 := hr x (by simp [Op.operands]); rw [hx] at h1
    have h1 : RepI C M (.iptr flat) (ac.eval x) := h1
    have h2 := h1
    generalize hy : AC.iptr flat = y at h2
    generalize hv : ac.eval x = v at h1 h2
    cases h2 <;> cases hy
    rename_i blk off c hc hr'
    refine ⟨.pointer (some ⟨blk, off + o, none⟩), ?_, h1.drop o⟩
    simp only [execOp, hv, Sem.run_bind', bind, run_fieldAt h hn]; rfl

theorem run_indexAt_arr {P : Program} {T E : TypeId} {len n : Nat} {k : IntKind} {i : Int} (h : tyArr P T = some (len, E)) (hn : tySize P E = some n) (h0 : 0 ≤ i) (h1 : i < len) (b off : Nat) (w : World) :
    (Instr.indexAt T (.pointer (some ⟨b, off, none⟩)) (.int k i)).run P w = .ok (.pointer (some ⟨b, off + i.toNat * n, none⟩)) w := by
  unfold tyArr at h
  cases hu : P.underlying T with
  | none => simp [hu] at h
  | some d =>
    cases d <;> simp [hu] at h
    obtain ⟨rfl, rfl⟩ := h
    simp [Instr.indexAt, asIntOf, run_underlying hu, Instr.sureAddr, h0, h1, run_sizeOf hn, addr_add]

theorem ok_ix_ptr {T E : TypeId} {x y : Operand} {b off len n : Nat} {k : IntKind} {i : Int} (hx : ρ x = .c (.ptr b off)) (hy : ρ y = .c (.lit (.int k i))) (h : tyArr C.P T = some (len, E))
    (hn : tySize C.P E = some n) (h0 : 0 ≤ i) (h1 : i < len) :
    OpOk C ⟨dst, .indexAddr T x y, ty, pos, after, guard⟩ ρ [] pre (.c (.ptr b (off + i.toNat * n))) [] :=
  opOk_pure fun μ M ac _ hr => by
    have e1 := hr x (by simp [Op.operands]); rw [hx] at e1
    have e1 : ac.eval x = .pointer (some ⟨μ b, off, none⟩) := e1
    have e2 := hr y (by simp [Op.operands]); rw [hy] at e2
    have e2 : ac.eval y = _ := RepI.lit_eq e2
    refine ⟨_, ?_, rfl⟩
    simp only [execOp, e1, e2, Sem.run_bind', bind, run_indexAt_arr h hn h0 h1]; rfl

theorem ok_ix_iptr {T E : TypeId} {x y : Operand} {len n : Nat} {k : IntKind} {i : Int} {flat : List AC} (hx : ρ x = .c (.iptr flat)) (hy : ρ y = .c (.lit (.int k i))) (h : tyArr C.P T = some (len, E))
    (hn : tySize C.P E = some n) (h0 : 0 ≤ i) (h1 : i < len) :
    OpOk C ⟨dst, .indexAddr T x y, ty, pos, after, guard⟩ ρ [] pre (.c (.iptr (flat.drop (i.toNat * n)))) [] :=
  opOk_pure fun μ M ac _ hr => by
    have e1 := hr x (by simp [Op.operands]); rw [hx] at e1
    have e1 : RepI C M (.iptr flat) (ac.eval x) := e1
    have e2 := hr y (by simp [Op.operands]); rw [hy] at e2
    have e2 : ac.eval y = _ := RepI.lit_eq e2
    have h2 := e1
    generalize hz : AC.iptr flat = z at h2
    generalize hv : ac.eval x = v at e1 h2
    cases h2 <;> cases hz
    rename_i blk off c hc hr'
    refine ⟨.pointer (some ⟨blk, off + i.toNat * n, none⟩), ?_, e1.drop _⟩
    simp only [execOp, hv, e2, Sem.run_bind', bind, run_indexAt_arr h hn h0 h1]; rfl

/-- The i-th element of a list: its address. -/
theorem ok_ix_list {T E : TypeId} {x y : Operand} {len n : Nat} {k : IntKind} {i : Int} {flat : List AC} (hx : ρ x = .c (.list len flat)) (hy : ρ y = .c (.lit (.int k i))) (h : tySlice C.P T = some E)
    (hn : tySize C.P E = some n) (h0 : 0 ≤ i) (h1 : i < len) (hf : i.toNat * n < flat.length) :
    OpOk C ⟨dst, .indexAddr T x y, ty, pos, after, guard⟩ ρ [] pre (.c (.iptr (flat.drop (i.toNat * n)))) [] :=
  opOk_pure fun μ M ac _ hr => by
    have e1 := hr x (by simp [Op.operands]); rw [hx] at e1
    have e1 : RepI C M (.list len flat) (ac.eval x) := e1
    have e2 := hr y (by simp [Op.operands]); rw [hy] at e2
    have e2 : ac.eval y = _ := RepI.lit_eq e2
    generalize hz : AC.list len flat = z at e1
    generalize hv : ac.eval x = v at e1
    cases e1 <;> cases hz
    rename_i a cap blk off c hcap ha hc hr'
    have hne : flat ≠ [] := fun e => by simp [e] at hf
    have ha := ha hne
    subst ha
    have hu : C.P.underlying T = some (.slice E) := by
      unfold tySlice at h
      cases hu : C.P.underlying T with
      | none => simp [hu] at h
      | some d => cases d <;> simp [hu] at h; rw [h]
    refine ⟨.pointer (some ⟨blk, off + i.toNat * n, none⟩), ?_, RepI.drop (.iptr flat blk off c hc hr') _⟩
    simp [execOp, hv, e2, Instr.indexAt, asIntOf, run_underlying hu, h0, h1, run_sizeOf hn, addr_add]

/-- The i-th element of a slice of our own: its address. -/
theorem ok_ix_sl {T E : TypeId} {x y : Operand} {b len n : Nat} {k : IntKind} {i : Int} (hx : ρ x = .c (.sl b len n false)) (hy : ρ y = .c (.lit (.int k i))) (h : tySlice C.P T = some E)
    (hn : tySize C.P E = some n) (h0 : 0 ≤ i) (h1 : i < len) :
    OpOk C ⟨dst, .indexAddr T x y, ty, pos, after, guard⟩ ρ [] pre (.c (.ptr b (i.toNat * n))) [] :=
  opOk_pure fun μ M ac _ hr => by
    have e1 := hr x (by simp [Op.operands]); rw [hx] at e1
    obtain ⟨cap, c, Tb, fz, hv, hcap, hb, hz, hs⟩ := (e1 : RepC C μ M (.sl b len n false) (ac.eval x))
    have e2 := hr y (by simp [Op.operands]); rw [hy] at e2
    have e2 : ac.eval y = _ := RepI.lit_eq e2
    have hu : C.P.underlying T = some (.slice E) := by
      unfold tySlice at h
      cases hu : C.P.underlying T with
      | none => simp [hu] at h
      | some d => cases d <;> simp [hu] at h; rw [h]
    refine ⟨.pointer (some ⟨μ b, i.toNat * n, none⟩), ?_, rfl⟩
    simp [execOp, hv, e2, Instr.indexAt, asIntOf, run_underlying hu, h0, h1, run_sizeOf hn, addr_add]

/-! ### reading -/

def loadA (P : Program) (T : TypeId) (cells : List AC) (off : Nat) : Option AV :=
  match tyAgg P T with
  | some true => match tySize P T with
    | some n => if off + n ≤ cells.length then some (.agg ((cells.drop off).take n)) else none
    | none => none
  | some false => (cells[off]?).map .c
  | none => none

theorem loadA_or {P : Program} {T : TypeId} {cells : List AC} {off : Nat} {r : AV} (h : loadA P T cells off = some r) :
    (∃ x, (∀ w : World, (isAgg T).run P w = .ok false w) ∧ cells[off]? = some x ∧ r = .c x) ∨
       (∃ n, (∀ w : World, (isAgg T).run P w = .ok true w) ∧ (∀ w : World, (sizeOf T).run P w = .ok n w) ∧ off + n ≤ cells.length ∧ r = .agg ((cells.drop off).take n)) := by
  unfold loadA at h
  split at h
  · rename_i ha
    split at h
    · rename_i n hn
      split at h
      · rename_i hle; cases h; exact .inr ⟨n, run_isAgg ha, run_sizeOf hn, hle, rfl⟩
      · cases h
    · cases h
  · rename_i ha
    cases hc : cells[off]? with
    | none => simp [hc] at h
    | some x => simp [hc] at h; exact .inl ⟨x, run_isAgg ha, rfl, h.symm⟩
  · cases h

theorem Rep1.V {C : Cfg} {μ : Nat → Nat} {M : Mem} {a : AV} {v : Value} (h : Rep1 C μ M a v) : RepV C μ M a v := by
  cases a with
  | tup _ => exact h.elim
  | c _ => exact h
  | agg _ => exact h

theorem ok_load {T : TypeId} {x : Operand} {b off : Nat} {bx : Box} {r : AV} (hx : ρ x = .c (.ptr b off)) (hb : pre b = some bx) (hn : bx.nl = false) (ho : bx.obj = none) (hr : loadA C.P T bx.cells off = some r) :
    OpOk C ⟨dst, .load T x, ty, pos, after, guard⟩ ρ [b] pre r [] := by
  intro μ M a next Q wf hrep hbx _ k
  have h1 := hrep x (by simp [Op.operands]); rw [hx] at h1
  have h1 : a.eval x = .pointer (some ⟨μ b, off, none⟩) := h1
  obtain ⟨v, e, hv⟩ := run_loadVar (hbx b (by simp) bx hb) hn ho (loadA_or hr)
  have e' : (execOp a.eval ⟨dst, .load T x, ty, pos, after, guard⟩).run C.P M.w = .ok (.value v) M.w := by
    simp [execOp, h1, Instr.loadAt, Instr.sureAddr, e]
  unfold Oper.wp
  rw [e']
  exact k v μ M hv.V (Trans.refl C pre μ M wf) (by simp [wrOf]) (by simp [wrOf]) (by simp [wrOf])

theorem ok_load_i {T : TypeId} {x : Operand} {flat : List AC} {r : AV} (hx : ρ x = .c (.iptr flat)) (hr : loadA C.P T flat 0 = some r) :
    OpOk C ⟨dst, .load T x, ty, pos, after, guard⟩ ρ [] pre r [] :=
  opOk_pure fun μ M ac _ hrep => by
    have e1 := hrep x (by simp [Op.operands]); rw [hx] at e1
    have e1 : RepI C M (.iptr flat) (ac.eval x) := e1
    generalize hz : AC.iptr flat = z at e1
    generalize hv : ac.eval x = v at e1
    cases e1 <;> cases hz
    rename_i blk off c hc hr'
    rcases loadA_or hr with ⟨y, ha, hy, rfl⟩ | ⟨n, ha, hs, hle, rfl⟩
    · have hlt : 0 < flat.length := by
        rcases Nat.lt_or_ge 0 flat.length with h | h
        · exact h
        · rw [List.getElem?_eq_none h] at hy; cases hy
      have hy' : y = flat[0] := by rw [List.getElem?_eq_getElem hlt] at hy; exact (Option.some.inj hy).symm
      have h0 := (hc 0 hlt).2
      refine ⟨c 0, ?_, ?_⟩
      · simp only [Nat.add_zero] at h0
        simp [execOp, hv, Instr.loadAt, Instr.sureAddr, loadVar, ha, h0]
      · rw [hy']; exact RepC.of_I (hr' 0 hlt)
    · refine ⟨.agg ((Array.range n).map c), ?_, ⟨_, rfl, by simp; omega, fun i h1 h2 => ?_⟩⟩
      · have := run_loadCells (P := C.P) (w := M.w) blk off n 0 #[] c (fun j hj => by rw [Nat.zero_add]; exact (hc j (by omega)).2)
        simp [execOp, hv, Instr.loadAt, Instr.sureAddr, loadVar, ha, hs, loadCells, this]
      · have hi : i < n := by simpa using h2
        have := hr' i (by omega)
        simpa [List.getElem_take] using RepC.of_I (μ := μ) this

/-! ### what makes or writes boxes -/

def upd (μ : Nat → Nat) (d n : Nat) : Nat → Nat := fun b => if b = d then n else μ b

/-- A new block, as box d. -/
theorem new_trans {μ : Nat → Nat} {M : Mem} {d : Nat} (wf : Wf C M) (hd : pre d = none) (o : Obj) :
    Trans C [d] pre μ M (upd μ d M.w.heap.size) { M with w := { M.w with heap := M.w.heap.push o } } := by
  have hc : ∀ b off, b < M.w.heap.size → ({ M.w with heap := M.w.heap.push o } : World).cell? ⟨b, off, none⟩ = M.w.cell? ⟨b, off, none⟩ := by
    intro b off h
    simp [World.cell?, Array.getElem?_push, Nat.ne_of_lt h]
  have hb : ∀ b, b < M.w.heap.size → (M.w.heap.push o)[b]? = M.w.heap[b]? := fun b h => by simp [Array.getElem?_push, Nat.ne_of_lt h]
  have g : Grow C M { M with w := { M.w with heap := M.w.heap.push o } } :=
    ⟨by simp, fun b off i => ⟨i, hc b off (wf.imm b off i).1⟩, fun _ s => s, fun b x s e => ⟨x, by rw [← e]; exact hb b (wf.sp b s), C.refl x⟩⟩
  refine ⟨g, ⟨fun b off i => ⟨by have := (wf.imm b off i).1; simp; omega, (wf.imm b off i).2⟩, fun b s => by have := wf.sp b s; simp; omega, fun g' flat hg => (wf.glob g' flat hg).mono g, fun g' vs hg => fix_mono g (wf.fix g' vs hg)⟩, rfl, rfl, rfl,
    fun blk h1 _ _ => ⟨hb blk h1, fun _ i => i⟩, fun _ _ s => s, fun blk c T fz e _ => ?_, fun b hb' => ?_⟩
  · have hlt : blk < M.w.heap.size := by
      rcases Nat.lt_or_ge blk M.w.heap.size with h | h
      · exact h
      · simp [Array.getElem?_eq_none h] at e
    exact ⟨c, fz, by rw [← e]; exact hb blk hlt, rfl⟩
  · have : b ≠ d := fun e => by subst e; exact hb' (by simp) hd
    simp [upd, this]

def menL (d : Nat) (cs : List AC) : Bool := cs.any (·.men d)

theorem rep_new {μ : Nat → Nat} {M : Mem} {d : Nat} (wf : Wf C M) (hd : pre d = none) {cs : List AC} {vs : Array Value} (T : TypeId) (hm : menL d cs = false) (h : RepCs C μ M cs vs) :
    RepB C (upd μ d M.w.heap.size) { M with w := { M.w with heap := M.w.heap.push (.cells vs T) } } d { cells := cs } := by
  have t := new_trans (C := C) (μ := μ) wf hd (.cells vs T)
  have h' := h.trans t (fun b hb => by
    have : b ≠ d := fun e => by subst e; simp [menL] at hm; simp at hb; obtain ⟨x, hx, hx'⟩ := hb; have := hm x hx; simp [this] at hx'
    simp [upd, this])
  refine ⟨by simp, fun _ _ => ⟨⟨vs, T, (0, 0), by simp [upd], .inl rfl, by simp [h.1], fun i h1 h2 => ⟨h'.2 i h1 h2, by simp⟩⟩, fun o => ?_, by simp, ?_⟩, fun _ h => nomatch h⟩
  · simp only [upd, if_true]
    intro i; exact absurd (wf.imm _ _ i).1 (Nat.lt_irrefl _)
  · simp only [upd, if_true]
    intro s; exact absurd (wf.sp _ s) (Nat.lt_irrefl _)

/-- A new variable. -/
theorem ok_new {op : Op} {d : Nat} {cs : List AC} (hd : pre d = none) (hm : menL d cs = false)
    (h : ∀ μ M (a : Act), Wf C M → (∀ x ∈ op.operands, RepV C μ M (ρ x) (a.eval x)) → ∃ vs T, RepCs C μ M cs vs ∧
      (execOp a.eval ⟨some d, op, ty, pos, after, guard⟩).run C.P M.w = .ok (.value (.pointer (some ⟨M.w.heap.size, 0, none⟩))) { M.w with heap := M.w.heap.push (.cells vs T) }) :
    OpOk C ⟨some d, op, ty, pos, after, guard⟩ ρ [] pre (.c (.ptr d 0)) [(d, some { cells := cs })] := by
  intro μ M a next Q wf hr _ _ k
  obtain ⟨vs, T, hvs, e⟩ := h μ M a wf hr
  unfold Oper.wp
  rw [e]
  have t := new_trans (C := C) (μ := μ) wf hd (.cells vs T)
  refine k (.pointer (some ⟨M.w.heap.size, 0, none⟩)) (upd μ d M.w.heap.size) _ (by simp [RepV, Rep1, RepC, upd]) t ?_ ?_ ?_
  · intro b hb bx hbx
    simp [wrOf] at hb
    subst hb
    simp [postOf] at hbx
    subst hbx
    exact rep_new wf hd T hm hvs
  · intro x hx _
    simp [wrOf] at hx
    subst hx
    left; simp [upd]
  · intro x hx y hy _ _ _
    simp [wrOf] at hx hy
    rw [hx, hy]

theorem ok_box {T : TypeId} {x : Operand} {d : Nat} {cs : List AC} (hd : pre d = none) (hc : cellsOf (ρ x) = some cs) (hm : menL d cs = false) :
    OpOk C ⟨some d, .box T x, ty, pos, after, guard⟩ ρ [] pre (.c (.ptr d 0)) [(d, some { cells := cs })] :=
  ok_new hd hm fun μ M a _ hr => ⟨(a.eval x).cells, T, (rep_cells hc (hr x (by simp [Op.operands]))).1, by simp [execOp, Instr.box, newVar, newRow]⟩

theorem ok_alloc {T : TypeId} {d : Nat} {z : Value} (hd : pre d = none) (hz : tyZero C.P T = some z) :
    OpOk C ⟨some d, .alloc T, ty, pos, after, guard⟩ ρ [] pre (.c (.ptr d 0)) [(d, some { cells := z.cells.toList.map .lit })] :=
  ok_new hd (by simp [menL, AC.men]) fun μ M a _ _ => ⟨z.cells, T, ⟨by simp, fun i h1 h2 => by simp only [List.getElem_map, Array.getElem_toList]; exact RepI.lit _⟩, by simp [execOp, Instr.alloc, newVar, newRow, run_zero hz]⟩

/-! ### parts of values -/

theorem ok_extract {x : Operand} {i : Nat} {vs : List AV} {r : AV} (hx : ρ x = .tup vs) (hi : vs[i]? = some r) : OpOk C ⟨dst, .extract x i, ty, pos, after, guard⟩ ρ [] pre r [] :=
  opOk_pure fun μ M ac _ hr => by
    have h1 := hr x (by simp [Op.operands]); rw [hx] at h1
    obtain ⟨ws, e, hl, h⟩ := h1
    have hlt : i < vs.length := by
      rcases Nat.lt_or_ge i vs.length with h | h
      · exact h
      · rw [List.getElem?_eq_none h] at hi; cases hi
    have hr' : r = vs[i] := by rw [List.getElem?_eq_getElem hlt] at hi; exact (Option.some.inj hi).symm
    refine ⟨ws[i]'(by omega), ?_, ?_⟩
    · have : i < ws.size := by omega
      simp [execOp, e, Instr.extract, this]
    · rw [hr']; exact (h i hlt (by omega)).V

/-- Parts are laid into zero's cells. -/
def fillA (place : Nat → Option (Nat × Nat)) (cells : List AC) : List (Nat × AV) → Option (List AC)
  | [] => some cells
  | (i, v) :: rest => match place i, cellsOf v with
    | some (off, size), some cs => if cs.length ≠ size ∨ off + cs.length > cells.length then none else fillA place (cells.take off ++ cs ++ cells.drop (off + cs.length)) rest
    | _, _ => none

theorem zip_set (l : List Value) : ∀ (cs : Array Value) (off k : Nat), off + (k + l.length) ≤ cs.size →
    (((l.zipIdx k).foldl (fun cs (x : Value × Nat) => cs.setIfInBounds (off + x.2) x.1) cs).toList) = cs.toList.take (off + k) ++ l ++ cs.toList.drop (off + k + l.length) := by
  induction l with
  | nil => intro cs off k _; simp
  | cons v l ih =>
    intro cs off k h
    simp only [List.length_cons] at h
    simp only [List.zipIdx_cons, List.foldl_cons]
    rw [ih (cs.setIfInBounds (off + k) v) off (k + 1) (by simp; omega)]
    have hlt : off + k < cs.toList.length := by simp; omega
    simp only [Array.toList_setIfInBounds, List.length_cons]
    rw [show off + (k + 1) = off + k + 1 by omega]
    apply List.ext_getElem?
    intro n
    simp only [List.getElem?_append, List.length_append, List.length_take, List.length_set, List.getElem?_take, List.getElem?_set, List.getElem?_drop, List.getElem?_cons, List.length_cons]
    have hmin : min (off + k + 1) cs.toList.length = off + k + 1 := by omega
    have hmin' : min (off + k) cs.toList.length = off + k := by omega
    simp only [hmin, hmin']
    by_cases h1 : n < off + k
    · have : n < off + k + 1 := by omega
      have h3 : n < off + k + 1 + l.length := by omega
      have h4 : n < off + k + (l.length + 1) := by omega
      have h5 : off + k ≠ n := by omega
      simp [h1, this, h3, h4, h5]
    · by_cases h2 : n = off + k
      · subst h2
        have h3 : off + k < off + k + 1 + l.length := by omega
        have hs : off + k < cs.size := by simpa using hlt
        simp [h3, hs]
      · have a1 : ¬ n < off + k + 1 := by omega
        by_cases h3 : n < off + k + 1 + l.length
        · have h4 : n < off + k + (l.length + 1) := by omega
          have h6 : n - (off + k) ≠ 0 := by omega
          have h7 : n - (off + k + 1) = n - (off + k) - 1 := by omega
          simp [h1, a1, h3, h4, h6, h7]
        · have h4 : ¬ n < off + k + (l.length + 1) := by omega
          have h5 : off + k ≠ off + k + 1 + l.length + (n - (off + k + 1 + l.length)) := by omega
          have h8 : off + k + 1 + l.length + (n - (off + k + 1 + l.length)) = off + k + (l.length + 1) + (n - (off + k + (l.length + 1))) := by omega
          simp [h1, a1, h3, h4, h5, h8]
          intro e; omega

theorem RepCs.splice {μ : Nat → Nat} {M : Mem} {cells cs : List AC} {ws vs : Array Value} {off : Nat} (h : RepCs C μ M cells ws) (h' : RepCs C μ M cs vs) (hle : off + cs.length ≤ cells.length)
    {us : Array Value} (hu : us.toList = ws.toList.take off ++ vs.toList ++ ws.toList.drop (off + vs.size)) : RepCs C μ M (cells.take off ++ cs ++ cells.drop (off + cs.length)) us := by
  have e1 := h.1
  have e2 := h'.1
  have hsz : us.size = cells.length := by
    have := congrArg List.length hu
    simp at this; omega
  refine ⟨by simp; omega, fun i hi hi' => ?_⟩
  have gu : us[i] = (ws.toList.take off ++ vs.toList ++ ws.toList.drop (off + vs.size))[i]'(by rw [← hu]; simpa using hi') := by
    rw [List.getElem_of_eq hu.symm (by rw [← hu]; simpa using hi')]; simp
  rw [gu]
  by_cases a : i < off
  · have : i < cells.length := by omega
    have key := h.2 i this (by omega)
    rw [List.getElem_append_left (by simp; omega), List.getElem_append_left (by simp; omega), List.getElem_take]
    rw [List.getElem_append_left (by simp; omega), List.getElem_append_left (by simp; omega), List.getElem_take]
    simpa using key
  · by_cases b : i < off + cs.length
    · have key := h'.2 (i - off) (by omega) (by omega)
      have l1 : (cells.take off).length = off := by simp; omega
      have l2 : (ws.toList.take off).length = off := by simp; omega
      rw [List.getElem_append_left (by simp; omega), List.getElem_append_right (by omega)]
      rw [List.getElem_append_left (by simp; omega), List.getElem_append_right (by omega)]
      simp only [l1, l2]
      simpa using key
    · have key := h.2 i (by simp at hi; omega) (by omega)
      have l1 : (cells.take off ++ cs).length = off + cs.length := by simp; omega
      have l2 : (ws.toList.take off ++ vs.toList).length = off + cs.length := by simp; omega
      rw [List.getElem_append_right (by omega), List.getElem_append_right (by omega)]
      simp only [l1, l2, List.getElem_drop, e2]
      have e3 : off + cs.length + (i - (off + cs.length)) = i := by omega
      simpa [e3] using key

theorem fill_rep {μ : Nat → Nat} {M : Mem} {place : Nat → Option (Nat × Nat)} : ∀ (parts : List (Nat × AV)) (ps : List (Nat × Value)) (cells : List AC) (ws : Array Value) (r : List AC),
    parts.length = ps.length → (∀ i (h : i < parts.length) (h' : i < ps.length), parts[i].1 = ps[i].1 ∧ RepV C μ M parts[i].2 ps[i].2) → RepCs C μ M cells ws →
    fillA place cells parts = some r → ∃ us, Instr.fill place ws ps = some us ∧ RepCs C μ M r us := by
  intro parts
  induction parts with
  | nil => intro ps cells ws r hl _ hc hf
           cases ps with
           | nil => simp [fillA] at hf; subst hf; exact ⟨ws, rfl, hc⟩
           | cons _ _ => simp at hl
  | cons p parts ih =>
    intro ps cells ws r hl hp hc hf
    cases ps with
    | nil => simp at hl
    | cons q ps =>
      obtain ⟨i, v⟩ := p
      obtain ⟨j, u⟩ := q
      have h0 := hp 0 (by simp) (by simp)
      simp only [List.getElem_cons_zero] at h0
      obtain ⟨rfl, hv⟩ := h0
      simp only [fillA] at hf
      cases hpl : place i with
      | none => simp [hpl] at hf
      | some os =>
        obtain ⟨off, size⟩ := os
        cases hcs : cellsOf v with
        | none => simp [hpl, hcs] at hf
        | some cs =>
          simp only [hpl, hcs] at hf
          split at hf
          · cases hf
          · rename_i hne
            simp only [not_or, Nat.not_lt, gt_iff_lt, Decidable.not_not] at hne
            obtain ⟨h1, h2⟩ := hne
            have hr := (rep_cells hcs hv).1
            have hz := zip_set u.cells.toList ws off 0 (by have := hc.1; have := hr.1; simp; omega)
            simp only [Nat.add_zero] at hz
            have hsp := hc.splice hr h2 (us := (u.cells.zipIdx.foldl (fun cs (c, j) => cs.setIfInBounds (off + j) c) ws)) (by
              rw [← Array.foldl_toList, Array.toList_zipIdx]; simpa using hz)
            obtain ⟨us, e, hu⟩ := ih ps _ _ r (by simpa using hl) (fun n a b => by have := hp (n + 1) (by simpa using a) (by simpa using b); simpa using this) hsp hf
            refine ⟨us, ?_, hu⟩
            have e1 := hr.1
            have e2 := hc.1
            simp only [Instr.fill, hpl]
            rw [if_neg (by simp; omega)]
            exact e

def buildPlace (P : Program) (T : TypeId) (i : Nat) : Option (Nat × Nat) :=
  match P.underlying T with
  | some (.array _ E) => (tySize P E).map fun n => (i * n, n)
  | _ => match tyField P T i with
    | some (o, U) => (tySize P U).map fun n => (o, n)
    | none => none

def buildA (P : Program) (T : TypeId) (parts : List (Nat × AV)) : Option (List AC) :=
  match tyZero P T with
  | some z => fillA (buildPlace P T) (z.cells.toList.map .lit) parts
  | none => none

theorem mapM_fields {P : Program} {w : World} : ∀ (fs : List Field) , (∀ x ∈ fs, (tySize P x.type).isSome = true) →
    (fs.mapM (fun f => Prod.mk f.offset <$> sizeOf f.type)).run P w = .ok (fs.map fun f => (f.offset, (tySize P f.type).getD 0)) w := by
  intro fs
  induction fs with
  | nil => intro _; simp
  | cons x fs ih =>
    intro h
    have h1 := h x (by simp)
    cases hn : tySize P x.type with
    | none => simp [hn] at h1
    | some n => simp [List.mapM_cons, run_sizeOf hn, ih fun y hy => h y (by simp [hy]), hn]

theorem ok_build {T : TypeId} {parts : Array (Nat × Operand)} {fs : Array Field} {cs : List AC} (hu : C.P.underlying T = some (.struct fs)) (hs : ∀ x ∈ fs.toList, (tySize C.P x.type).isSome = true)
    (hb : buildA C.P T (parts.toList.map fun p => (p.1, ρ p.2)) = some cs) : OpOk C ⟨dst, .build T parts, ty, pos, after, guard⟩ ρ [] pre (.agg cs) [] :=
  opOk_pure fun μ M a _ hr => by
    unfold buildA at hb
    cases hz : tyZero C.P T with
    | none => simp [hz] at hb
    | some z =>
      simp only [hz] at hb
      have hplace : (fun i => (fs.toList.map fun f => (f.offset, (tySize C.P f.type).getD 0))[i]?) = buildPlace C.P T := by
        funext i
        simp only [buildPlace, tyField, hu, List.getElem?_map, Array.getElem?_toList]
        cases hi : fs[i]? with
        | none => simp
        | some x =>
          have := hs x (by rw [← Array.getElem?_toList] at hi; exact List.mem_of_getElem? hi)
          cases hn : tySize C.P x.type with
          | none => simp [hn] at this
          | some n => simp [hn]
      obtain ⟨us, e, hus⟩ := fill_rep (C := C) (μ := μ) (M := M) (parts.toList.map fun p => (p.1, ρ p.2)) (parts.toList.map fun p => (p.1, a.eval p.2)) (z.cells.toList.map .lit) z.cells cs (by simp)
        (fun i h h' => ⟨by simp, by
          have hi : i < parts.size := by simpa using h
          have := hr parts[i].2 (by simp only [Op.operands, List.mem_toArray, List.mem_map]; exact ⟨parts[i], by simp [Array.getElem_mem], rfl⟩)
          simpa using this⟩)
        ⟨by simp, fun i h1 h2 => by simp only [List.getElem_map, Array.getElem_toList]; exact RepI.lit _⟩ hb
      refine ⟨.agg us, ?_, ⟨us, rfl, hus⟩⟩
      rw [← hplace] at e
      have hm := mapM_fields (P := C.P) (w := M.w) fs.toList hs
      have hm' : (fs.mapM (fun f => (do pure (f.offset, ← sizeOf f.type) : Sem (Nat × Nat)))).run C.P M.w = .ok (fs.toList.map fun f => (f.offset, (tySize C.P f.type).getD 0)).toArray M.w := by
        have hfun : (fun (f : Field) => (do pure (f.offset, ← sizeOf f.type) : Sem (Nat × Nat))) = fun f => Prod.mk f.offset <$> sizeOf f.type := rfl
        rw [hfun, Array.mapM_eq_mapM_toList]; simp [hm]
      have hparts : (parts.map fun (x : Nat × Operand) => (x.1, a.eval x.2)).toList = parts.toList.map fun p => (p.1, a.eval p.2) := by simp
      simp only [execOp, Instr.build, Sem.run_bind', bind, run_zero hz, Result.andThen_ok, run_underlying hu]
      simp only [bind] at hm'
      rw [hm']
      simp only [Result.andThen_ok]
      have e' : Instr.fill (fun x => (fs.toList.map fun f => (f.offset, (tySize C.P f.type).getD 0)).toArray[x]?) z.cells (parts.map fun (x : Nat × Operand) => (x.1, a.eval x.2)).toList = some us := by
        rw [hparts]; simpa using e
      simp only [e']
      rfl

/-! ### writing -/

def spliceA (cells cs : List AC) (off : Nat) : List AC := cells.take off ++ cs ++ cells.drop (off + cs.length)

theorem run_storeCells {P : Program} : ∀ (vs : List Value) (w : World) (b off i : Nat) (c : Array Value) (T : TypeId) (fz : Nat × Nat),
    w.heap[b]? = some (.cells c T fz) → (∀ o, o < c.size → ¬ (fz.1 ≤ o ∧ o < fz.2)) → off + i + vs.length ≤ c.size → (∀ v ∈ vs, Ev.single v = true) →
    ∃ c' : Array Value, (storeCells ⟨b, off, none⟩ vs i).run P w = .ok () { w with heap := w.heap.setIfInBounds b (.cells c' T fz) } ∧
      c'.toList = c.toList.take (off + i) ++ vs ++ c.toList.drop (off + i + vs.length) := by
  intro vs
  induction vs with
  | nil =>
    intro w b off i c T fz hh _ _ _
    refine ⟨c, ?_, by simp⟩
    have : w.heap.setIfInBounds b (.cells c T fz) = w.heap := by
      apply Array.ext_getElem?
      intro j
      rw [Array.getElem?_setIfInBounds]
      split
      · rename_i e; subst e
        have hlt : b < w.heap.size := by
          rcases Nat.lt_or_ge b w.heap.size with h | h
          · exact h
          · simp [Array.getElem?_eq_none h] at hh
        have hg := hh
        rw [Array.getElem?_eq_getElem hlt] at hg
        simp [hlt, Option.some.inj hg]
      · rfl
    simp [storeCells, this]
  | cons v vs ih =>
    intro w b off i c T fz hh hz hle hs
    simp only [List.length_cons] at hle
    have hlt : off + i < c.size := by omega
    have hblt : b < w.heap.size := by
      rcases Nat.lt_or_ge b w.heap.size with h | h
      · exact h
      · simp [Array.getElem?_eq_none h] at hh
    have hcell : w.cell? ⟨b, off + i, none⟩ = some c[off + i] := by simp [World.cell?, hh, hlt]
    have hfz : w.frozen? ⟨b, off + i, none⟩ = false := by
      have := hz (off + i) hlt
      simp only [World.frozen?, hh]
      simp only [not_and, Nat.not_lt] at this
      simp; exact this
    have h1 : (store (Addr.mk b (off + i) none) v).run P w = .ok () (w.setCell ⟨b, off + i, none⟩ v) := by
      have hv := hs v (by simp)
      cases v <;> first | (simp [Ev.single] at hv; done) | simp [store, Sem.run, hcell, hfz]
    have hset : w.setCell ⟨b, off + i, none⟩ v = { w with heap := w.heap.setIfInBounds b (.cells (c.setIfInBounds (off + i) v) T fz) } := by
      simp only [World.setCell]
      congr 1
      apply Array.ext_getElem?
      intro j
      rw [Array.getElem?_modify, Array.getElem?_setIfInBounds]
      by_cases e : b = j
      · subst e
        have hg := hh
        rw [Array.getElem?_eq_getElem hblt] at hg
        simp [hblt, Option.some.inj hg]
      · simp [e]
    obtain ⟨c', e, hc'⟩ := ih { w with heap := w.heap.setIfInBounds b (.cells (c.setIfInBounds (off + i) v) T fz) } b off (i + 1) (c.setIfInBounds (off + i) v) T fz
      (by simp [hblt]) (by simpa using hz) (by simp; omega) (fun x hx => hs x (by simp [hx]))
    refine ⟨c', ?_, ?_⟩
    · simp only [storeCells, addr_add, bind, Sem.run_bind', h1, Result.andThen_ok, hset, e]
      simp [Array.setIfInBounds_setIfInBounds]
    · rw [hc']
      simp only [Array.toList_setIfInBounds, List.length_cons]
      apply List.ext_getElem?
      intro n
      have hl : c.toList.length = c.size := by simp
      have m1 : min (off + (i + 1)) c.size = off + i + 1 := by omega
      have m2 : min (off + i) c.size = off + i := by omega
      simp only [List.getElem?_append, List.length_append, List.length_take, List.length_set, List.getElem?_take, List.getElem?_set, List.getElem?_drop, List.getElem?_cons, List.length_cons, hl, m1, m2]
      by_cases a1 : n < off + i
      · have a2 : n < off + i + 1 := by omega
        have a3 : n < off + i + 1 + vs.length := by omega
        have a4 : n < off + i + (vs.length + 1) := by omega
        have a5 : n < off + (i + 1) := by omega
        have a6 : off + i ≠ n := by omega
        simp [a1, a2, a3, a4, a5, a6]
      · by_cases a2 : n = off + i
        · subst a2
          have a5 : off + i < off + (i + 1) := by omega
          have a3 : off + i < off + i + 1 + vs.length := by omega
          simp [a3, a5, hlt]
        · have b1 : ¬ n < off + i + 1 := by omega
          by_cases a3 : n < off + i + 1 + vs.length
          · have a4 : n < off + i + (vs.length + 1) := by omega
            have a6 : n - (off + i) ≠ 0 := by omega
            have a7 : n - (off + i + 1) = n - (off + i) - 1 := by omega
            simp [a1, b1, a3, a4, a6, a7]
          · have a4 : ¬ n < off + i + (vs.length + 1) := by omega
            have a8 : off + (i + 1) + vs.length + (n - (off + i + 1 + vs.length)) = off + i + (vs.length + 1) + (n - (off + i + (vs.length + 1))) := by omega
            have a9 : off + i ≠ off + i + (vs.length + 1) + (n - (off + i + (vs.length + 1))) := by omega
            simp [a1, b1, a3, a4, a8, a9]


/-- A box is written, beyond what nobody writes any more. -/
theorem write_trans {μ : Nat → Nat} {M : Mem} {b : Nat} {bx : Box} (wf : Wf C M) (hb : pre b = some bx) (hn : bx.nl = false) (h : RepR C μ M b bx)
    {c c' : Array Value} {T : TypeId} {fz : Nat × Nat} (hh : M.w.heap[μ b]? = some (.cells c T fz)) (hs : c'.size = c.size) (hk : ∀ o, o < bx.pub → c'[o]? = c[o]?) :
    Trans C [b] pre μ M μ { M with w := { M.w with heap := M.w.heap.setIfInBounds (μ b) (.cells c' T fz) } } := by
  have hlt : μ b < M.w.heap.size := by
    rcases Nat.lt_or_ge (μ b) M.w.heap.size with h | h
    · exact h
    · simp [Array.getElem?_eq_none h] at hh
  have hne : ∀ blk, blk ≠ μ b → (M.w.heap.setIfInBounds (μ b) (.cells c' T fz))[blk]? = M.w.heap[blk]? := fun blk e => by
    rw [Array.getElem?_setIfInBounds, if_neg fun e' => e e'.symm]
  have heq : (M.w.heap.setIfInBounds (μ b) (.cells c' T fz))[μ b]? = some (.cells c' T fz) := by simp [hlt]
  have hcell : ∀ blk o, M.I blk o → ({ M.w with heap := M.w.heap.setIfInBounds (μ b) (.cells c' T fz) } : World).cell? ⟨blk, o, none⟩ = M.w.cell? ⟨blk, o, none⟩ := by
    intro blk o i
    by_cases e : blk = μ b
    · subst e
      have := hk o (h.imm o i)
      simp [World.cell?, heq, hh, this]
    · simp [World.cell?, hne blk e]
  have g : Grow C M { M with w := { M.w with heap := M.w.heap.setIfInBounds (μ b) (.cells c' T fz) } } :=
    ⟨by simp, fun blk o i => ⟨i, hcell blk o i⟩, fun _ s => s, fun blk x s e => by
      have : blk ≠ μ b := fun e' => h.sp (e' ▸ s)
      exact ⟨x, by rw [← e]; exact hne blk this, C.refl x⟩⟩
  refine ⟨g, ⟨fun blk o i => by simpa using wf.imm blk o i, fun blk s => by simpa using wf.sp blk s, fun g' flat hg => (wf.glob g' flat hg).mono g, fun g' vs hg => fix_mono g (wf.fix g' vs hg)⟩, rfl, rfl, rfl,
    fun blk h1 _ h3 => ⟨hne blk (h3 b (by simp) (by simp [hb, liveB, hn])), fun _ i => i⟩, fun _ _ s => s, fun blk c1 T1 fz1 e _ => ?_, fun _ _ => rfl⟩
  by_cases e' : blk = μ b
  · subst e'
    rw [hh] at e
    cases e
    exact ⟨c', fz, heq, hs⟩
  · exact ⟨c1, fz1, by rw [← e]; exact hne blk e', rfl⟩

/-- The same, where what is frozen behind it may change. -/
theorem write_trans' {μ : Nat → Nat} {M : Mem} {b : Nat} {bx : Box} (wf : Wf C M) (hb : pre b = some bx) (hn : bx.nl = false) (h : RepR C μ M b bx)
    {c c' : Array Value} {T : TypeId} {fz fz' : Nat × Nat} (hh : M.w.heap[μ b]? = some (.cells c T fz)) (hs : c'.size = c.size) (hk : ∀ o, o < bx.pub → c'[o]? = c[o]?) :
    Trans C [b] pre μ M μ { M with w := { M.w with heap := M.w.heap.setIfInBounds (μ b) (.cells c' T fz') } } := by
  have hlt : μ b < M.w.heap.size := by
    rcases Nat.lt_or_ge (μ b) M.w.heap.size with h | h
    · exact h
    · simp [Array.getElem?_eq_none h] at hh
  have hne : ∀ blk, blk ≠ μ b → (M.w.heap.setIfInBounds (μ b) (.cells c' T fz'))[blk]? = M.w.heap[blk]? := fun blk e => by
    rw [Array.getElem?_setIfInBounds, if_neg fun e' => e e'.symm]
  have heq : (M.w.heap.setIfInBounds (μ b) (.cells c' T fz'))[μ b]? = some (.cells c' T fz') := by simp [hlt]
  have hcell : ∀ blk o, M.I blk o → ({ M.w with heap := M.w.heap.setIfInBounds (μ b) (.cells c' T fz') } : World).cell? ⟨blk, o, none⟩ = M.w.cell? ⟨blk, o, none⟩ := by
    intro blk o i
    by_cases e : blk = μ b
    · subst e
      have := hk o (h.imm o i)
      simp [World.cell?, heq, hh, this]
    · simp [World.cell?, hne blk e]
  have g : Grow C M { M with w := { M.w with heap := M.w.heap.setIfInBounds (μ b) (.cells c' T fz') } } :=
    ⟨by simp, fun blk o i => ⟨i, hcell blk o i⟩, fun _ s => s, fun blk x s e => by
      have : blk ≠ μ b := fun e' => h.sp (e' ▸ s)
      exact ⟨x, by rw [← e]; exact hne blk this, C.refl x⟩⟩
  refine ⟨g, ⟨fun blk o i => by simpa using wf.imm blk o i, fun blk s => by simpa using wf.sp blk s, fun g' flat hg => (wf.glob g' flat hg).mono g, fun g' vs hg => fix_mono g (wf.fix g' vs hg)⟩, rfl, rfl, rfl,
    fun blk h1 _ h3 => ⟨hne blk (h3 b (by simp) (by simp [hb, liveB, hn])), fun _ i => i⟩, fun _ _ s => s, fun blk c1 T1 fz1 e _ => ?_, fun _ _ => rfl⟩
  by_cases e' : blk = μ b
  · subst e'
    rw [hh] at e
    cases e
    exact ⟨c', fz', heq, hs⟩
  · exact ⟨c1, fz1, by rw [← e]; exact hne blk e', rfl⟩

theorem pure_I {μ : Nat → Nat} {M : Mem} {a : AC} {v : Value} (hp : a.pure = true) (h : RepC C μ M a v) : RepI C M a v := by
  cases a with
  | ptr _ _ => simp [AC.pure] at hp
  | mref _ => simp [AC.pure] at hp
  | bself _ _ _ => simp [AC.pure] at hp
  | tsl _ _ _ _ => simp [AC.pure] at hp
  | sl _ _ _ _ => simp [AC.pure] at hp
  | junk => exact .junk v
  | lit _ => exact h
  | list _ _ => exact h
  | iptr _ => exact h
  | opq _ => exact h
  | clo _ _ _ => exact h

theorem ok_store {T : TypeId} {x y : Operand} {b off : Nat} {bx : Box} {cs : List AC} (hx : ρ x = .c (.ptr b off)) (hb : pre b = some bx) (hn : bx.nl = false) (ho : bx.obj = none) (hc : cellsOf (ρ y) = some cs)
    (hT : tySize C.P T = some cs.length) (hp : bx.pub ≤ off) (hle : off + cs.length ≤ bx.cells.length) (hrow : bx.row = true → cs.all (·.pure) = true) :
    OpOk C ⟨none, .store T x y, ty, pos, after, guard⟩ ρ [] pre (.c .junk) [(b, some { bx with cells := spliceA bx.cells cs off })] := by
  intro μ M a next Q wf hrep hbx _ k
  have h1 := hrep x (by simp [Op.operands]); rw [hx] at h1
  have h1 : a.eval x = .pointer (some ⟨μ b, off, none⟩) := h1
  obtain ⟨hr, hone⟩ := rep_cells hc (hrep y (by simp [Op.operands]))
  have hB := (hbx b (by simp [wrOf]) bx hb).2.1 hn ho
  obtain ⟨⟨c, Tb, fz, hh, hz, hl, hcell⟩, himm, hpl, hsp⟩ := hB
  have hsz := hr.1
  obtain ⟨c', e, hc'⟩ := run_storeCells (P := C.P) (a.eval y).cells.toList M.w (μ b) off 0 c Tb fz hh hz.no (by simp; omega) hone
  simp only [Nat.add_zero, Array.length_toList] at hc'
  have hsize : c'.size = c.size := by
    have := congrArg List.length hc'
    simp at this; omega
  have e' : (execOp a.eval ⟨none, .store T x y, ty, pos, after, guard⟩).run C.P M.w = .ok .skip { M.w with heap := M.w.heap.setIfInBounds (μ b) (.cells c' Tb fz) } := by
    have hsz' : (a.eval y).cells.size = cs.length := hsz
    simp [execOp, h1, Instr.storeAt, Instr.sureAddr, storeVar, run_sizeOf hT, hsz', e]
  have hpre : ∀ o, o < off → c'[o]? = c[o]? := fun o ho => by
    rw [← Array.getElem?_toList, hc', List.append_assoc, List.getElem?_append_left (by simp; omega), List.getElem?_take]
    simp [ho]
  have t := write_trans wf hb hn ⟨⟨c, Tb, fz, hh, hz, hl, hcell⟩, himm, hpl, hsp⟩ hh (c' := c') (by omega) (fun o ho => hpre o (by omega))
  have hlt : μ b < M.w.heap.size := by
    rcases Nat.lt_or_ge (μ b) M.w.heap.size with h | h
    · exact h
    · simp [Array.getElem?_eq_none h] at hh
  unfold Oper.wp
  rw [e']
  refine k undef μ _ trivial t ?_ ?_ ?_
  · intro b' hb' bx' hbx'
    simp [wrOf] at hb'
    subst hb'
    simp [postOf] at hbx'
    subst hbx'
    refine ⟨by simp [hn], fun _ _ => ⟨⟨c', Tb, fz, by simp [hlt], by rw [hsize]; exact hz, by simp [spliceA]; omega, fun i i1 i2 => ?_⟩, by simpa using himm, by simp [spliceA]; omega, hsp⟩, fun o h => by rw [show ({ bx with cells := spliceA bx.cells cs off } : Box).obj = none from ho] at h; cases h⟩
    -- the cells: those of the box that stay, and the new ones
    have hcs : RepCs C μ M bx.cells (c.extract 0 bx.cells.length) := ⟨by simp; omega, fun j j1 j2 => by
      have := (hcell j j1 (by omega)).1
      simpa using this⟩
    have hg : c'[i] = (c'.toList)[i]'(by simpa using i2) := by simp
    have hi : i < (bx.cells.take off ++ cs ++ bx.cells.drop (off + cs.length)).length := i1
    have huo : (c'.extract 0 bx.cells.length).toList = (c.extract 0 bx.cells.length).toList.take off ++ (a.eval y).cells.toList ++ (c.extract 0 bx.cells.length).toList.drop (off + (a.eval y).cells.size) := by
      simp only [Array.toList_extract, hc', List.extract_eq_take_drop, Nat.sub_zero, List.drop_zero]
      apply List.ext_getElem?
      intro n
      have hcl : c.toList.length = c.size := by simp
      have m1 : min off c.size = off := by omega
      have m2 : min bx.cells.length c.size = bx.cells.length := by omega
      have m3 : min off bx.cells.length = off := by omega
      simp only [List.getElem?_take, List.getElem?_append, List.length_append, List.length_take, List.getElem?_drop, hcl, m1, m2, m3, Array.length_toList]
      by_cases a0 : n < bx.cells.length
      · by_cases a1 : n < off
        · have a2 : n < off + (a.eval y).cells.size := by omega
          simp [a0, a1, a2]
        · by_cases a2 : n < off + (a.eval y).cells.size
          · simp [a0, a1, a2]
          · have a3 : off + (a.eval y).cells.size + (n - (off + (a.eval y).cells.size)) = n := by omega
            have a4 : ¬ n - (off + (a.eval y).cells.size) + (off + (a.eval y).cells.size) ≥ bx.cells.length ∨ True := .inr trivial
            simp [a0, a1, a2, a3]
      · have a1 : ¬ n < off := by omega
        have a2 : ¬ n < off + (a.eval y).cells.size := by omega
        have a3 : ¬ off + (a.eval y).cells.size + (n - (off + (a.eval y).cells.size)) < bx.cells.length := by omega
        simp [a0, a1, a2, a3]
    have hsp' := hcs.splice hr hle huo
    have hib : i < bx.cells.length := by
      have : (bx.cells.take off ++ cs ++ bx.cells.drop (off + cs.length)).length = bx.cells.length := by simp; omega
      omega
    have hrep1 := hsp'.2 i hi (by simp; omega)
    have hrep2 : RepC C μ M (bx.cells.take off ++ cs ++ bx.cells.drop (off + cs.length))[i] c'[i] := by simpa using hrep1
    refine ⟨RepC.trans t (fun _ _ => rfl) hrep2, fun hrw => ?_⟩
    refine RepI.mono t.grow ?_
    have hall := hrow hrw
    -- each cell of the row is of that kind
    by_cases a1 : i < off
    · have e1 : (bx.cells.take off ++ cs ++ bx.cells.drop (off + cs.length))[i] = bx.cells[i] := by
        rw [List.getElem_append_left (by simp; omega), List.getElem_append_left (by simp; omega), List.getElem_take]
      have e2 : c'[i] = c[i]'(by omega) := by
        have := hpre i a1
        rw [Array.getElem?_eq_getElem i2, Array.getElem?_eq_getElem (by omega)] at this
        exact Option.some.inj this
      show RepI C M (bx.cells.take off ++ cs ++ bx.cells.drop (off + cs.length))[i] c'[i]
      rw [e1, e2]; exact (hcell i hib (by omega)).2 hrw
    · by_cases a2 : i < off + cs.length
      · have l1 : (bx.cells.take off).length = off := by simp; omega
        have e1 : (bx.cells.take off ++ cs ++ bx.cells.drop (off + cs.length))[i] = cs[i - off]'(by omega) := by
          rw [List.getElem_append_left (by simp; omega), List.getElem_append_right (by omega)]
          simp only [l1]
        refine pure_I (μ := μ) ?_ hrep2
        show (bx.cells.take off ++ cs ++ bx.cells.drop (off + cs.length))[i].pure = true
        rw [e1]; exact List.all_eq_true.1 hall _ (List.getElem_mem _)
      · have l1 : (bx.cells.take off ++ cs).length = off + cs.length := by simp; omega
        have e1 : (bx.cells.take off ++ cs ++ bx.cells.drop (off + cs.length))[i] = bx.cells[i] := by
          rw [List.getElem_append_right (by omega)]
          simp only [l1, List.getElem_drop]
          congr 1; omega
        have e2 : c'[i] = c[i]'(by omega) := by
          have : c'.toList[i]? = c.toList[i]? := by
            rw [hc', List.getElem?_append_right (by simp; omega), List.getElem?_drop]
            congr 1; simp; omega
          rw [Array.getElem?_toList, Array.getElem?_toList, Array.getElem?_eq_getElem i2, Array.getElem?_eq_getElem (by omega)] at this
          exact Option.some.inj this
        show RepI C M (bx.cells.take off ++ cs ++ bx.cells.drop (off + cs.length))[i] c'[i]
        rw [e1, e2]; exact (hcell i hib (by omega)).2 hrw
  · intro x hx _
    simp [wrOf] at hx
    subst hx
    exact .inr ⟨x, by simp [wrOf], by simp [hb, liveB, hn], rfl⟩
  · intro x hx y hy _ _ _
    simp [wrOf] at hx hy
    rw [hx, hy]

end
end Go.Ev
/-
  A symbolic executor over abstract states, part 7b: more operations.
-/
namespace Go.Ev
set_option linter.unusedSimpArgs false
set_option linter.unusedVariables false

section ops
variable {C : Cfg} {dst : Option Tmp} {ty : TypeId} {pos : String} {after : Array Edge} {guard : Option (Nat × Bool)} {ρ : Operand → AV} {pre : Nat → Option Box}

/-! ### == of structs whose fields are single -/

def eqS (P : Program) (T : TypeId) : Value → Value → Option Bool
  | .int k a, .int k' b => if k = k' ∧ (tyInt P T).isSome = true then some (decide (a = b)) else none
  | .bool a, .bool b => if tyIs P T (· matches .bool) = true then some (a == b) else none
  | .string a, .string b => if tyIs P T (· matches .string) = true then some (decide (a = b)) else none
  | _, _ => none

theorem run_eqS {P : Program} {T : TypeId} {a b : Value} {r : Bool} (h : eqS P T a b = some r) (d : Nat) (w : World) : (Op.equalIn (d + 1) T a b).run P w = .ok r w := by
  unfold eqS at h
  split at h
  · rename_i k a k' b
    split at h
    · rename_i hh
      cases h
      obtain ⟨rfl, hi⟩ := hh
      unfold tyInt at hi
      split at hi
      · rename_i k' hu; rw [run_equalIn_int w d T k k' a b hu]; rfl
      · cases hi
    · cases h
  · rename_i a b
    split at h
    · rename_i hh; cases h; exact run_equalIn_bool hh d a b w
    · cases h
  · rename_i a b
    split at h
    · rename_i hh
      cases h
      unfold tyIs at hh
      split at hh
      · rename_i t hu
        cases t <;> simp at hh
        rw [run_equalIn_string w d T a b hu, ← beq_toListBytes]
        congr 1
        rw [Bool.eq_iff_iff]; simp only [decide_eq_true_eq]; exact ⟨fun e => by rw [beq_toListBytes] at e; have := eq_of_beq e; rw [ByteArray.toList_eq, ByteArray.toList_eq] at this; cases a; cases b; simp at this ⊢; exact this, fun e => by subst e; rw [beq_toListBytes]; exact beq_self_eq_true _⟩
      · cases hh
    · cases h
  · cases h

/-- Field by field, the i-th at the i-th cell. -/
def eqF (P : Program) : List Field → Nat → List AC → List AC → Option Bool
  | [], _, [], [] => some true
  | f :: fs, i, .lit a :: xs, .lit b :: ys =>
    if (f.name == "_") = false ∧ f.offset = i ∧ tyAgg P f.type = some false then
      match eqS P f.type a b, eqF P fs (i + 1) xs ys with
      | some r, some s => some (r && s)
      | _, _ => none
    else none
  | _, _, _, _ => none

theorem run_eqF {P : Program} (xs ys : Array Value) (d : Nat) (w : World) : ∀ (fs : List Field) (i : Nat) (as bs : List AC) (r : Bool), eqF P fs i as bs = some r →
    (∀ j, j < as.length → ∃ v, as[j]? = some (.lit v) ∧ xs[i + j]? = some v) → (∀ j, j < bs.length → ∃ v, bs[j]? = some (.lit v) ∧ ys[i + j]? = some v) →
    (Op.eqFields (d + 1) xs ys fs).run P w = .ok r w := by
  intro fs
  induction fs with
  | nil =>
    intro i as bs r h _ _
    cases as <;> cases bs <;> simp [eqF] at h
    subst h; simp [Op.eqFields]
  | cons f fs ih =>
    intro i as bs r h hx hy
    cases as with
    | nil => simp [eqF] at h
    | cons a0 as' =>
    cases bs with
    | nil => cases a0 <;> simp [eqF] at h
    | cons b0 bs' =>
    cases a0 with
    | lit a =>
      cases b0 with
      | lit b =>
        simp only [eqF] at h
        split at h
        · rename_i hh
          obtain ⟨hn, ho, ha⟩ := hh
          split at h
          · rename_i r1 s1 e1 e2
            cases h
            have hn' : f.name ≠ "_" := by simpa using hn
            obtain ⟨v, hv, hxi⟩ := hx 0 (by simp)
            obtain ⟨u, hu, hyi⟩ := hy 0 (by simp)
            simp at hv hu hxi hyi
            subst hv; subst hu
            have p1 : (part f.type xs f.offset).run P w = .ok a w := by
              simp only [part, bind, Sem.run_bind, run_isAgg ha, Result.andThen_ok, Bool.false_eq_true, if_false, ho, hxi]; rfl
            have p2 : (part f.type ys f.offset).run P w = .ok b w := by
              simp only [part, bind, Sem.run_bind, run_isAgg ha, Result.andThen_ok, Bool.false_eq_true, if_false, ho, hyi]; rfl
            have ih' := ih (i + 1) as' bs' s1 e2 (fun j hj => by
              obtain ⟨v, h1, h2⟩ := hx (j + 1) (by simpa using hj)
              exact ⟨v, by simpa using h1, by rw [show i + 1 + j = i + (j + 1) by omega]; exact h2⟩) (fun j hj => by
              obtain ⟨v, h1, h2⟩ := hy (j + 1) (by simpa using hj)
              exact ⟨v, by simpa using h1, by rw [show i + 1 + j = i + (j + 1) by omega]; exact h2⟩)
            rw [Op.eqFields]
            simp only [if_pos hn', bind, Sem.run_bind, p1, p2, run_eqS e1, Result.andThen_ok]
            cases r1
            · simp
            · simpa using ih'
          · cases h
        · cases h
      | _ => simp [eqF] at h
    | _ => simp [eqF] at h

def eqT (P : Program) (T : TypeId) (as bs : List AC) : Option Bool :=
  match P.underlying T with
  | some (.struct fs) => if P.stoodInHeld T = false ∧ P.eqGuardType P.depth T = false then eqF P fs.toList 0 as bs else none
  | _ => none

theorem RepCs_lits {μ : Nat → Nat} {M : Mem} {as : List AC} {v : Value} (h : Rep1 C μ M (.agg as) v) : ∃ xs : Array Value, v = .agg xs ∧ xs.size = as.length ∧ ∀ (j : Nat) (x : Value), as[j]? = some (AC.lit x) → xs[j]? = some x := by
  obtain ⟨vs, e, h1, h2⟩ := h
  refine ⟨vs, e, h1, fun j x hj => ?_⟩
  obtain ⟨hl, hx⟩ := List.getElem?_eq_some_iff.1 hj
  have hr := h2 j hl (by omega)
  rw [hx] at hr
  have : vs[j] = x := RepI.lit_eq hr
  rw [Array.getElem?_eq_getElem (by omega), this]

theorem eqF_lits {P : Program} : ∀ (fs : List Field) (i : Nat) (as bs : List AC) (r : Bool), eqF P fs i as bs = some r → (∀ j, j < as.length → ∃ v, as[j]? = some (AC.lit v)) ∧ (∀ j, j < bs.length → ∃ v, bs[j]? = some (AC.lit v)) := by
  intro fs
  induction fs with
  | nil =>
    intro i as bs r h
    cases as <;> cases bs <;> simp [eqF] at h
    simp
  | cons f fs ih =>
    intro i as bs r h
    cases as with
    | nil => simp [eqF] at h
    | cons a0 as' =>
    cases bs with
    | nil => cases a0 <;> simp [eqF] at h
    | cons b0 bs' =>
    cases a0 with
    | lit a =>
      cases b0 with
      | lit b =>
        simp only [eqF] at h
        split at h
        · split at h
          · rename_i r1 s1 e1 e2
            obtain ⟨h1, h2⟩ := ih _ _ _ _ e2
            refine ⟨fun j hj => ?_, fun j hj => ?_⟩
            · cases j with
              | zero => exact ⟨a, rfl⟩
              | succ j => simpa using h1 j (by simpa using hj)
            · cases j with
              | zero => exact ⟨b, rfl⟩
              | succ j => simpa using h2 j (by simpa using hj)
          · cases h
        · cases h
      | _ => simp [eqF] at h
    | _ => simp [eqF] at h

theorem ok_eq_agg {op : BinOp} {T T' : TypeId} {x y : Operand} {as bs : List AC} {r : Bool} (hop : op = .eql ∨ op = .neq) (hx : ρ x = .agg as) (hy : ρ y = .agg bs) (h : eqT C.P T as bs = some r) :
    OpOk C ⟨dst, .binOp op T x y T', ty, pos, after, guard⟩ ρ [] pre (.c (.lit (.bool (r == decide (op = .eql))))) [] :=
  opOk_pure fun μ M ac _ hr => by
    have h1 := hr x (by simp [Op.operands]); rw [hx] at h1
    have h2 := hr y (by simp [Op.operands]); rw [hy] at h2
    obtain ⟨xs, ex, _, hxs⟩ := RepCs_lits h1
    obtain ⟨ys, ey, _, hys⟩ := RepCs_lits h2
    unfold eqT at h
    split at h
    · rename_i fs hu
      split at h
      · rename_i hh
        obtain ⟨l1, l2⟩ := eqF_lits _ _ _ _ _ h
        have hf : C.P.fieldsOf T = fs := by simp [Program.fieldsOf, hu]
        have he : (Op.equalIn 10000 T (.agg xs) (.agg ys)).run C.P M.w = .ok r M.w := by
          rw [run_equalIn_struct (P := C.P) M.w 9999 T xs ys (by rw [hf]; exact hu) hh.1, hf]
          exact run_eqF xs ys 9998 M.w fs.toList 0 as bs r h (fun j hj => by obtain ⟨v, e⟩ := l1 j hj; exact ⟨v, e, by rw [Nat.zero_add]; exact hxs j v e⟩)
            (fun j hj => by obtain ⟨v, e⟩ := l2 j hj; exact ⟨v, e, by rw [Nat.zero_add]; exact hys j v e⟩)
        refine ⟨.bool (r == decide (op = .eql)), ?_, RepI.lit _⟩
        rcases hop with rfl | rfl
        · simp only [execOp, ex, ey, bind, Sem.run_bind, run_eqGuard_agg M.w .eql T x y xs ys hh.2, Result.andThen_ok, run_eql_struct, he]; cases r <;> rfl
        · simp only [execOp, ex, ey, bind, Sem.run_bind, run_eqGuard_agg M.w .neq T x y xs ys hh.2, Result.andThen_ok, run_neq_struct, he]; cases r <;> rfl
      · cases h
    · cases h

/-! ### min, max -/

theorem ok_min {x y : Operand} {k k' : IntKind} {a b : Int} {ats : Array TypeId} (hx : ρ x = .c (.lit (.int k a))) (hy : ρ y = .c (.lit (.int k' b))) :
    OpOk C ⟨dst, .call ⟨.builtin .min, #[x, y], ats⟩, ty, pos, after, guard⟩ ρ [] pre (.c (.lit (.int k (if b < a then b else a)))) [] :=
  opOk_pure fun μ M ac _ hr => by
    have h1 := hr x (by simp [Op.operands, Call.operands]); rw [hx] at h1
    have h2 := hr y (by simp [Op.operands, Call.operands]); rw [hy] at h2
    have h1 : ac.eval x = .int k a := RepI.lit_eq h1
    have h2 : ac.eval y = .int k' b := RepI.lit_eq h2
    refine ⟨.int k (if b < a then b else a), ?_, RepI.lit _⟩
    simp [execOp, resolve, invoke, builtin, Builtin.min_, Builtin.min2, h1, h2]
theorem ok_max {x y : Operand} {k k' : IntKind} {a b : Int} {ats : Array TypeId} (hx : ρ x = .c (.lit (.int k a))) (hy : ρ y = .c (.lit (.int k' b))) :
    OpOk C ⟨dst, .call ⟨.builtin .max, #[x, y], ats⟩, ty, pos, after, guard⟩ ρ [] pre (.c (.lit (.int k (if a < b then b else a)))) [] :=
  opOk_pure fun μ M ac _ hr => by
    have h1 := hr x (by simp [Op.operands, Call.operands]); rw [hx] at h1
    have h2 := hr y (by simp [Op.operands, Call.operands]); rw [hy] at h2
    have h1 : ac.eval x = .int k a := RepI.lit_eq h1
    have h2 : ac.eval y = .int k' b := RepI.lit_eq h2
    refine ⟨.int k (if a < b then b else a), ?_, RepI.lit _⟩
    simp [execOp, resolve, invoke, builtin, Builtin.max_, Builtin.max2, h1, h2]

/-! ### a new slice -/

/-- A new row, and a slice over all of it. -/
theorem ok_newSl {op : Op} {d n sz : Nat} {cs : List AC} (hd : pre d = none) (hm : menL d cs = false) (hsz : n * sz ≤ cs.length)
    (h : ∀ μ M (a : Act), Wf C M → (∀ x ∈ op.operands, RepV C μ M (ρ x) (a.eval x)) → ∃ vs T, RepCs C μ M cs vs ∧
      (execOp a.eval ⟨some d, op, ty, pos, after, guard⟩).run C.P M.w = .ok (.value (.slice (some ⟨M.w.heap.size, 0, none⟩) n n)) { M.w with heap := M.w.heap.push (.cells vs T) }) :
    OpOk C ⟨some d, op, ty, pos, after, guard⟩ ρ [] pre (.c (.sl d n sz false)) [(d, some { cells := cs })] := by
  intro μ M a next Q wf hr _ _ k
  obtain ⟨vs, T, hvs, e⟩ := h μ M a wf hr
  unfold Oper.wp
  rw [e]
  have t := new_trans (C := C) (μ := μ) wf hd (.cells vs T)
  refine k (.slice (some ⟨M.w.heap.size, 0, none⟩) n n) (upd μ d M.w.heap.size) _ ?_ t ?_ ?_ ?_
  · refine ⟨n, vs, T, (0, 0), by simp [upd], Nat.le_refl _, by simp [upd], by rw [hvs.1]; exact hsz, ?_⟩
    simp only [upd, if_true]
    intro hs; exact absurd (wf.sp _ hs) (Nat.lt_irrefl _)
  · intro b hb bx hbx
    simp [wrOf] at hb
    subst hb
    simp [postOf] at hbx
    subst hbx
    exact rep_new wf hd T hm hvs
  · intro x hx _
    simp [wrOf] at hx
    subst hx
    left; simp [upd]
  · intro x hx y hy _ _ _
    simp [wrOf] at hx hy
    rw [hx, hy]

/-- An element's size, and the cells of so many zeros. -/
def rowZ (P : Program) (T : TypeId) (len : Nat) : Option (Nat × List AC) :=
  match tySlice P T with
  | some E => match tySize P E with
    | some n => if len * n > 2 ^ 24 then none else
      if len * n = 0 then some (n, []) else
      match tyZero P E with
      | some z => some (n, (List.range (len * n)).map fun i => .lit z.cells[i % z.cells.size]!)
      | none => none
    | none => none
  | none => none

theorem fillA_length {place : Nat → Option (Nat × Nat)} : ∀ (parts : List (Nat × AV)) (cells r : List AC), fillA place cells parts = some r → r.length = cells.length := by
  intro parts
  induction parts with
  | nil => intro cells r h; simp [fillA] at h; rw [h]
  | cons p parts ih =>
    intro cells r h
    obtain ⟨i, v⟩ := p
    simp only [fillA] at h
    split at h
    · rename_i off size cs _ _
      split at h
      · cases h
      · rename_i hh
        have := ih _ _ h
        rw [this]
        simp only [List.length_append, List.length_take, List.length_drop]
        omega
    · cases h

theorem ok_buildSlice {T : TypeId} {len d n : Nat} {parts : Array (Nat × Operand)} {z cs : List AC} (hd : pre d = none) (hz : rowZ C.P T len = some (n, z))
    (hf : fillA (fun i => some (i * n, n)) z (parts.toList.map fun p => (p.1, ρ p.2)) = some cs) (hm : menL d cs = false) :
    OpOk C ⟨some d, .buildSlice T len parts, ty, pos, after, guard⟩ ρ [] pre (.c (.sl d len n false)) [(d, some { cells := cs })] := by
  unfold rowZ at hz
  split at hz
  · rename_i E hE
    split at hz
    · rename_i n' hn
      split at hz
      · cases hz
      · rename_i hbig
        have hu : C.P.underlying T = some (.slice E) := by
          unfold tySlice at hE
          split at hE
          · cases hE; assumption
          · cases hE
        have key : ∀ (zc : Array Value), z = (List.range (len * n)).map (fun i => AC.lit zc[i % zc.size]!) → n' = n →
            ((len * n' = 0 ∧ zc = #[]) ∨ (len * n' ≠ 0 ∧ ∃ zv, tyZero C.P E = some zv ∧ zc = zv.cells)) →
            OpOk C ⟨some d, .buildSlice T len parts, ty, pos, after, guard⟩ ρ [] pre (.c (.sl d len n false)) [(d, some { cells := cs })] := by
          intro zc ez en ezr
          subst en
          refine ok_newSl hd hm (by rw [fillA_length _ _ _ hf, ez]; simp) fun μ M a _ hr => ?_
          obtain ⟨us, e, hus⟩ := fill_rep (C := C) (μ := μ) (M := M) (parts.toList.map fun p => (p.1, ρ p.2)) (parts.toList.map fun p => (p.1, a.eval p.2)) z ((Array.range (len * n')).map fun i => zc[i % zc.size]!) cs (by simp)
            (fun i h h' => ⟨by simp, by
              have hi : i < parts.size := by simpa using h
              have := hr parts[i].2 (by simp only [Op.operands, List.mem_toArray, List.mem_map]; exact ⟨parts[i], by simp [Array.getElem_mem], rfl⟩)
              simpa using this⟩)
            ⟨by simp [ez], fun i h1 h2 => by subst ez; simp only [List.getElem_map, Array.getElem_map, List.getElem_range, Array.getElem_range]; exact RepI.lit _⟩ hf
          refine ⟨us, E, hus, ?_⟩
          have hparts : (parts.map fun (x : Nat × Operand) => (x.1, a.eval x.2)).toList = parts.toList.map fun p => (p.1, a.eval p.2) := by simp
          have hs : (sizeOf E).run C.P M.w = .ok n' M.w := run_sizeOf hn M.w
          have hp : ∀ {α : Type} (v : α) (w : World), (Sem.pure v : Sem α).run C.P w = .ok v w := fun _ _ => rfl
          rcases ezr with ⟨h0, rfl⟩ | ⟨h0, zv, hzv, rfl⟩
          · simp only [execOp, Instr.buildSlice, Sem.run_bind', bind, run_underlying hu, Result.andThen_ok, hs, if_neg hbig, if_pos h0, Sem.run_pure, pure, hparts]
            simp only [hp, Result.andThen_ok]
            simp only [e]
            rfl
          · simp only [execOp, Instr.buildSlice, Sem.run_bind', bind, run_underlying hu, Result.andThen_ok, hs, if_neg hbig, if_neg h0, run_zero hzv, Sem.run_pure, pure, hparts]
            simp only [hp, Result.andThen_ok]
            simp only [e]
            rfl
        split at hz
        · rename_i h0
          simp only [Option.some.injEq, Prod.mk.injEq] at hz
          obtain ⟨rfl, rfl⟩ := hz
          exact key #[] (by simp [h0]) rfl (.inl ⟨h0, rfl⟩)
        · rename_i h0
          split at hz
          · rename_i zv hzv
            simp only [Option.some.injEq, Prod.mk.injEq] at hz
            obtain ⟨rfl, rfl⟩ := hz
            exact key zv.cells rfl rfl (.inr ⟨h0, zv, hzv, rfl⟩)
          · cases hz
    · cases hz
  · cases hz
end ops
end Go.Ev
