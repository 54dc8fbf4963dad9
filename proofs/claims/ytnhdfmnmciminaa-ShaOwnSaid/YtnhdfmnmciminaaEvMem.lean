/-
  A symbolic executor over abstract states, part 1: memory, what abstract values stand for, and what growth of memory keeps.
-/
import Derived.Calls
import Derived.Orders
namespace Go.Ev

/-- A memory: the world; the cells that nobody writes any more; the blocks that live by a rule of their own. -/
structure Mem where
  w : World
  I : Nat → Nat → Prop
  Sp : Nat → Prop

/-- Abstract cells: a value; a list in memory that nobody writes; the address of cells that nobody writes; an address in a box; a slice over a whole box (of n elements of sz cells; nl: it is nil); a value of which a fact is known; a function value, by what it bears; anything. -/
inductive AC where
  | lit (v : Value)
  | list (n : Nat) (flat : List AC)
  | iptr (flat : List AC)
  | ptr (b off : Nat)
  | sl (b n sz : Nat) (nl : Bool)
  | opq (p : Mem → Value → Prop)
  | clo (k : Nat) (fs cs : List AC)
  | junk

structure Cfg where
  P : Program
  G : Nat → Option (List AC)
  R : Obj → Obj → Prop
  refl : ∀ o, R o o
  trans : ∀ a b c, R a b → R b c → R a c

structure Grow (C : Cfg) (M M' : Mem) : Prop where
  size : M.w.heap.size ≤ M'.w.heap.size
  imm : ∀ b o, M.I b o → M'.I b o ∧ M'.w.cell? ⟨b, o, none⟩ = M.w.cell? ⟨b, o, none⟩
  sp : ∀ b, M.Sp b → M'.Sp b
  spR : ∀ b x, M.Sp b → M.w.heap[b]? = some x → ∃ y, M'.w.heap[b]? = some y ∧ C.R x y

theorem Grow.refl (C : Cfg) (M : Mem) : Grow C M M :=
  ⟨Nat.le_refl _, fun _ _ h => ⟨h, rfl⟩, fun _ h => h, fun _ x _ h => ⟨x, h, C.refl x⟩⟩

theorem Grow.trans {C : Cfg} {A B D : Mem} (h : Grow C A B) (k : Grow C B D) : Grow C A D :=
  ⟨Nat.le_trans h.size k.size,
   fun b o i => ⟨(k.imm b o (h.imm b o i).1).1, (k.imm b o (h.imm b o i).1).2.trans (h.imm b o i).2⟩,
   fun b s => k.sp b (h.sp b s),
   fun b x s e => by
     obtain ⟨y, hy, r⟩ := h.spR b x s e
     obtain ⟨z, hz, r'⟩ := k.spR b y (h.sp b s) hy
     exact ⟨z, hz, C.trans _ _ _ r r'⟩⟩

inductive AV where
  | c (a : AC)
  | agg (cs : List AC)
  | tup (vs : List AV)

/-- A value of one cell. -/
def single : Value → Bool
  | .agg _ | .tuple _ => false
  | _ => true

inductive RepI (C : Cfg) (M : Mem) : AC → Value → Prop
  | lit (v : Value) : RepI C M (.lit v) v
  | list (a : Option Addr) (n cap : Nat) (flat : List AC) (blk off : Nat) (c : Nat → Value) (hn : n ≤ cap)
      (ha : flat ≠ [] → a = some ⟨blk, off, none⟩)
      (hc : ∀ i, i < flat.length → M.I blk (off + i) ∧ M.w.cell? ⟨blk, off + i, none⟩ = some (c i))
      (hr : ∀ i (h : i < flat.length), RepI C M (flat[i]) (c i)) : RepI C M (.list n flat) (.slice a n cap)
  | iptr (flat : List AC) (blk off : Nat) (c : Nat → Value)
      (hc : ∀ i, i < flat.length → M.I blk (off + i) ∧ M.w.cell? ⟨blk, off + i, none⟩ = some (c i))
      (hr : ∀ i (h : i < flat.length), RepI C M (flat[i]) (c i)) : RepI C M (.iptr flat) (.pointer (some ⟨blk, off, none⟩))
  | opq (p : Mem → Value → Prop) (v : Value) (h : p M v) (st : ∀ M M' v, Grow C M M' → p M v → p M' v) (one : single v = true) : RepI C M (.opq p) v
  | clo (k : Nat) (fs cs : List AC) (vf vc : Array Value) (h1 : vf.size = fs.length) (h2 : vc.size = cs.length) (h3 : ∀ i (h : i < fs.length) (h' : i < vf.size), RepI C M fs[i] vf[i])
      (h4 : ∀ i (h : i < cs.length) (h' : i < vc.size), RepI C M cs[i] vc[i]) : RepI C M (.clo k fs cs) (.func (.func k) vf vc)
  | junk (v : Value) : RepI C M .junk v

theorem RepI.lit_eq {C : Cfg} {M : Mem} {v x : Value} (h : RepI C M (.lit v) x) : x = v := by
  generalize hx : AC.lit v = a at h
  cases h <;> simp_all

theorem RepI.mono {C : Cfg} {M M' : Mem} (g : Grow C M M') {a : AC} {v : Value} (h : RepI C M a v) : RepI C M' a v := by
  induction h with
  | lit v => exact .lit v
  | list a n cap flat blk off c hn ha hc hr ih =>
    exact .list a n cap flat blk off c hn ha (fun i hi => ⟨(g.imm _ _ (hc i hi).1).1, (g.imm _ _ (hc i hi).1).2.trans (hc i hi).2⟩) ih
  | iptr flat blk off c hc hr ih => exact .iptr flat blk off c (fun i hi => ⟨(g.imm _ _ (hc i hi).1).1, (g.imm _ _ (hc i hi).1).2.trans (hc i hi).2⟩) ih
  | opq p v h st one => exact .opq p v (st _ _ _ g h) st one
  | clo k fs cs vf vc h1 h2 h3 h4 ih3 ih4 => exact .clo k fs cs vf vc h1 h2 ih3 ih4
  | junk v => exact .junk v

structure Wf (C : Cfg) (M : Mem) : Prop where
  imm : ∀ b o, M.I b o → b < M.w.heap.size ∧ ¬ M.Sp b
  sp : ∀ b, M.Sp b → b < M.w.heap.size
  glob : ∀ g flat, C.G g = some flat → RepI C M (.iptr flat) (.pointer (some ⟨g, 0, none⟩))

def RepC (C : Cfg) (μ : Nat → Nat) (M : Mem) : AC → Value → Prop
  | .ptr b off, v => v = .pointer (some ⟨μ b, off, none⟩)
  | .sl _ n _ true, v => n = 0 ∧ v = .slice none 0 0
  | .sl b n sz false, v => ∃ cap c T fz, v = .slice (some ⟨μ b, 0, none⟩) n cap ∧ n ≤ cap ∧ M.w.heap[μ b]? = some (.cells c T fz) ∧ cap * sz ≤ c.size ∧ ¬ M.Sp (μ b)
  | .junk, _ => True
  | a, v => RepI C M a v

theorem RepC.of_I {C : Cfg} {μ : Nat → Nat} {M : Mem} {a : AC} {v : Value} (h : RepI C M a v) : RepC C μ M a v := by
  cases h with
  | lit => exact .lit _
  | list a n cap flat blk off c hn ha hc hr => exact .list a n cap flat blk off c hn ha hc hr
  | iptr flat blk off c hc hr => exact .iptr flat blk off c hc hr
  | opq p v h st one => exact .opq p v h st one
  | clo k fs cs vf vc h1 h2 h3 h4 => exact .clo k fs cs vf vc h1 h2 h3 h4
  | junk => trivial

/-- The cells of an array of values stand for a list of abstract cells. -/
def RepCs (C : Cfg) (μ : Nat → Nat) (M : Mem) (cs : List AC) (vs : Array Value) : Prop :=
  vs.size = cs.length ∧ ∀ i (h : i < cs.length) (h' : i < vs.size), RepC C μ M cs[i] vs[i]

def Rep1 (C : Cfg) (μ : Nat → Nat) (M : Mem) : AV → Value → Prop
  | .c a, v => RepC C μ M a v
  | .agg cs, v => ∃ vs, v = .agg vs ∧ RepCs C μ M cs vs
  | .tup _, _ => False

def RepV (C : Cfg) (μ : Nat → Nat) (M : Mem) : AV → Value → Prop
  | .tup xs, v => ∃ vs : Array Value, v = .tuple vs ∧ vs.size = xs.length ∧ ∀ i (h : i < xs.length) (h' : i < vs.size), Rep1 C μ M xs[i] vs[i]
  | a, v => Rep1 C μ M a v

/-- Does an abstract cell name box b? -/
def AC.men (b : Nat) : AC → Bool
  | .ptr b' _ => b' == b
  | .sl b' _ _ _ => b' == b
  | _ => false

def men1 (b : Nat) : AV → Bool
  | .c a => a.men b
  | .agg cs => cs.any (·.men b)
  | .tup _ => false

def AV.men (b : Nat) : AV → Bool
  | .tup xs => xs.any (men1 b)
  | a => men1 b a

/-- A box: a variable, or the array behind a slice: its cells; how many of them, from the first on, nobody writes any more; nl: there is none, it is nil's; row: no cell names a box. -/
structure Box where
  cells : List AC
  pub : Nat := 0
  nl : Bool := false
  row : Bool := false

def Box.men (b : Nat) (bx : Box) : Bool := !bx.row && bx.cells.any (·.men b)

def liveB : Option Box → Bool
  | some bx => !bx.nl
  | none => false

/-- No cell of a row is frozen. -/
def FzOk (fz : Nat × Nat) (n : Nat) : Prop := fz.1 = fz.2 ∨ n ≤ fz.1
theorem FzOk.no {fz : Nat × Nat} {n : Nat} (h : FzOk fz n) : ∀ o, o < n → ¬ (fz.1 ≤ o ∧ o < fz.2) := fun o ho hh => by
  rcases h with h | h <;> omega

structure RepR (C : Cfg) (μ : Nat → Nat) (M : Mem) (b : Nat) (bx : Box) : Prop where
  cells : ∃ c T fz, M.w.heap[μ b]? = some (.cells c T fz) ∧ FzOk fz c.size ∧ bx.cells.length ≤ c.size ∧
    ∀ i (h : i < bx.cells.length) (h' : i < c.size), RepC C μ M bx.cells[i] c[i] ∧ (bx.row = true → RepI C M bx.cells[i] c[i])
  imm : ∀ o, M.I (μ b) o → o < bx.pub
  le : bx.pub ≤ bx.cells.length
  sp : ¬ M.Sp (μ b)

def RepB (C : Cfg) (μ : Nat → Nat) (M : Mem) (b : Nat) (bx : Box) : Prop :=
  (bx.nl = true → bx.cells = [] ∧ bx.pub = 0) ∧ (bx.nl = false → RepR C μ M b bx)

/-- What an operation may do to memory: of the blocks that were there only those of the boxes 'wr' (as far as they were there: 'pre') are written, where they may be. -/
structure Trans (C : Cfg) (wr : List Nat) (pre : Nat → Option Box) (μ : Nat → Nat) (M : Mem) (μ' : Nat → Nat) (M' : Mem) : Prop where
  grow : Grow C M M'
  wf : Wf C M'
  os : M'.w.os = M.w.os
  tape : M'.w.tape = M.w.tape
  output : M'.w.output = M.w.output
  fr : ∀ blk, blk < M.w.heap.size → ¬ M.Sp blk → (∀ b ∈ wr, liveB (pre b) = true → blk ≠ μ b) → M'.w.heap[blk]? = M.w.heap[blk]? ∧ ∀ o, M'.I blk o → M.I blk o
  spb : ∀ blk, blk < M.w.heap.size → M'.Sp blk → M.Sp blk
  wid : ∀ blk c T fz, M.w.heap[blk]? = some (.cells c T fz) → ¬ M.Sp blk → ∃ c' T' fz', M'.w.heap[blk]? = some (.cells c' T' fz') ∧ c.size ≤ c'.size
  mu : ∀ b, (b ∈ wr → pre b ≠ none) → μ' b = μ b

theorem RepC.trans {C : Cfg} {wr : List Nat} {pre : Nat → Option Box} {μ μ' : Nat → Nat} {M M' : Mem} (t : Trans C wr pre μ M μ' M')
    {a : AC} {v : Value} (hm : ∀ b, a.men b = true → μ' b = μ b) (h : RepC C μ M a v) : RepC C μ' M' a v := by
  cases a with
  | lit x => exact RepI.mono t.grow h
  | list n flat => exact RepI.mono t.grow h
  | iptr flat => exact RepI.mono t.grow h
  | opq p => exact RepI.mono t.grow h
  | clo k fs cs => exact RepI.mono t.grow h
  | junk => trivial
  | ptr b off =>
    have e : μ' b = μ b := hm b (by simp [AC.men])
    simp only [RepC] at h ⊢
    rw [e]; exact h
  | sl b n sz nl =>
    have e : μ' b = μ b := hm b (by simp [AC.men])
    cases nl with
    | true => exact h
    | false =>
      obtain ⟨cap, c, T, fz, hv, hn, hb, hz, hs⟩ := h
      obtain ⟨c', T', fz', hb', hz'⟩ := t.wid _ _ _ _ hb hs
      have hlt : μ b < M.w.heap.size := by
        rcases Nat.lt_or_ge (μ b) M.w.heap.size with h | h
        · exact h
        · simp [Array.getElem?_eq_none h] at hb
      exact ⟨cap, c', T', fz', by rw [e]; exact hv, hn, by rw [e]; exact hb', Nat.le_trans hz hz', by rw [e]; exact fun s => hs (t.spb _ hlt s)⟩

theorem RepCs.trans {C : Cfg} {wr : List Nat} {pre : Nat → Option Box} {μ μ' : Nat → Nat} {M M' : Mem} (t : Trans C wr pre μ M μ' M')
    {cs : List AC} {vs : Array Value} (hm : ∀ b, cs.any (·.men b) = true → μ' b = μ b) (h : RepCs C μ M cs vs) : RepCs C μ' M' cs vs :=
  ⟨h.1, fun i hi hi' => (h.2 i hi hi').trans t fun b hb => hm b (List.any_eq_true.2 ⟨_, List.getElem_mem hi, hb⟩)⟩

theorem Rep1.trans {C : Cfg} {wr : List Nat} {pre : Nat → Option Box} {μ μ' : Nat → Nat} {M M' : Mem} (t : Trans C wr pre μ M μ' M')
    {a : AV} {v : Value} (hm : ∀ b, men1 b a = true → μ' b = μ b) (h : Rep1 C μ M a v) : Rep1 C μ' M' a v := by
  cases a with
  | c a => exact RepC.trans t hm h
  | agg cs => obtain ⟨vs, e, h⟩ := h; exact ⟨vs, e, h.trans t hm⟩
  | tup _ => exact h

theorem RepV.trans {C : Cfg} {wr : List Nat} {pre : Nat → Option Box} {μ μ' : Nat → Nat} {M M' : Mem} (t : Trans C wr pre μ M μ' M')
    {a : AV} {v : Value} (hm : ∀ b, a.men b = true → μ' b = μ b) (h : RepV C μ M a v) : RepV C μ' M' a v := by
  cases a with
  | c a => exact Rep1.trans (a := .c a) t hm h
  | agg cs => exact Rep1.trans (a := .agg cs) t hm h
  | tup xs =>
    obtain ⟨vs, e, hs, h⟩ := h
    exact ⟨vs, e, hs, fun i hi hi' => (h i hi hi').trans t fun b hb => hm b (List.any_eq_true.2 ⟨_, List.getElem_mem hi, hb⟩)⟩

theorem RepB.trans {C : Cfg} {wr : List Nat} {pre : Nat → Option Box} {μ μ' : Nat → Nat} {M M' : Mem} (t : Trans C wr pre μ M μ' M')
    {b : Nat} {bx : Box} (hb : b ∉ wr) (hd : bx.nl = false → ∀ b' ∈ wr, liveB (pre b') = true → μ b ≠ μ b') (hm : ∀ b', bx.men b' = true → μ' b' = μ b')
    (h : RepB C μ M b bx) : RepB C μ' M' b bx := by
  refine ⟨h.1, fun hn => ?_⟩
  obtain ⟨⟨c, T, fz, hh, hz, hl, hc⟩, hi, hle, hs⟩ := h.2 hn
  have e : μ' b = μ b := t.mu b fun h => absurd h hb
  have hlt : μ b < M.w.heap.size := by
    rcases Nat.lt_or_ge (μ b) M.w.heap.size with h | h
    · exact h
    · simp [Array.getElem?_eq_none h] at hh
  obtain ⟨f1, f2⟩ := t.fr (μ b) hlt hs (hd hn)
  refine ⟨⟨c, T, fz, by rw [e, f1]; exact hh, hz, hl, fun i h1 h2 => ?_⟩, fun o => ?_, hle, by rw [e]; exact fun s => hs (t.spb _ hlt s)⟩
  · cases hr : bx.row with
    | false =>
      exact ⟨(hc i h1 h2).1.trans t fun b' hb' => hm b' (by simp only [Box.men, hr, Bool.not_false, Bool.true_and]; exact List.any_eq_true.2 ⟨_, List.getElem_mem h1, hb'⟩), by simp⟩
    | true => exact ⟨.of_I (((hc i h1 h2).2 hr).mono t.grow), fun _ => ((hc i h1 h2).2 hr).mono t.grow⟩
  · rw [e]
    exact fun h => hi o (f2 o h)

end Go.Ev
