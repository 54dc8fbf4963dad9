/-
  A symbolic executor over abstract states, part 7c: texts, slices, appends.
-/
import Derived.Test.YtnhdfmnmciminaaEvMore
import Derived.Deep.DeepAppendWide
namespace Go.Ev
set_option linter.unusedSimpArgs false
set_option linter.unusedVariables false

/-- An element's type, its cells, its bytes, its zero's cells: of a slice type. -/
structure Elt where
  e : TypeId
  sz : Nat
  by' : Nat
  z : Array Value

def eltOf (P : Program) (T : TypeId) : Option Elt :=
  match tySlice P T with
  | some E => match tySize P E, tyBytes P E, tyZero P E with
    | some sz, some b, some z => if z.cells.size = sz ∧ (z.cells.toList.all Ev.single) = true then some ⟨E, sz, b, z.cells⟩ else none
    | _, _, _ => none
  | none => none

theorem eltOf_some {P : Program} {T : TypeId} {x : Elt} (h : eltOf P T = some x) : P.underlying T = some (.slice x.e) ∧ tySize P x.e = some x.sz ∧ tyBytes P x.e = some x.by' ∧
    (∃ z, tyZero P x.e = some z ∧ z.cells = x.z) ∧ x.z.size = x.sz ∧ (x.z.toList.all Ev.single) = true := by
  unfold eltOf at h
  split at h
  · rename_i E hE
    split at h
    · rename_i sz b z h1 h2 h3
      split at h
      · rename_i hs
        cases h
        refine ⟨?_, h1, h2, ⟨z, h3, rfl⟩, hs.1, hs.2⟩
        unfold tySlice at hE
        cases hu : P.underlying T with
        | none => simp [hu] at hE
        | some d => cases d <;> simp [hu] at hE; rw [hE]
      · cases h
    · cases h
  · cases h

theorem run_bytesOf {P : Program} {T : TypeId} {n : Nat} (h : tyBytes P T = some n) (w : World) : ∃ i, (typeInfo T).run P w = .ok i w ∧ i.bytes = n := by
  unfold tyBytes at h
  cases hi : P.info? T with
  | none => simp [hi] at h
  | some i => simp [hi] at h; exact ⟨i, by simp [typeInfo, hi], h⟩

/-- Whether a value is what 'append' may take behind a slice: so many elements, these cells. -/
structure Behind (P : Program) (w : World) (sz : Nat) (u : TypeId) (x : Value) (m : Nat) (new : Array Value) : Prop where
  ty : (∃ e, P.underlying u = some (.slice e)) ∨ P.underlying u = some .string
  len : ∀ w : World, (Builtin.lenOf x).run P w = .ok m w
  first : ∀ w' : World, w'.heap = w.heap → (Builtin.firstCells sz m x).run P w' = .ok new w'
  size : new.size = m * sz

theorem run_append_fit {P : Program} {w w' : World} {T u ty : TypeId} {el : Elt} (he : eltOf P T = some el) {a : Option Addr} {n cap : Nat} {x : Value} {m : Nat} {new : Array Value}
    (hb : Behind P w el.sz u x m new) (hfit : n + m ≤ cap) (hst : ∀ ad, a = some ad → (storeCells (ad.add (n * el.sz)) new.toList).run P w = .ok () w') (hn : a = none → w' = w) :
    (Builtin.append_ #[T, u] ty #[.slice a n cap, x]).run P w = .ok (.slice a (n + m) cap) w' := by
  obtain ⟨hu, hs, hby, ⟨z, hz, hzc⟩, hzs, _⟩ := eltOf_some he
  rcases hb.ty with ⟨e, hd⟩ | hd <;> cases a with
  | none =>
    have := hn rfl
    subst this
    simp [Builtin.append_, run_underlying hu, run_underlying hd, run_sizeOf hs, hb.len, hfit, hb.first w' rfl]
  | some ad =>
    have := hst ad rfl
    simp [Builtin.append_, run_underlying hu, run_underlying hd, run_sizeOf hs, hb.len, hfit, hb.first w rfl, this]

theorem run_append_new {P : Program} {w : World} {T u ty : TypeId} {el : Elt} (he : eltOf P T = some el) {a : Option Addr} {n cap : Nat} {x : Value} {m : Nat} {new old : Array Value}
    (hb : Behind P w el.sz u x m new) (hfit : ¬ n + m ≤ cap) (hle : n ≤ cap) (hold : ∀ w' : World, w'.heap = w.heap → (Builtin.firstCells el.sz n (.slice a n cap)).run P w' = .ok old w')
    (hbig : ((n + m) + (n + m) / 4 + 192) * el.by' ≤ 281474976710656) (hlen : n + m ≤ 9223372036854775807) :
    ∃ (nc : Nat) (w1 : World), n + m ≤ nc ∧ w1.heap = w.heap ∧ w1.os = w.os ∧ w1.tape = w.tape ∧ w1.output = w.output ∧
      (Builtin.append_ #[T, u] ty #[.slice a n cap, x]).run P w = .ok (.slice (some ⟨w.heap.size, 0, none⟩) (n + m) nc)
        { w1 with heap := w.heap.push (.cells (old ++ new ++ Builtin.zeroCells el.z (nc - (n + m))) el.e) } := by
  obtain ⟨hu, hs, hby, ⟨z, hz, hzc⟩, hzs, _⟩ := eltOf_some he
  obtain ⟨i, hi, hib⟩ : ∃ i, P.info? el.e = some i ∧ i.bytes = el.by' := by
    unfold tyBytes at hby
    cases hi : P.info? el.e with
    | none => simp [hi] at hby
    | some i => simp [hi] at hby; exact ⟨i, rfl, hby⟩
  have hg := growslice_fits_wide (need := n + m) (old := cap) (bytes := el.by') (by omega) hbig
  have h48 : ¬ (281474976710656 < Builtin.nextslicecap (n + m) cap * el.by') := by omega
  have h63 : ¬ (9223372036854775807 < ((n : Int) + (m : Int))) := by omega
  have hf0 : ∀ q, Question.forced (.appendCap (n + m) cap q) = false := fun _ => rfl
  let q := Question.appendCap (n + m) cap el.e
  refine ⟨q.cut (w.tape w.drawn q), w.drew, by simp [q, Question.cut], rfl, rfl, rfl, rfl, ?_⟩
  have ho := hold w.drew rfl
  have hn := hb.first w.drew rfl
  have hti : ∀ w : World, (typeInfo el.e).run P w = .ok i w := fun w => by simp [typeInfo, hi]
  have hzv : ∀ w : World, (zeroValue el.e).run P w = .ok z w := fun w => run_zero hz w
  have n1 : n + m ≤ n + m + w.tape w.drawn q % (2 ^ 63 - (n + m)) := Nat.le_add_right _ _
  rcases hb.ty with ⟨e, hd⟩ | hd <;>
    (simp only [Builtin.append_]
     simp [run_underlying hu, run_underlying hd, run_sizeOf hs, hb.len, hfit, hti, hib, hzv, h48, h63, hf0, newRow, hzc, q]
     simp only [ho, hn, Result.andThen_ok]
     rfl)

/-! ### worlds with the same memory -/

theorem Trans.world {C : Cfg} {wr : List Nat} {pre : Nat → Option Box} {μ μ' : Nat → Nat} {M M' : Mem} (t : Trans C wr pre μ M μ' M') (w' : World) (hh : w'.heap = M'.w.heap) (ho : w'.os = M'.w.os)
    (ht : w'.tape = M'.w.tape) (hp : w'.output = M'.w.output) : Trans C wr pre μ M μ' { M' with w := w' } := by
  have u := Trans.same (C := C) pre μ' M' t.wf w' hh ho ht hp
  refine ⟨t.grow.trans u.grow, u.wf, ho.trans t.os, ht.trans t.tape, hp.trans t.output, fun blk h1 h2 h3 => ?_, t.spb, fun blk c T fz e hs => ?_, t.mu⟩
  · obtain ⟨e1, e2⟩ := t.fr blk h1 h2 h3
    exact ⟨by show w'.heap[blk]? = _; rw [hh]; exact e1, e2⟩
  · obtain ⟨c', T', fz', e', hl⟩ := t.wid blk c T fz e hs
    exact ⟨c', T', fz', by show w'.heap[blk]? = _; rw [hh]; exact e', hl⟩

theorem RepC.world {C : Cfg} {μ : Nat → Nat} {M : Mem} (wf : Wf C M) {a : AC} {v : Value} (h : RepC C μ M a v) (w' : World) (hh : w'.heap = M.w.heap) (ho : w'.os = M.w.os)
    (ht : w'.tape = M.w.tape) (hp : w'.output = M.w.output) : RepC C μ { M with w := w' } a v :=
  h.trans (Trans.same (fun _ => none) μ M wf w' hh ho ht hp) fun _ _ => rfl
theorem RepCs.world {C : Cfg} {μ : Nat → Nat} {M : Mem} (wf : Wf C M) {a : List AC} {v : Array Value} (h : RepCs C μ M a v) (w' : World) (hh : w'.heap = M.w.heap) (ho : w'.os = M.w.os)
    (ht : w'.tape = M.w.tape) (hp : w'.output = M.w.output) : RepCs C μ { M with w := w' } a v :=
  h.trans (Trans.same (fun _ => none) μ M wf w' hh ho ht hp) fun _ _ => rfl

/-- A new block, as box d, in a world that may have drawn. -/
theorem new_trans' {C : Cfg} {pre : Nat → Option Box} {μ : Nat → Nat} {M : Mem} {d : Nat} (wf : Wf C M) (hd : pre d = none) (o : Obj) (w1 : World) (hh : w1.heap = M.w.heap) (ho : w1.os = M.w.os)
    (ht : w1.tape = M.w.tape) (hp : w1.output = M.w.output) :
    Trans C [d] pre μ M (upd μ d M.w.heap.size) { M with w := { w1 with heap := M.w.heap.push o } } :=
  (new_trans (C := C) (μ := μ) wf hd o).world { w1 with heap := M.w.heap.push o } rfl ho ht hp

theorem Trans.more {C : Cfg} {wr wr' : List Nat} {pre : Nat → Option Box} {μ μ' : Nat → Nat} {M M' : Mem} (t : Trans C wr pre μ M μ' M') (h : ∀ b ∈ wr, b ∈ wr') : Trans C wr' pre μ M μ' M' :=
  ⟨t.grow, t.wf, t.os, t.tape, t.output, fun blk h1 h2 h3 => t.fr blk h1 h2 fun b hb => h3 b (h b hb), t.spb, t.wid, fun b hb => t.mu b fun h' => hb (h b h')⟩

/-- Cells of a new block, of which the first are known. -/
theorem rep_row {C : Cfg} {pre : Nat → Option Box} {μ : Nat → Nat} {M : Mem} {d : Nat} (wf : Wf C M) (hd : pre d = none) {cs : List AC} {vs rest : Array Value} (T : TypeId) (hm : menL d cs = false) (h : RepCs C μ M cs vs)
    (w1 : World) (hh : w1.heap = M.w.heap) (ho : w1.os = M.w.os) (ht : w1.tape = M.w.tape) (hp : w1.output = M.w.output) (pub : Nat) (hpub : pub ≤ cs.length) :
    RepB C (upd μ d M.w.heap.size) { M with w := { w1 with heap := M.w.heap.push (.cells (vs ++ rest) T) } } d { cells := cs, pub := pub } := by
  have t := new_trans' (C := C) (μ := μ) wf hd (.cells (vs ++ rest) T) w1 hh ho ht hp
  have h' := h.trans t (fun b hb => by
    have : b ≠ d := fun e => by subst e; simp [menL] at hm; simp at hb; obtain ⟨x, hx, hx'⟩ := hb; have := hm x hx; simp [this] at hx'
    simp [upd, this])
  refine ⟨by simp, fun _ => ⟨⟨vs ++ rest, T, (0, 0), by simp [upd], .inl rfl, by simp [h.1], fun i h1 h2 => ⟨?_, by simp⟩⟩, fun o => ?_, hpub, ?_⟩⟩
  · have hi : i < vs.size := by have := h.1; have h1' : i < cs.length := h1; omega
    rw [Array.getElem_append_left hi]
    exact h'.2 i h1 hi
  · simp only [upd, if_true]
    intro i; exact absurd (wf.imm _ _ i).1 (Nat.lt_irrefl _)
  · simp only [upd, if_true]
    intro s; exact absurd (wf.sp _ s) (Nat.lt_irrefl _)

/-! ### append -/
section ops
variable {C : Cfg} {dst : Option Tmp} {ty : TypeId} {pos : String} {after : Array Edge} {guard : Option (Nat × Bool)} {ρ : Operand → AV} {pre : Nat → Option Box}

/-- What stands for a value behind which 'append' finds m elements, these cells. -/
def BehOk (C : Cfg) (sz : Nat) (U : TypeId) (pre : Nat → Option Box) (y : AV) (rdy : List Nat) (m : Nat) (ns : List AC) : Prop :=
  ∀ (μ : Nat → Nat) (M : Mem) (v : Value), Wf C M → RepV C μ M y v → (∀ b ∈ rdy, ∀ bx, pre b = some bx → RepB C μ M b bx) →
    ∃ new, Behind C.P M.w sz U v m new ∧ RepCs C μ M ns new ∧ ∀ x ∈ new.toList, Ev.single x = true

theorem heap_lt {w : World} {b : Nat} {o : Obj} (h : w.heap[b]? = some o) : b < w.heap.size := by
  rcases Nat.lt_or_ge b w.heap.size with g | g
  · exact g
  · rw [Array.getElem?_eq_none g] at h; cases h

theorem append_exec {x y : Operand} {T U : TypeId} {d : Nat} {a : Act} {v : Value} {w w' : World} (h : (Builtin.append_ #[T, U] ty #[a.eval x, a.eval y]).run C.P w = .ok v w') :
    (execOp a.eval ⟨some d, .call ⟨.builtin .append, #[x, y], #[T, U]⟩, ty, pos, after, guard⟩).run C.P w = .ok (.value v) w' := by
  simp [execOp, resolve, invoke, builtin, h]

/-- The first cells of a box, as append copies them. -/
theorem first_of_box {μ : Nat → Nat} {M : Mem} {b : Nat} {bx : Box} {c : Array Value} {Tb : TypeId} {fz : Nat × Nat} (hh : M.w.heap[μ b]? = some (.cells c Tb fz)) {n sz cap : Nat} (hle : n * sz ≤ c.size)
    (w' : World) (hw : w'.heap = M.w.heap) : (Builtin.firstCells sz n (.slice (some ⟨μ b, 0, none⟩) n cap)).run C.P w' = .ok (c.extract 0 (n * sz)) w' := by
  have hl := run_loadCells (P := C.P) (w := w') (μ b) 0 (n * sz) 0 #[] (fun j => c.getD j undef) (fun j hj => by
    have : j < c.size := by omega
    simp [World.cell?, hw, hh, Array.getD_eq_getD_getElem?, this])
  simp only [Builtin.firstCells, loadCells]
  rw [hl]
  congr 1
  apply Array.ext
  · simp; omega
  · intro k h1 h2
    have : k < c.size := by simp at h1; omega
    simp [Array.getD_eq_getD_getElem?, this]

theorem ok_append {x y : Operand} {T U : TypeId} {d b n m : Nat} {nl : Bool} {el : Elt} {bx : Box} {rdy : List Nat} {ns : List AC} (he : eltOf C.P T = some el) (hx : ρ x = .c (.sl b n el.sz nl)) (hb : pre b = some bx) (hnl : bx.nl = nl)
    (hle : n * el.sz ≤ bx.cells.length) (hpub : bx.pub ≤ n * el.sz) (hd : pre d = none) (hy : BehOk C el.sz U pre (ρ y) rdy m ns)
    (hm : menL d (bx.cells.take (n * el.sz) ++ ns) = false) (hbig : ((n + m) + (n + m) / 4 + 192) * el.by' ≤ 281474976710656) (hlen : n + m ≤ 9223372036854775807) :
    OpOk C ⟨some d, .call ⟨.builtin .append, #[x, y], #[T, U]⟩, ty, pos, after, guard⟩ ρ rdy pre (.c (.sl d (n + m) el.sz (nl && m == 0)))
      [(b, none), (d, some ⟨bx.cells.take (n * el.sz) ++ ns, bx.pub, nl && m == 0, false⟩)] := by
  intro μ M a next Q wf hr hbx hdist k
  have hbd : b ≠ d := fun e => by subst e; rw [hb] at hd; cases hd
  have hx' := hr x (by simp [Op.operands, Call.operands]); rw [hx] at hx'
  obtain ⟨new, hbeh, hrep, hsing⟩ := hy μ M (a.eval y) wf (hr y (by simp [Op.operands, Call.operands])) (fun b' h' => hbx b' (List.mem_append_left _ h'))
  have hB := hbx b (by simp [wrOf]) bx hb
  have hnsl : ns.length = m * el.sz := by rw [← hrep.1, hbeh.size]
  have post1 : ∀ ups' : List (Nat × Option Box), ∀ p : Option Box, postOf ((b, none) :: (d, p) :: ups') d = p := fun _ p => by
    have : (d == b) = false := by simpa using fun e => hbd e.symm
    simp [postOf, List.lookup, this]
  have post0 : ∀ ups' : List (Nat × Option Box), postOf ((b, none) :: ups') b = none := fun _ => by simp [postOf, List.lookup]
  unfold Oper.wp
  have el2 := eltOf_some he
  -- a new block
  have fresh : ∀ (old : Array Value) (nc : Nat) (w1 : World), n + m ≤ nc → w1.heap = M.w.heap → w1.os = M.w.os → w1.tape = M.w.tape → w1.output = M.w.output → RepCs C μ M (bx.cells.take (n * el.sz)) old →
      (nl && m == 0) = false → ∀ (next : Act → World → Prop),
      (∀ v μ' M', RepV C μ' M' (.c (.sl d (n + m) el.sz (nl && m == 0))) v → Trans C (wrOf [(b, none), (d, some ⟨bx.cells.take (n * el.sz) ++ ns, bx.pub, nl && m == 0, false⟩)]) pre μ M μ' M' →
        (∀ b' ∈ wrOf [(b, none), (d, some ⟨bx.cells.take (n * el.sz) ++ ns, bx.pub, nl && m == 0, false⟩)], ∀ bx', postOf [(b, none), (d, some ⟨bx.cells.take (n * el.sz) ++ ns, bx.pub, nl && m == 0, false⟩)] b' = some bx' → RepB C μ' M' b' bx') →
        (∀ x ∈ wrOf [(b, none), (d, some ⟨bx.cells.take (n * el.sz) ++ ns, bx.pub, nl && m == 0, false⟩)], liveB (postOf [(b, none), (d, some ⟨bx.cells.take (n * el.sz) ++ ns, bx.pub, nl && m == 0, false⟩)] x) = true →
          M.w.heap.size ≤ μ' x ∨ ∃ y ∈ wrOf [(b, none), (d, some ⟨bx.cells.take (n * el.sz) ++ ns, bx.pub, nl && m == 0, false⟩)], liveB (pre y) = true ∧ μ' x = μ y) →
        (∀ x ∈ wrOf [(b, none), (d, some ⟨bx.cells.take (n * el.sz) ++ ns, bx.pub, nl && m == 0, false⟩)], ∀ y ∈ wrOf [(b, none), (d, some ⟨bx.cells.take (n * el.sz) ++ ns, bx.pub, nl && m == 0, false⟩)],
          liveB (postOf [(b, none), (d, some ⟨bx.cells.take (n * el.sz) ++ ns, bx.pub, nl && m == 0, false⟩)] x) = true → liveB (postOf [(b, none), (d, some ⟨bx.cells.take (n * el.sz) ++ ns, bx.pub, nl && m == 0, false⟩)] y) = true → μ' x = μ' y → x = y) →
        next (a.put (some d) v) M'.w) →
      next (a.put (some d) (.slice (some ⟨M.w.heap.size, 0, none⟩) (n + m) nc)) { w1 with heap := M.w.heap.push (.cells (old ++ new ++ Builtin.zeroCells el.z (nc - (n + m))) el.e) } := by
    intro old nc w1 hnc h1 h2 h3 h4 hold hnlf next k
    have hcs : RepCs C μ M (bx.cells.take (n * el.sz) ++ ns) (old ++ new) := by
      have e1 := hold.1
      have e2 := hrep.1
      refine ⟨by simp only [Array.size_append, List.length_append]; omega, fun i i1 i2 => ?_⟩
      by_cases hi : i < (bx.cells.take (n * el.sz)).length
      · rw [List.getElem_append_left hi, Array.getElem_append_left (by omega)]
        exact hold.2 i hi (by omega)
      · simp only [List.length_append] at i1
        rw [List.getElem_append_right (by omega), Array.getElem_append_right (by omega)]
        have := hrep.2 (i - (bx.cells.take (n * el.sz)).length) (by omega) (by omega)
        simp only [← e1] at this ⊢
        exact this
    have t := new_trans' (C := C) (μ := μ) wf hd (.cells (old ++ new ++ Builtin.zeroCells el.z (nc - (n + m))) el.e) w1 h1 h2 h3 h4
    have hrb := rep_row (C := C) wf hd (rest := Builtin.zeroCells el.z (nc - (n + m))) el.e hm hcs w1 h1 h2 h3 h4 bx.pub (by simp only [List.length_append, List.length_take]; omega)
    have hz : nc * el.sz ≤ (old ++ new ++ Builtin.zeroCells el.z (nc - (n + m))).size := by
      have e1 := hold.1
      have e2 := hrep.1
      simp only [Array.size_append, Builtin.zeroCells, Array.size_map, Array.size_range, el2.2.2.2.2.1]
      simp only [List.length_take] at e1
      have : nc * el.sz = n * el.sz + m * el.sz + (nc - (n + m)) * el.sz := by rw [← Nat.add_mul, ← Nat.add_mul]; congr 1; omega
      omega
    rw [hnlf] at k
    refine k (.slice (some ⟨M.w.heap.size, 0, none⟩) (n + m) nc) (upd μ d M.w.heap.size) _ ?_ (t.more (by simp [wrOf])) ?_ ?_ ?_
    · refine ⟨nc, _, el.e, (0, 0), by simp [upd], hnc, ?_, hz, ?_⟩
      · simp [upd]
      · simp only [upd, if_true]
        intro s; exact absurd (wf.sp _ s) (Nat.lt_irrefl _)
    · intro b' hb' bx' hbx'
      simp only [wrOf, List.map_cons, List.map_nil, List.mem_cons, List.not_mem_nil, or_false] at hb'
      rcases hb' with rfl | rfl
      · rw [post0] at hbx'; cases hbx'
      · rw [post1] at hbx'; cases hbx'; exact hrb
    · intro z hz hl
      simp only [wrOf, List.map_cons, List.map_nil, List.mem_cons, List.not_mem_nil, or_false] at hz
      rcases hz with rfl | rfl
      · rw [post0] at hl; cases hl
      · left; simp [upd]
    · intro z hz z' hz' hl hl' _
      simp only [wrOf, List.map_cons, List.map_nil, List.mem_cons, List.not_mem_nil, or_false] at hz hz'
      rcases hz with rfl | rfl
      · rw [post0] at hl; cases hl
      · rcases hz' with rfl | rfl
        · rw [post0] at hl'; cases hl'
        · rfl
  cases nl with
  | true =>
    obtain ⟨rfl, hv⟩ := (hx' : RepC C μ M (.sl b n el.sz true) (a.eval x))
    obtain ⟨hc0, hp0⟩ := hB.1 hnl
    by_cases h0 : m = 0
    · subst h0
      have hns : ns = [] := List.eq_nil_of_length_eq_zero (by rw [hnsl]; simp)
      subst hns
      have e := append_exec (C := C) (ty := ty) (pos := pos) (after := after) (guard := guard) (x := x) (y := y) (T := T) (U := U) (d := d) (a := a) (w := M.w) (w' := M.w) (v := .slice none 0 0)
        (by rw [hv]; exact run_append_fit he hbeh (Nat.le_refl _) (fun _ h => by cases h) (fun _ => rfl))
      rw [e]
      refine k (.slice none 0 0) μ M ⟨rfl, rfl⟩ ((Trans.refl C pre μ M wf).weaken) ?_ ?_ ?_
      · intro b' hb' bx' hbx'
        simp only [wrOf, List.map_cons, List.map_nil, List.mem_cons, List.not_mem_nil, or_false] at hb'
        rcases hb' with rfl | rfl
        · rw [post0] at hbx'; cases hbx'
        · rw [post1] at hbx'; cases hbx'
          exact ⟨fun _ => ⟨by simp [hc0], hp0⟩, fun h => by simp at h⟩
      · intro z hz hl
        simp only [wrOf, List.map_cons, List.map_nil, List.mem_cons, List.not_mem_nil, or_false] at hz
        rcases hz with rfl | rfl
        · rw [post0] at hl; cases hl
        · rw [post1] at hl; simp [liveB] at hl
      · intro z hz z' hz' hl hl' _
        simp only [wrOf, List.map_cons, List.map_nil, List.mem_cons, List.not_mem_nil, or_false] at hz
        rcases hz with rfl | rfl
        · rw [post0] at hl; cases hl
        · rw [post1] at hl; simp [liveB] at hl
    · obtain ⟨nc, w1, h1, h2, h3, h4, h5, e⟩ := run_append_new (ty := ty) he hbeh (n := 0) (cap := 0) (a := none) (old := #[]) (by omega) (Nat.le_refl _)
        (fun w' _ => by simp [Builtin.firstCells]) hbig hlen
      have e := append_exec (C := C) (ty := ty) (pos := pos) (after := after) (guard := guard) (x := x) (y := y) (T := T) (U := U) (d := d) (a := a) (w := M.w) (by rw [hv]; exact e)
      rw [e]
      exact fresh #[] nc w1 h1 h2 h3 h4 h5 ⟨by simp [hc0], fun i h => by simp [hc0] at h⟩ (by simp [h0]) next k
  | false =>
    obtain ⟨cap, c, Tb, fz, hv, hcap, hh, hz, hsp⟩ := (hx' : RepC C μ M (.sl b n el.sz false) (a.eval x))
    have hR := hB.2 hnl
    obtain ⟨⟨c2, Tb2, fz2, hh2, hfz, hl, hcell⟩, himm, hpl, hsp2⟩ := hR
    rw [hh] at hh2
    cases hh2
    by_cases hfit : n + m ≤ cap
    · -- in place
      have hcsz : n * el.sz + m * el.sz ≤ c.size := by
        rw [← Nat.add_mul]; exact Nat.le_trans (Nat.mul_le_mul_right _ hfit) hz
      obtain ⟨c', e, hc'⟩ := run_storeCells (P := C.P) new.toList M.w (μ b) (n * el.sz) 0 c Tb fz hh hfz.no (by have := hbeh.size; simp; omega) hsing
      simp only [Nat.add_zero, Array.length_toList] at hc'
      have hnew := hbeh.size
      have hsize : c'.size = c.size := by
        have := congrArg List.length hc'
        simp at this; omega
      have ex := append_exec (C := C) (ty := ty) (pos := pos) (after := after) (guard := guard) (x := x) (y := y) (T := T) (U := U) (d := d) (a := a) (w := M.w) (v := .slice (some ⟨μ b, 0, none⟩) (n + m) cap)
        (w' := { M.w with heap := M.w.heap.setIfInBounds (μ b) (.cells c' Tb fz) })
        (by rw [hv]; exact run_append_fit he hbeh hfit (fun ad h => by cases h; rw [addr_add, Nat.zero_add]; exact e) (fun h => by cases h))
      rw [ex]
      have hpre : ∀ o, o < n * el.sz → c'[o]? = c[o]? := fun o ho => by
        rw [← Array.getElem?_toList, hc', List.append_assoc, List.getElem?_append_left (by simp; omega), List.getElem?_take]
        simp [ho]
      have t := write_trans (C := C) (pre := pre) wf hb hnl ⟨⟨c, Tb, fz, hh, hfz, hl, hcell⟩, himm, hpl, hsp2⟩ hh (c' := c') (by omega) (fun o ho => hpre o (by omega))
      have hlt := heap_lt hh
      -- the box d is where b was
      have hmu : ∀ q, q ≠ d → upd μ d (μ b) q = μ q := fun q hq => by simp [upd, hq]
      have t' : Trans C [b, d] pre μ M (upd μ d (μ b)) { M with w := { M.w with heap := M.w.heap.setIfInBounds (μ b) (.cells c' Tb fz) } } :=
        ⟨t.grow, t.wf, t.os, t.tape, t.output, fun blk h1 h2 h3 => t.fr blk h1 h2 fun b' hb' => h3 b' (by simp at hb'; simp [hb']), t.spb, t.wid, fun q hq => hmu q fun e' => hq (by simp [e']) (e' ▸ hd)⟩
      refine k (.slice (some ⟨μ b, 0, none⟩) (n + m) cap) (upd μ d (μ b)) _ ?_ t' ?_ ?_ ?_
      · exact ⟨cap, c', Tb, fz, by simp [upd], hfit, by simp [upd, hlt], by omega, by simpa [upd] using hsp⟩
      · intro b' hb' bx' hbx'
        simp only [wrOf, List.map_cons, List.map_nil, List.mem_cons, List.not_mem_nil, or_false] at hb'
        rcases hb' with rfl | rfl
        · rw [post0] at hbx'; cases hbx'
        · rw [post1] at hbx'; cases hbx'
          refine ⟨by simp, fun _ => ⟨⟨c', Tb, fz, by simp [upd, hlt], by rw [hsize]; exact hfz, by simp only [List.length_append, List.length_take]; omega, fun i i1 i2 => ⟨?_, by simp⟩⟩, by simpa [upd] using himm, by simp only [List.length_append, List.length_take]; omega, by simpa [upd] using hsp⟩⟩
          have hnm : ∀ z ∈ bx.cells.take (n * el.sz) ++ ns, ∀ q, z.men q = true → upd μ b' (μ b) q = μ q := fun z hz q hq => by
            refine hmu q fun e' => ?_
            subst e'
            simp only [menL, List.any_eq_false] at hm
            exact hm z hz hq
          have key : RepC C μ M (bx.cells.take (n * el.sz) ++ ns)[i] c'[i] := by
            have gi : c'[i] = c'.toList[i]'(by simpa using i2) := by simp
            by_cases hi : i < n * el.sz
            · rw [List.getElem_append_left (by simp; omega), List.getElem_take]
              have := hpre i hi
              rw [Array.getElem?_eq_getElem i2, Array.getElem?_eq_getElem (by omega)] at this
              rw [Option.some.inj this]
              exact (hcell i (by omega) (by omega)).1
            · have i3 : i < n * el.sz + m * el.sz := by simp only [List.length_append, List.length_take] at i1; omega
              rw [List.getElem_append_right (by simp; omega)]
              have lt : (bx.cells.take (n * el.sz)).length = n * el.sz := by simp; omega
              have e4 : c'.toList[i]? = new[i - n * el.sz]? := by
                rw [hc', List.getElem?_append_left (by simp; omega), List.getElem?_append_right (by simp; omega)]
                simp only [List.length_take, Array.length_toList]
                rw [Nat.min_eq_left (by omega), Array.getElem?_toList]
              rw [Array.getElem?_toList, Array.getElem?_eq_getElem i2, Array.getElem?_eq_getElem (by omega)] at e4
              rw [Option.some.inj e4]
              have := hrep.2 (i - n * el.sz) (by omega) (by omega)
              simpa [lt] using this
          exact key.trans t' (hnm _ (List.getElem_mem i1))
      · intro z hz hl
        simp only [wrOf, List.map_cons, List.map_nil, List.mem_cons, List.not_mem_nil, or_false] at hz
        rcases hz with rfl | rfl
        · rw [post0] at hl; cases hl
        · exact .inr ⟨b, by simp [wrOf], by simp [hb, liveB, hnl], by simp [upd]⟩
      · intro z hz z' hz' hl hl' _
        simp only [wrOf, List.map_cons, List.map_nil, List.mem_cons, List.not_mem_nil, or_false] at hz hz'
        rcases hz with rfl | rfl
        · rw [post0] at hl; cases hl
        · rcases hz' with rfl | rfl
          · rw [post0] at hl'; cases hl'
          · rfl
    · have hn1 : n * el.sz ≤ c.size := by omega
      obtain ⟨nc, w1, h1, h2, h3, h4, h5, e⟩ := run_append_new (ty := ty) he hbeh (n := n) (cap := cap) (a := some ⟨μ b, 0, none⟩) (old := c.extract 0 (n * el.sz)) hfit hcap
        (fun w' hw => first_of_box (C := C) (bx := bx) hh hn1 w' hw) hbig hlen
      have e := append_exec (C := C) (ty := ty) (pos := pos) (after := after) (guard := guard) (x := x) (y := y) (T := T) (U := U) (d := d) (a := a) (w := M.w) (by rw [hv]; exact e)
      rw [e]
      refine fresh _ nc w1 h1 h2 h3 h4 h5 ⟨by simp; omega, fun i i1 i2 => ?_⟩ rfl next k
      have hi : i < n * el.sz := by simp at i1; omega
      have := (hcell i (by omega) (by omega)).1
      simpa [List.getElem_take] using this
end ops
end Go.Ev
