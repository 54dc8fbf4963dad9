/-
  A symbolic executor over abstract states, part 7c: texts, slices, appends.
-/
import Derived.Test.YtldofkogmkfpjaaGreatDoorWEvA
import Derived.Deep.DeepAppendWide
import Derived.Laws.NewFold
import Derived.ChangeKeysEq
namespace Go.Ev
set_option linter.unusedSimpArgs false
set_option linter.unusedVariables false

/-- An element's type, its cells, its bytes, its zero's cells: of a slice type. -/
structure Elt where
  e : TypeId
  sz : Nat
  by' : Nat
  z : Array Value

def eltOf (P : Program) (T : TypeId) : Option Elt :=
  match tySlice P T with
  | some E => match tySize P E, tyBytes P E, tyZero P E with
    | some sz, some b, some z => if z.cells.size = sz ∧ (z.cells.toList.all Ev.single) = true then some ⟨E, sz, b, z.cells⟩ else none
    | _, _, _ => none
  | none => none

theorem eltOf_some {P : Program} {T : TypeId} {x : Elt} (h : eltOf P T = some x) : P.underlying T = some (.slice x.e) ∧ tySize P x.e = some x.sz ∧ tyBytes P x.e = some x.by' ∧
    (∃ z, tyZero P x.e = some z ∧ z.cells = x.z) ∧ x.z.size = x.sz ∧ (x.z.toList.all Ev.single) = true := by
  unfold eltOf at h
  split at h
  · rename_i E hE
    split at h
    · rename_i sz b z h1 h2 h3
      split at h
      · rename_i hs
        cases h
        refine ⟨?_, h1, h2, ⟨z, h3, rfl⟩, hs.1, hs.2⟩
        unfold tySlice at hE
        cases hu : P.underlying T with
        | none => simp [hu] at hE
        | some d => cases d <;> simp [hu] at hE; rw [hE]
      · cases h
    · cases h
  · cases h

/-- Whether a value is what 'append' may take behind a slice: so many elements, these cells. -/
structure Behind (P : Program) (w : World) (sz : Nat) (u : TypeId) (x : Value) (m : Nat) (new : Array Value) : Prop where
  ty : (∃ e, P.underlying u = some (.slice e)) ∨ P.underlying u = some .string
  len : ∀ w : World, (Builtin.lenOf x).run P w = .ok m w
  first : ∀ w' : World, w'.heap = w.heap → (Builtin.firstCells sz m x).run P w' = .ok new w'
  size : new.size = m * sz

theorem run_append_fit {P : Program} {w w' : World} {T u ty : TypeId} {el : Elt} (he : eltOf P T = some el) {a : Option Addr} {n cap : Nat} {x : Value} {m : Nat} {new : Array Value}
    (hb : Behind P w el.sz u x m new) (hfit : n + m ≤ cap) (hst : ∀ ad, a = some ad → (storeCells (ad.add (n * el.sz)) new.toList).run P w = .ok () w') (hn : a = none → w' = w) :
    (Builtin.append_ #[T, u] ty #[.slice a n cap, x]).run P w = .ok (.slice a (n + m) cap) w' := by
  obtain ⟨hu, hs, hby, ⟨z, hz, hzc⟩, hzs, _⟩ := eltOf_some he
  rcases hb.ty with ⟨e, hd⟩ | hd <;> cases a with
  | none =>
    have := hn rfl
    subst this
    simp [Builtin.append_, run_underlying hu, run_underlying hd, run_sizeOf hs, hb.len, hfit, hb.first w' rfl]
  | some ad =>
    have := hst ad rfl
    simp [Builtin.append_, run_underlying hu, run_underlying hd, run_sizeOf hs, hb.len, hfit, hb.first w rfl, this]

theorem run_append_new {P : Program} {w : World} {T u ty : TypeId} {el : Elt} (he : eltOf P T = some el) {a : Option Addr} {n cap : Nat} {x : Value} {m : Nat} {new old : Array Value}
    (hb : Behind P w el.sz u x m new) (hfit : ¬ n + m ≤ cap) (hle : n ≤ cap) (hold : ∀ w' : World, w'.heap = w.heap → (Builtin.firstCells el.sz n (.slice a n cap)).run P w' = .ok old w')
    (hbig : ((n + m) + (n + m) / 4 + 192) * el.by' ≤ 281474976710656) (hlen : n + m ≤ 9223372036854775807) :
    ∃ (nc : Nat) (w1 : World), n + m ≤ nc ∧ w1.heap = w.heap ∧ w1.os = w.os ∧ w1.tape = w.tape ∧ w1.output = w.output ∧
      (Builtin.append_ #[T, u] ty #[.slice a n cap, x]).run P w = .ok (.slice (some ⟨w.heap.size, 0, none⟩) (n + m) nc)
        { w1 with heap := w.heap.push (.cells (old ++ new ++ Builtin.zeroCells el.z (nc - (n + m))) el.e) } := by
  obtain ⟨hu, hs, hby, ⟨z, hz, hzc⟩, hzs, _⟩ := eltOf_some he
  obtain ⟨i, hi, hib⟩ : ∃ i, P.info? el.e = some i ∧ i.bytes = el.by' := by
    unfold tyBytes at hby
    cases hi : P.info? el.e with
    | none => simp [hi] at hby
    | some i => simp [hi] at hby; exact ⟨i, rfl, hby⟩
  have hg := growslice_fits_wide (need := n + m) (old := cap) (bytes := el.by') (by omega) hbig
  have h48 : ¬ (281474976710656 < Builtin.nextslicecap (n + m) cap * el.by') := by omega
  have h63 : ¬ (9223372036854775807 < ((n : Int) + (m : Int))) := by omega
  have hf0 : ∀ q, Question.forced (.appendCap (n + m) cap q) = false := fun _ => rfl
  let q := Question.appendCap (n + m) cap el.e
  refine ⟨q.cut (w.tape w.drawn q), w.drew, by simp [q, Question.cut], rfl, rfl, rfl, rfl, ?_⟩
  have ho := hold w.drew rfl
  have hn := hb.first w.drew rfl
  have hti : ∀ w : World, (typeInfo el.e).run P w = .ok i w := fun w => by simp [typeInfo, hi]
  have hzv : ∀ w : World, (zeroValue el.e).run P w = .ok z w := fun w => run_zero hz w
  have n1 : n + m ≤ n + m + w.tape w.drawn q % (2 ^ 63 - (n + m)) := Nat.le_add_right _ _
  rcases hb.ty with ⟨e, hd⟩ | hd <;>
    (simp only [Builtin.append_]
     simp [run_underlying hu, run_underlying hd, run_sizeOf hs, hb.len, hfit, hti, hib, hzv, h48, h63, hf0, newRow, hzc, q]
     simp only [ho, hn, Result.andThen_ok]
     rfl)

/-! ### worlds with the same memory -/

theorem Trans.world {C : Cfg} {wr : List Nat} {pre : Nat → Option Box} {μ μ' : Nat → Nat} {M M' : Mem} (t : Trans C wr pre μ M μ' M') (w' : World) (hh : w'.heap = M'.w.heap) (ho : w'.os = M'.w.os)
    (ht : w'.tape = M'.w.tape) (hp : w'.output = M'.w.output) : Trans C wr pre μ M μ' { M' with w := w' } := by
  have u := Trans.same (C := C) pre μ' M' t.wf w' hh ho ht hp
  refine ⟨t.grow.trans u.grow, u.wf, ho.trans t.os, ht.trans t.tape, hp.trans t.output, fun blk h1 h2 h3 => ?_, t.spb, fun blk c T fz e hs => ?_, t.mu⟩
  · obtain ⟨e1, e2⟩ := t.fr blk h1 h2 h3
    exact ⟨by show w'.heap[blk]? = _; rw [hh]; exact e1, e2⟩
  · obtain ⟨c', fz', e', hl⟩ := t.wid blk c T fz e hs
    exact ⟨c', fz', by show w'.heap[blk]? = _; rw [hh]; exact e', hl⟩

theorem RepC.world {C : Cfg} {μ : Nat → Nat} {M : Mem} (wf : Wf C M) {a : AC} {v : Value} (h : RepC C μ M a v) (w' : World) (hh : w'.heap = M.w.heap) (ho : w'.os = M.w.os)
    (ht : w'.tape = M.w.tape) (hp : w'.output = M.w.output) : RepC C μ { M with w := w' } a v :=
  h.trans (Trans.same (fun _ => none) μ M wf w' hh ho ht hp) fun _ _ => rfl
theorem RepCs.world {C : Cfg} {μ : Nat → Nat} {M : Mem} (wf : Wf C M) {a : List AC} {v : Array Value} (h : RepCs C μ M a v) (w' : World) (hh : w'.heap = M.w.heap) (ho : w'.os = M.w.os)
    (ht : w'.tape = M.w.tape) (hp : w'.output = M.w.output) : RepCs C μ { M with w := w' } a v :=
  h.trans (Trans.same (fun _ => none) μ M wf w' hh ho ht hp) fun _ _ => rfl

/-- A new block, as box d, in a world that may have drawn. -/
theorem new_trans' {C : Cfg} {pre : Nat → Option Box} {μ : Nat → Nat} {M : Mem} {d : Nat} (wf : Wf C M) (hd : pre d = none) (o : Obj) (w1 : World) (hh : w1.heap = M.w.heap) (ho : w1.os = M.w.os)
    (ht : w1.tape = M.w.tape) (hp : w1.output = M.w.output) :
    Trans C [d] pre μ M (upd μ d M.w.heap.size) { M with w := { w1 with heap := M.w.heap.push o } } :=
  (new_trans (C := C) (μ := μ) wf hd o).world { w1 with heap := M.w.heap.push o } rfl ho ht hp

theorem Trans.more {C : Cfg} {wr wr' : List Nat} {pre : Nat → Option Box} {μ μ' : Nat → Nat} {M M' : Mem} (t : Trans C wr pre μ M μ' M') (h : ∀ b ∈ wr, b ∈ wr') : Trans C wr' pre μ M μ' M' :=
  ⟨t.grow, t.wf, t.os, t.tape, t.output, fun blk h1 h2 h3 => t.fr blk h1 h2 fun b hb => h3 b (h b hb), t.spb, t.wid, fun b hb => t.mu b fun h' => hb (h b h')⟩

/-- Cells of a new block, of which the first are known. -/
theorem rep_row {C : Cfg} {pre : Nat → Option Box} {μ : Nat → Nat} {M : Mem} {d : Nat} (wf : Wf C M) (hd : pre d = none) {cs : List AC} {vs rest : Array Value} (T : TypeId) (hm : menL d cs = false) (h : RepCs C μ M cs vs)
    (w1 : World) (hh : w1.heap = M.w.heap) (ho : w1.os = M.w.os) (ht : w1.tape = M.w.tape) (hp : w1.output = M.w.output) (pub : Nat) (hpub : pub ≤ cs.length) :
    RepB C (upd μ d M.w.heap.size) { M with w := { w1 with heap := M.w.heap.push (.cells (vs ++ rest) T) } } d { cells := cs, pub := pub } := by
  have t := new_trans' (C := C) (μ := μ) wf hd (.cells (vs ++ rest) T) w1 hh ho ht hp
  have h' := h.trans t (fun b hb => by
    have : b ≠ d := fun e => by subst e; simp [menL] at hm; simp at hb; obtain ⟨x, hx, hx'⟩ := hb; have := hm x hx; simp [this] at hx'
    simp [upd, this])
  refine ⟨by simp, fun _ _ => ⟨⟨vs ++ rest, T, (0, 0), by simp [upd], .inl rfl, by simp [h.1], fun i h1 h2 => ⟨?_, by simp⟩⟩, fun o => ?_, hpub, ?_⟩, fun _ h => nomatch h⟩
  · have hi : i < vs.size := by have := h.1; have h1' : i < cs.length := h1; omega
    rw [Array.getElem_append_left hi]
    exact h'.2 i h1 hi
  · simp only [upd, if_true]
    intro i; exact absurd (wf.imm _ _ i).1 (Nat.lt_irrefl _)
  · simp only [upd, if_true]
    intro s; exact absurd (wf.sp _ s) (Nat.lt_irrefl _)

/-! ### append -/
section ops
variable {C : Cfg} {dst : Option Tmp} {ty : TypeId} {pos : String} {after : Array Edge} {guard : Option (Nat × Bool)} {ρ : Operand → AV} {pre : Nat → Option Box}

/-- What stands for a value behind which 'append' finds m elements, these cells. -/
def BehOk (C : Cfg) (sz : Nat) (U : TypeId) (pre : Nat → Option Box) (y : AV) (rdy : List Nat) (m : Nat) (ns : List AC) : Prop :=
  ∀ (μ : Nat → Nat) (M : Mem) (v : Value), Wf C M → RepV C μ M y v → (∀ b ∈ rdy, ∀ bx, pre b = some bx → RepB C μ M b bx) →
    ∃ new, Behind C.P M.w sz U v m new ∧ RepCs C μ M ns new ∧ ∀ x ∈ new.toList, Ev.single x = true

theorem heap_lt {w : World} {b : Nat} {o : Obj} (h : w.heap[b]? = some o) : b < w.heap.size := by
  rcases Nat.lt_or_ge b w.heap.size with g | g
  · exact g
  · rw [Array.getElem?_eq_none g] at h; cases h

theorem append_exec {x y : Operand} {T U : TypeId} {d : Nat} {a : Act} {v : Value} {w w' : World} (h : (Builtin.append_ #[T, U] ty #[a.eval x, a.eval y]).run C.P w = .ok v w') :
    (execOp a.eval ⟨some d, .call ⟨.builtin .append, #[x, y], #[T, U]⟩, ty, pos, after, guard⟩).run C.P w = .ok (.value v) w' := by
  simp [execOp, resolve, invoke, builtin, h]

/-- The first cells of a box, as append copies them. -/
theorem first_of_box {μ : Nat → Nat} {M : Mem} {b : Nat} {bx : Box} {c : Array Value} {Tb : TypeId} {fz : Nat × Nat} (hh : M.w.heap[μ b]? = some (.cells c Tb fz)) {n sz cap : Nat} (hle : n * sz ≤ c.size)
    (w' : World) (hw : w'.heap = M.w.heap) : (Builtin.firstCells sz n (.slice (some ⟨μ b, 0, none⟩) n cap)).run C.P w' = .ok (c.extract 0 (n * sz)) w' := by
  have hl := run_loadCells (P := C.P) (w := w') (μ b) 0 (n * sz) 0 #[] (fun j => c.getD j undef) (fun j hj => by
    have : j < c.size := by omega
    simp [World.cell?, hw, hh, Array.getD_eq_getD_getElem?, this])
  simp only [Builtin.firstCells, loadCells]
  rw [hl]
  congr 1
  apply Array.ext
  · simp; omega
  · intro k h1 h2
    have : k < c.size := by simp at h1; omega
    simp [Array.getD_eq_getD_getElem?, this]

theorem ok_append {x y : Operand} {T U : TypeId} {d b n m : Nat} {nl : Bool} {el : Elt} {bx : Box} {rdy : List Nat} {ns : List AC} (he : eltOf C.P T = some el) (hx : ρ x = .c (.sl b n el.sz nl)) (hb : pre b = some bx) (hnl : bx.nl = nl)
    (hle : n * el.sz ≤ bx.cells.length) (hpub : bx.pub ≤ n * el.sz) (hd : pre d = none) (hy : BehOk C el.sz U pre (ρ y) rdy m ns)
    (hm : menL d (bx.cells.take (n * el.sz) ++ ns) = false) (hbig : ((n + m) + (n + m) / 4 + 192) * el.by' ≤ 281474976710656) (hlen : n + m ≤ 9223372036854775807) :
    OpOk C ⟨some d, .call ⟨.builtin .append, #[x, y], #[T, U]⟩, ty, pos, after, guard⟩ ρ rdy pre (.c (.sl d (n + m) el.sz (nl && m == 0)))
      [(b, none), (d, some ⟨bx.cells.take (n * el.sz) ++ ns, bx.pub, nl && m == 0, false, none⟩)] := by
  intro μ M a next Q wf hr hbx hdist k
  have hbd : b ≠ d := fun e => by subst e; rw [hb] at hd; cases hd
  have hx' := hr x (by simp [Op.operands, Call.operands]); rw [hx] at hx'
  obtain ⟨new, hbeh, hrep, hsing⟩ := hy μ M (a.eval y) wf (hr y (by simp [Op.operands, Call.operands])) (fun b' h' => hbx b' (List.mem_append_left _ h'))
  have hB := hbx b (by simp [wrOf]) bx hb
  have hnsl : ns.length = m * el.sz := by rw [← hrep.1, hbeh.size]
  have post1 : ∀ ups' : List (Nat × Option Box), ∀ p : Option Box, postOf ((b, none) :: (d, p) :: ups') d = p := fun _ p => by
    have : (d == b) = false := by simpa using fun e => hbd e.symm
    simp [postOf, List.lookup, this]
  have post0 : ∀ ups' : List (Nat × Option Box), postOf ((b, none) :: ups') b = none := fun _ => by simp [postOf, List.lookup]
  unfold Oper.wp
  have el2 := eltOf_some he
  -- a new block
  have fresh : ∀ (old : Array Value) (nc : Nat) (w1 : World), n + m ≤ nc → w1.heap = M.w.heap → w1.os = M.w.os → w1.tape = M.w.tape → w1.output = M.w.output → RepCs C μ M (bx.cells.take (n * el.sz)) old →
      (nl && m == 0) = false → ∀ (next : Act → World → Prop),
      (∀ v μ' M', RepV C μ' M' (.c (.sl d (n + m) el.sz (nl && m == 0))) v → Trans C (wrOf [(b, none), (d, some ⟨bx.cells.take (n * el.sz) ++ ns, bx.pub, nl && m == 0, false, none⟩)]) pre μ M μ' M' →
        (∀ b' ∈ wrOf [(b, none), (d, some ⟨bx.cells.take (n * el.sz) ++ ns, bx.pub, nl && m == 0, false, none⟩)], ∀ bx', postOf [(b, none), (d, some ⟨bx.cells.take (n * el.sz) ++ ns, bx.pub, nl && m == 0, false, none⟩)] b' = some bx' → RepB C μ' M' b' bx') →
        (∀ x ∈ wrOf [(b, none), (d, some ⟨bx.cells.take (n * el.sz) ++ ns, bx.pub, nl && m == 0, false, none⟩)], liveB (postOf [(b, none), (d, some ⟨bx.cells.take (n * el.sz) ++ ns, bx.pub, nl && m == 0, false, none⟩)] x) = true →
          M.w.heap.size ≤ μ' x ∨ ∃ y ∈ wrOf [(b, none), (d, some ⟨bx.cells.take (n * el.sz) ++ ns, bx.pub, nl && m == 0, false, none⟩)], liveB (pre y) = true ∧ μ' x = μ y) →
        (∀ x ∈ wrOf [(b, none), (d, some ⟨bx.cells.take (n * el.sz) ++ ns, bx.pub, nl && m == 0, false, none⟩)], ∀ y ∈ wrOf [(b, none), (d, some ⟨bx.cells.take (n * el.sz) ++ ns, bx.pub, nl && m == 0, false, none⟩)],
          liveB (postOf [(b, none), (d, some ⟨bx.cells.take (n * el.sz) ++ ns, bx.pub, nl && m == 0, false, none⟩)] x) = true → liveB (postOf [(b, none), (d, some ⟨bx.cells.take (n * el.sz) ++ ns, bx.pub, nl && m == 0, false, none⟩)] y) = true → μ' x = μ' y → x = y) →
        next (a.put (some d) v) M'.w) →
      next (a.put (some d) (.slice (some ⟨M.w.heap.size, 0, none⟩) (n + m) nc)) { w1 with heap := M.w.heap.push (.cells (old ++ new ++ Builtin.zeroCells el.z (nc - (n + m))) el.e) } := by
    intro old nc w1 hnc h1 h2 h3 h4 hold hnlf next k
    have hcs : RepCs C μ M (bx.cells.take (n * el.sz) ++ ns) (old ++ new) := by
      have e1 := hold.1
      have e2 := hrep.1
      refine ⟨by simp only [Array.size_append, List.length_append]; omega, fun i i1 i2 => ?_⟩
      by_cases hi : i < (bx.cells.take (n * el.sz)).length
      · rw [List.getElem_append_left hi, Array.getElem_append_left (by omega)]
        exact hold.2 i hi (by omega)
      · simp only [List.length_append] at i1
        rw [List.getElem_append_right (by omega), Array.getElem_append_right (by omega)]
        have := hrep.2 (i - (bx.cells.take (n * el.sz)).length) (by omega) (by omega)
        simp only [← e1] at this ⊢
        exact this
    have t := new_trans' (C := C) (μ := μ) wf hd (.cells (old ++ new ++ Builtin.zeroCells el.z (nc - (n + m))) el.e) w1 h1 h2 h3 h4
    have hrb := rep_row (C := C) wf hd (rest := Builtin.zeroCells el.z (nc - (n + m))) el.e hm hcs w1 h1 h2 h3 h4 bx.pub (by simp only [List.length_append, List.length_take]; omega)
    have hz : nc * el.sz ≤ (old ++ new ++ Builtin.zeroCells el.z (nc - (n + m))).size := by
      have e1 := hold.1
      have e2 := hrep.1
      simp only [Array.size_append, Builtin.zeroCells, Array.size_map, Array.size_range, el2.2.2.2.2.1]
      simp only [List.length_take] at e1
      have : nc * el.sz = n * el.sz + m * el.sz + (nc - (n + m)) * el.sz := by rw [← Nat.add_mul, ← Nat.add_mul]; congr 1; omega
      omega
    rw [hnlf] at k
    refine k (.slice (some ⟨M.w.heap.size, 0, none⟩) (n + m) nc) (upd μ d M.w.heap.size) _ ?_ (t.more (by simp [wrOf])) ?_ ?_ ?_
    · refine ⟨nc, _, el.e, (0, 0), by simp [upd], hnc, ?_, hz, ?_⟩
      · simp [upd]
      · simp only [upd, if_true]
        intro s; exact absurd (wf.sp _ s) (Nat.lt_irrefl _)
    · intro b' hb' bx' hbx'
      simp only [wrOf, List.map_cons, List.map_nil, List.mem_cons, List.not_mem_nil, or_false] at hb'
      rcases hb' with rfl | rfl
      · rw [post0] at hbx'; cases hbx'
      · rw [post1] at hbx'; cases hbx'; exact hrb
    · intro z hz hl
      simp only [wrOf, List.map_cons, List.map_nil, List.mem_cons, List.not_mem_nil, or_false] at hz
      rcases hz with rfl | rfl
      · rw [post0] at hl; cases hl
      · left; simp [upd]
    · intro z hz z' hz' hl hl' _
      simp only [wrOf, List.map_cons, List.map_nil, List.mem_cons, List.not_mem_nil, or_false] at hz hz'
      rcases hz with rfl | rfl
      · rw [post0] at hl; cases hl
      · rcases hz' with rfl | rfl
        · rw [post0] at hl'; cases hl'
        · rfl
  cases nl with
  | true =>
    obtain ⟨rfl, hv⟩ := (hx' : RepC C μ M (.sl b n el.sz true) (a.eval x))
    obtain ⟨hc0, hp0⟩ := hB.1 hnl
    by_cases h0 : m = 0
    · subst h0
      have hns : ns = [] := List.eq_nil_of_length_eq_zero (by rw [hnsl]; simp)
      subst hns
      have e := append_exec (C := C) (ty := ty) (pos := pos) (after := after) (guard := guard) (x := x) (y := y) (T := T) (U := U) (d := d) (a := a) (w := M.w) (w' := M.w) (v := .slice none 0 0)
        (by rw [hv]; exact run_append_fit he hbeh (Nat.le_refl _) (fun _ h => by cases h) (fun _ => rfl))
      rw [e]
      refine k (.slice none 0 0) μ M ⟨rfl, rfl⟩ ((Trans.refl C pre μ M wf).weaken) ?_ ?_ ?_
      · intro b' hb' bx' hbx'
        simp only [wrOf, List.map_cons, List.map_nil, List.mem_cons, List.not_mem_nil, or_false] at hb'
        rcases hb' with rfl | rfl
        · rw [post0] at hbx'; cases hbx'
        · rw [post1] at hbx'; cases hbx'
          exact ⟨fun _ => ⟨by simp [hc0], hp0⟩, (fun h => by simp at h), fun _ h => nomatch h⟩
      · intro z hz hl
        simp only [wrOf, List.map_cons, List.map_nil, List.mem_cons, List.not_mem_nil, or_false] at hz
        rcases hz with rfl | rfl
        · rw [post0] at hl; cases hl
        · rw [post1] at hl; simp [liveB] at hl
      · intro z hz z' hz' hl hl' _
        simp only [wrOf, List.map_cons, List.map_nil, List.mem_cons, List.not_mem_nil, or_false] at hz
        rcases hz with rfl | rfl
        · rw [post0] at hl; cases hl
        · rw [post1] at hl; simp [liveB] at hl
    · obtain ⟨nc, w1, h1, h2, h3, h4, h5, e⟩ := run_append_new (ty := ty) he hbeh (n := 0) (cap := 0) (a := none) (old := #[]) (by omega) (Nat.le_refl _)
        (fun w' _ => by simp [Builtin.firstCells]) hbig hlen
      have e := append_exec (C := C) (ty := ty) (pos := pos) (after := after) (guard := guard) (x := x) (y := y) (T := T) (U := U) (d := d) (a := a) (w := M.w) (by rw [hv]; exact e)
      rw [e]
      exact fresh #[] nc w1 h1 h2 h3 h4 h5 ⟨by simp [hc0], fun i h => by simp [hc0] at h⟩ (by simp [h0]) next k
  | false =>
    obtain ⟨cap, c, Tb, fz, hv, hcap, hh, hz, hsp⟩ := (hx' : RepC C μ M (.sl b n el.sz false) (a.eval x))
    have hR := (hB.repR hnl hh).2
    obtain ⟨⟨c2, Tb2, fz2, hh2, hfz, hl, hcell⟩, himm, hpl, hsp2⟩ := hR
    rw [hh] at hh2
    cases hh2
    by_cases hfit : n + m ≤ cap
    · -- in place
      have hcsz : n * el.sz + m * el.sz ≤ c.size := by
        rw [← Nat.add_mul]; exact Nat.le_trans (Nat.mul_le_mul_right _ hfit) hz
      obtain ⟨c', e, hc'⟩ := run_storeCells (P := C.P) new.toList M.w (μ b) (n * el.sz) 0 c Tb fz hh hfz.no (by have := hbeh.size; simp; omega) hsing
      simp only [Nat.add_zero, Array.length_toList] at hc'
      have hnew := hbeh.size
      have hsize : c'.size = c.size := by
        have := congrArg List.length hc'
        simp at this; omega
      have ex := append_exec (C := C) (ty := ty) (pos := pos) (after := after) (guard := guard) (x := x) (y := y) (T := T) (U := U) (d := d) (a := a) (w := M.w) (v := .slice (some ⟨μ b, 0, none⟩) (n + m) cap)
        (w' := { M.w with heap := M.w.heap.setIfInBounds (μ b) (.cells c' Tb fz) })
        (by rw [hv]; exact run_append_fit he hbeh hfit (fun ad h => by cases h; rw [addr_add, Nat.zero_add]; exact e) (fun h => by cases h))
      rw [ex]
      have hpre : ∀ o, o < n * el.sz → c'[o]? = c[o]? := fun o ho => by
        rw [← Array.getElem?_toList, hc', List.append_assoc, List.getElem?_append_left (by simp; omega), List.getElem?_take]
        simp [ho]
      have t := write_trans (C := C) (pre := pre) wf hb hnl ⟨⟨c, Tb, fz, hh, hfz, hl, hcell⟩, himm, hpl, hsp2⟩ hh (c' := c') (by omega) (fun o ho => hpre o (by omega))
      have hlt := heap_lt hh
      -- the box d is where b was
      have hmu : ∀ q, q ≠ d → upd μ d (μ b) q = μ q := fun q hq => by simp [upd, hq]
      have t' : Trans C [b, d] pre μ M (upd μ d (μ b)) { M with w := { M.w with heap := M.w.heap.setIfInBounds (μ b) (.cells c' Tb fz) } } :=
        ⟨t.grow, t.wf, t.os, t.tape, t.output, fun blk h1 h2 h3 => t.fr blk h1 h2 fun b' hb' => h3 b' (by simp at hb'; simp [hb']), t.spb, t.wid, fun q hq => hmu q fun e' => hq (by simp [e']) (e' ▸ hd)⟩
      refine k (.slice (some ⟨μ b, 0, none⟩) (n + m) cap) (upd μ d (μ b)) _ ?_ t' ?_ ?_ ?_
      · exact ⟨cap, c', Tb, fz, by simp [upd], hfit, by simp [upd, hlt], by omega, by simpa [upd] using hsp⟩
      · intro b' hb' bx' hbx'
        simp only [wrOf, List.map_cons, List.map_nil, List.mem_cons, List.not_mem_nil, or_false] at hb'
        rcases hb' with rfl | rfl
        · rw [post0] at hbx'; cases hbx'
        · rw [post1] at hbx'; cases hbx'
          refine ⟨by simp, fun _ _ => ⟨⟨c', Tb, fz, by simp [upd, hlt], by rw [hsize]; exact hfz, by simp only [List.length_append, List.length_take]; omega, fun i i1 i2 => ⟨?_, by simp⟩⟩, by simpa [upd] using himm, by simp only [List.length_append, List.length_take]; omega, by simpa [upd] using hsp⟩, fun _ h => nomatch h⟩
          have hnm : ∀ z ∈ bx.cells.take (n * el.sz) ++ ns, ∀ q, z.men q = true → upd μ b' (μ b) q = μ q := fun z hz q hq => by
            refine hmu q fun e' => ?_
            subst e'
            simp only [menL, List.any_eq_false] at hm
            exact hm z hz hq
          have key : RepC C μ M (bx.cells.take (n * el.sz) ++ ns)[i] c'[i] := by
            have gi : c'[i] = c'.toList[i]'(by simpa using i2) := by simp
            by_cases hi : i < n * el.sz
            · rw [List.getElem_append_left (by simp; omega), List.getElem_take]
              have := hpre i hi
              rw [Array.getElem?_eq_getElem i2, Array.getElem?_eq_getElem (by omega)] at this
              rw [Option.some.inj this]
              exact (hcell i (by omega) (by omega)).1
            · have i3 : i < n * el.sz + m * el.sz := by simp only [List.length_append, List.length_take] at i1; omega
              rw [List.getElem_append_right (by simp; omega)]
              have lt : (bx.cells.take (n * el.sz)).length = n * el.sz := by simp; omega
              have e4 : c'.toList[i]? = new[i - n * el.sz]? := by
                rw [hc', List.getElem?_append_left (by simp; omega), List.getElem?_append_right (by simp; omega)]
                simp only [List.length_take, Array.length_toList]
                rw [Nat.min_eq_left (by omega), Array.getElem?_toList]
              rw [Array.getElem?_toList, Array.getElem?_eq_getElem i2, Array.getElem?_eq_getElem (by omega)] at e4
              rw [Option.some.inj e4]
              have := hrep.2 (i - n * el.sz) (by omega) (by omega)
              simpa [lt] using this
          exact key.trans t' (hnm _ (List.getElem_mem i1))
      · intro z hz hl
        simp only [wrOf, List.map_cons, List.map_nil, List.mem_cons, List.not_mem_nil, or_false] at hz
        rcases hz with rfl | rfl
        · rw [post0] at hl; cases hl
        · exact .inr ⟨b, by simp [wrOf], by simp [hb, liveB, hnl], by simp [upd]⟩
      · intro z hz z' hz' hl hl' _
        simp only [wrOf, List.map_cons, List.map_nil, List.mem_cons, List.not_mem_nil, or_false] at hz hz'
        rcases hz with rfl | rfl
        · rw [post0] at hl; cases hl
        · rcases hz' with rfl | rfl
          · rw [post0] at hl'; cases hl'
          · rfl
    · have hn1 : n * el.sz ≤ c.size := by omega
      obtain ⟨nc, w1, h1, h2, h3, h4, h5, e⟩ := run_append_new (ty := ty) he hbeh (n := n) (cap := cap) (a := some ⟨μ b, 0, none⟩) (old := c.extract 0 (n * el.sz)) hfit hcap
        (fun w' hw => first_of_box (C := C) (bx := bx) hh hn1 w' hw) hbig hlen
      have e := append_exec (C := C) (ty := ty) (pos := pos) (after := after) (guard := guard) (x := x) (y := y) (T := T) (U := U) (d := d) (a := a) (w := M.w) (by rw [hv]; exact e)
      rw [e]
      refine fresh _ nc w1 h1 h2 h3 h4 h5 ⟨by simp; omega, fun i i1 i2 => ?_⟩ rfl next k
      have hi : i < n * el.sz := by simp at i1; omega
      have := (hcell i (by omega) (by omega)).1
      simpa [List.getElem_take] using this
end ops
end Go.Ev
/-
  A symbolic executor over abstract states, part 7d: more about slices and texts.
-/
namespace Go.Ev
set_option linter.unusedSimpArgs false
set_option linter.unusedVariables false
section ops
variable {C : Cfg} {dst : Option Tmp} {ty : TypeId} {pos : String} {after : Array Edge} {guard : Option (Nat × Bool)} {ρ : Operand → AV} {pre : Nat → Option Box}

/-- append to nil. -/
theorem ok_append_nil {x y : Operand} {T U : TypeId} {d m : Nat} {el : Elt} {rdy : List Nat} {ns : List AC} (he : eltOf C.P T = some el) (hx : ρ x = .c (.lit (.slice none 0 0)))
    (hd : pre d = none) (hy : BehOk C el.sz U pre (ρ y) rdy m ns)
    (hm : menL d ns = false) (hbig : (m + m / 4 + 192) * el.by' ≤ 281474976710656) (hlen : m ≤ 9223372036854775807) :
    OpOk C ⟨some d, .call ⟨.builtin .append, #[x, y], #[T, U]⟩, ty, pos, after, guard⟩ ρ rdy pre (.c (.sl d m el.sz (m == 0)))
      [(d, some ⟨ns, 0, m == 0, false, none⟩)] := by
  intro μ M a next Q wf hr hbx hdist k
  have hx' := hr x (by simp [Op.operands, Call.operands]); rw [hx] at hx'
  have hv : a.eval x = .slice none 0 0 := RepI.lit_eq hx'
  obtain ⟨new, hbeh, hrep, hsing⟩ := hy μ M (a.eval y) wf (hr y (by simp [Op.operands, Call.operands])) (fun b' h' => hbx b' (List.mem_append_left _ h'))
  have hnsl : ns.length = m * el.sz := by rw [← hrep.1, hbeh.size]
  have post1 : ∀ p : Option Box, postOf [(d, p)] d = p := fun p => by simp [postOf, List.lookup]
  unfold Oper.wp
  have el2 := eltOf_some he
  by_cases h0 : m = 0
  · subst h0
    have hns : ns = [] := List.eq_nil_of_length_eq_zero (by rw [hnsl]; simp)
    subst hns
    have e := append_exec (C := C) (ty := ty) (pos := pos) (after := after) (guard := guard) (x := x) (y := y) (T := T) (U := U) (d := d) (a := a) (w := M.w) (w' := M.w) (v := .slice none 0 0)
      (by rw [hv]; exact run_append_fit he hbeh (Nat.le_refl _) (fun _ h => by cases h) (fun _ => rfl))
    rw [e]
    refine k (.slice none 0 0) μ M ⟨rfl, rfl⟩ ((Trans.refl C pre μ M wf).weaken) ?_ ?_ ?_
    · intro b' hb' bx' hbx'
      simp only [wrOf, List.map_cons, List.map_nil, List.mem_cons, List.not_mem_nil, or_false] at hb'
      subst hb'
      rw [post1] at hbx'; cases hbx'
      exact ⟨fun _ => ⟨rfl, rfl⟩, (fun h => by simp at h), fun _ h => nomatch h⟩
    · intro z hz hl
      simp only [wrOf, List.map_cons, List.map_nil, List.mem_cons, List.not_mem_nil, or_false] at hz
      subst hz
      rw [post1] at hl; simp [liveB] at hl
    · intro z hz z' hz' hl hl' _
      simp only [wrOf, List.map_cons, List.map_nil, List.mem_cons, List.not_mem_nil, or_false] at hz
      subst hz
      rw [post1] at hl; simp [liveB] at hl
  · obtain ⟨nc, w1, h1, h2, h3, h4, h5, e⟩ := run_append_new (ty := ty) he hbeh (n := 0) (cap := 0) (a := none) (old := #[]) (by omega) (Nat.le_refl _)
      (fun w' _ => by simp [Builtin.firstCells]) (by simpa using hbig) (by simpa using hlen)
    have e := append_exec (C := C) (ty := ty) (pos := pos) (after := after) (guard := guard) (x := x) (y := y) (T := T) (U := U) (d := d) (a := a) (w := M.w) (by rw [hv]; exact e)
    rw [e]
    have hnlf : (m == 0) = false := by simpa using h0
    have t := new_trans' (C := C) (μ := μ) wf hd (.cells (#[] ++ new ++ Builtin.zeroCells el.z (nc - (0 + m))) el.e) w1 h2 h3 h4 h5
    have hrb := rep_row (C := C) wf hd (rest := Builtin.zeroCells el.z (nc - (0 + m))) el.e hm hrep w1 h2 h3 h4 h5 0 (Nat.zero_le _)
    have hz : nc * el.sz ≤ (new ++ Builtin.zeroCells el.z (nc - (0 + m))).size := by
      have e2 := hrep.1
      simp only [Array.size_append, Builtin.zeroCells, Array.size_map, Array.size_range, el2.2.2.2.2.1]
      have : nc * el.sz = m * el.sz + (nc - (0 + m)) * el.sz := by rw [← Nat.add_mul]; congr 1; omega
      omega
    rw [hnlf] at k
    simp only [Array.empty_append, Nat.zero_add] at t hrb hz h1 ⊢
    refine k (.slice (some ⟨M.w.heap.size, 0, none⟩) m nc) (upd μ d M.w.heap.size) _ ?_ (t.more (by simp [wrOf])) ?_ ?_ ?_
    · refine ⟨nc, _, el.e, (0, 0), by simp [upd], h1, ?_, hz, ?_⟩
      · simp [upd]
      · simp only [upd, if_true]
        intro s; exact absurd (wf.sp _ s) (Nat.lt_irrefl _)
    · intro b' hb' bx' hbx'
      simp only [wrOf, List.map_cons, List.map_nil, List.mem_cons, List.not_mem_nil, or_false] at hb'
      subst hb'
      rw [post1] at hbx'; cases hbx'; exact hrb
    · intro z hz hl
      simp only [wrOf, List.map_cons, List.map_nil, List.mem_cons, List.not_mem_nil, or_false] at hz
      subst hz
      left; simp [upd]
    · intro z hz z' hz' hl hl' _
      simp only [wrOf, List.map_cons, List.map_nil, List.mem_cons, List.not_mem_nil, or_false] at hz hz'
      rw [hz, hz']

theorem beh_list {sz : Nat} {U E : TypeId} {m : Nat} {flat : List AC} (hU : tySlice C.P U = some E) (hl : flat.length = m * sz) (hs : flat.all (·.single) = true) :
    BehOk C sz U pre (.c (.list m flat)) [] m flat := by
  intro μ M v wf hr _
  have hu : C.P.underlying U = some (.slice E) := by
    unfold tySlice at hU
    cases hu : C.P.underlying U with
    | none => simp [hu] at hU
    | some d => cases d <;> simp [hu] at hU; rw [hU]
  have hr : RepI C M (.list m flat) v := hr
  generalize hz : AC.list m flat = z at hr
  cases hr <;> cases hz
  rename_i a cap blk off c hn ha hc hrr
  refine ⟨(Array.range flat.length).map c, ⟨.inl ⟨E, hu⟩, fun w => by simp [Builtin.lenOf], fun w' hw => ?_, by simp [hl]⟩, ⟨by simp, fun i h1 h2 => ?_⟩, ?_⟩
  · by_cases hf : flat = []
    · subst hf
      have : m * sz = 0 := by simpa using hl.symm
      cases a with
      | none => simp [Builtin.firstCells]
      | some ad => simp [Builtin.firstCells, this, loadCells, loadCellsFrom]
    · have := ha hf
      subst this
      have hld := run_loadCells (P := C.P) (w := w') blk off (m * sz) 0 #[] c (fun j hj => by
        rw [Nat.zero_add]
        have := (hc j (by omega)).2
        simp only [World.cell?, hw] at this ⊢; exact this)
      simp only [Builtin.firstCells, loadCells]
      rw [hld, hl]; simp
  · have := hrr i h1
    simpa using RepC.of_I (μ := μ) this
  · intro x hx
    simp only [Array.toList_map, Array.toList_range, List.mem_map, List.mem_range] at hx
    obtain ⟨i, hi, rfl⟩ := hx
    exact RepC.single (μ := μ) (List.all_eq_true.1 hs _ (List.getElem_mem hi)) (RepC.of_I (hrr i hi))

theorem beh_sl {sz : Nat} {U E : TypeId} {m b : Nat} {nl : Bool} {bx : Box} (hU : tySlice C.P U = some E) (hb : pre b = some bx) (hnl : bx.nl = nl) (hl : m * sz ≤ bx.cells.length) (hs : (bx.cells.take (m * sz)).all (·.single) = true) :
    BehOk C sz U pre (.c (.sl b m sz nl)) [b] m (bx.cells.take (m * sz)) := by
  intro μ M v wf hr hbx
  have hu : C.P.underlying U = some (.slice E) := by
    unfold tySlice at hU
    cases hu : C.P.underlying U with
    | none => simp [hu] at hU
    | some d => cases d <;> simp [hu] at hU; rw [hU]
  have hB := hbx b (by simp) bx hb
  cases nl with
  | true =>
    obtain ⟨rfl, rfl⟩ := (hr : RepC C μ M (.sl b m sz true) v)
    have := (hB.1 hnl).1
    exact ⟨#[], ⟨.inl ⟨E, hu⟩, fun w => by simp [Builtin.lenOf], fun w' _ => by simp [Builtin.firstCells], by simp⟩, ⟨by simp, fun i h1 h2 => by simp at h2⟩, by simp⟩
  | false =>
    obtain ⟨cap, c, Tb, fz, rfl, hcap, hh, hz, hsp⟩ := (hr : RepC C μ M (.sl b m sz false) v)
    obtain ⟨⟨c2, Tb2, fz2, hh2, hfz, hl2, hcell⟩, himm, hpl, hsp2⟩ := (hB.repR hnl hh).2
    rw [hh] at hh2
    cases hh2
    refine ⟨c.extract 0 (m * sz), ⟨.inl ⟨E, hu⟩, fun w => by simp [Builtin.lenOf], fun w' hw => first_of_box (C := C) (bx := bx) hh (by omega) w' hw, by simp; omega⟩, ⟨by simp; omega, fun i h1 h2 => ?_⟩, ?_⟩
    · have hi : i < m * sz := by simp at h2; omega
      have := (hcell i (by omega) (by omega)).1
      simpa [List.getElem_take] using this
    · intro x hx
      obtain ⟨i, hi, rfl⟩ := List.getElem_of_mem hx
      have hi' : i < m * sz := by simp at hi; omega
      have hmem : (bx.cells.take (m * sz))[i]'(by simp; omega) ∈ bx.cells.take (m * sz) := List.getElem_mem _
      have h1 := List.all_eq_true.1 hs _ hmem
      have := (hcell i (by omega) (by omega)).1
      rw [List.getElem_take] at h1
      simpa using this.single h1

/-- A text's bytes, as cells. -/
def bytesL (s : ByteArray) : List AC := s.data.toList.map fun b => .lit (.int .u8 b.toNat)

theorem beh_str {U : TypeId} {s : ByteArray} (hU : tyIs C.P U (· matches .string) = true) :
    BehOk C 1 U pre (.c (.lit (.string s))) [] s.size (bytesL s) := by
  intro μ M v wf hr _
  have hu : C.P.underlying U = some .string := by
    unfold tyIs at hU
    cases hu : C.P.underlying U with
    | none => simp [hu] at hU
    | some d => cases d <;> simp [hu] at hU; rfl
  have hv : v = .string s := RepI.lit_eq hr
  subst hv
  refine ⟨s.data.map fun b => .int .u8 b.toNat, ⟨.inr hu, fun w => rfl, fun w' _ => ?_, by rw [Array.size_map, Nat.mul_one]; rfl⟩, ⟨by simp [bytesL], fun i h1 h2 => ?_⟩, ?_⟩
  · simp only [Builtin.firstCells]
    have : (s.extract 0 s.size) = s := by
      cases s; simp
    rw [this]; rfl
  · simp only [bytesL, List.getElem_map, Array.getElem_map, Array.getElem_toList]
    exact RepI.lit _
  · intro x hx
    simp only [Array.toList_map, List.mem_map] at hx
    obtain ⟨b, _, rfl⟩ := hx
    rfl

theorem beh_nil {sz : Nat} {U E : TypeId} (hU : tySlice C.P U = some E) : BehOk C sz U pre (.c (.lit (.slice none 0 0))) [] 0 [] := by
  intro μ M v wf hr _
  have hu : C.P.underlying U = some (.slice E) := by
    unfold tySlice at hU
    cases hu : C.P.underlying U with
    | none => simp [hu] at hU
    | some d => cases d <;> simp [hu] at hU; rw [hU]
  have hv : v = .slice none 0 0 := RepI.lit_eq hr
  subst hv
  exact ⟨#[], ⟨.inl ⟨E, hu⟩, fun w => by simp [Builtin.lenOf], fun w' _ => by simp [Builtin.firstCells], by simp⟩, ⟨by simp, fun i h1 h2 => by simp at h2⟩, by simp⟩
end ops
end Go.Ev
/-
  A symbolic executor over abstract states, part 7e: lengths, items, pieces, conversions; what is published; calls.
-/
namespace Go.Ev
set_option linter.unusedSimpArgs false
set_option linter.unusedVariables false

/-- Whole numbers, as cells. -/
def IL (k : IntKind) (l : List Int) : List AC := l.map fun n => .lit (.int k n)
/-- A text's bytes, as numbers. -/
def bytesI (s : ByteArray) : List Int := s.data.toList.map fun b => (b.toNat : Int)
theorem bytesL_eq (s : ByteArray) : bytesL s = IL .u8 (bytesI s) := by simp [bytesL, IL, bytesI]
/-- The text of bytes. -/
def textOf (l : List Int) : ByteArray := ⟨(l.map fun n => UInt8.ofNat n.toNat).toArray⟩

section ops
variable {C : Cfg} {dst : Option Tmp} {ty : TypeId} {pos : String} {after : Array Edge} {guard : Option (Nat × Bool)} {ρ : Operand → AV} {pre : Nat → Option Box}

theorem und_slice {P : Program} {U E : TypeId} (hU : tySlice P U = some E) : P.underlying U = some (.slice E) := by
  unfold tySlice at hU
  cases hu : P.underlying U with
  | none => simp [hu] at hU
  | some d => cases d <;> simp [hu] at hU; rw [hU]
theorem und_arr {P : Program} {U E : TypeId} {n : Nat} (hU : tyArr P U = some (n, E)) : P.underlying U = some (.array n E) := by
  unfold tyArr at hU
  cases hu : P.underlying U with
  | none => simp [hu] at hU
  | some d => cases d <;> simp [hu] at hU; rw [hU.1, hU.2]
theorem und_str {P : Program} {U : TypeId} (hU : tyIs P U (· matches .string) = true) : P.underlying U = some .string := by
  unfold tyIs at hU
  cases hu : P.underlying U with
  | none => simp [hu] at hU
  | some d => cases d <;> simp [hu] at hU; rfl

/-! ### len -/

def isSlT (P : Program) (T : TypeId) : Bool := match P.underlying T with
  | some (.slice _) => true
  | _ => false
theorem isSlT_some {P : Program} {T : TypeId} (h : isSlT P T = true) : ∃ E, tySlice P T = some E := by
  unfold isSlT at h
  split at h
  · rename_i e hu; exact ⟨e, by simp [tySlice, hu]⟩
  · cases h
def lenA (P : Program) (T : TypeId) : AV → Option Int
  | .c (.lit (.string s)) => if tyIs P T (· matches .string) = true then some s.size else none
  | .c (.list n _) => if isSlT P T = true then some (n : Int) else none
  | .c (.sl _ n _ _) => if isSlT P T = true then some (n : Int) else none
  | .c (.lit (.slice none 0 0)) => if isSlT P T = true then some 0 else none
  | .agg _ => (tyArr P T).map fun p => (p.1 : Int)
  | _ => none

theorem ok_len {x : Operand} {T : TypeId} {n : Int} (h : lenA C.P T (ρ x) = some n) :
    OpOk C ⟨dst, .call ⟨.builtin .len, #[x], #[T]⟩, ty, pos, after, guard⟩ ρ [] pre (.c (.lit (.int .i64 n))) [] :=
  opOk_pure fun μ M ac _ hr => by
    have h1 := hr x (by simp [Op.operands, Call.operands])
    refine ⟨.int .i64 n, ?_, RepI.lit _⟩
    have fin : (Builtin.len_ #[T] ty #[ac.eval x]).run C.P M.w = .ok (.int .i64 n) M.w →
        (execOp ac.eval ⟨dst, .call ⟨.builtin .len, #[x], #[T]⟩, ty, pos, after, guard⟩).run C.P M.w = .ok (.value (.int .i64 n)) M.w := fun e => by
      simp [execOp, resolve, invoke, builtin, e]
    refine fin ?_
    unfold lenA at h
    split at h
    · rename_i s hx
      split at h
      · rename_i ht
        cases h
        rw [hx] at h1
        have h1 : ac.eval x = .string s := RepI.lit_eq h1
        simp [Builtin.len_, h1, run_underlying (und_str ht), goInt]
      · cases h
    · rename_i m flat hx
      rw [hx] at h1
      have h1 : RepI C M (.list m flat) (ac.eval x) := h1
      obtain ⟨hs, e⟩ : isSlT C.P T = true ∧ (m : Int) = n := by split at h <;> simp_all
      obtain ⟨E, hE⟩ := isSlT_some hs
      cases e
      generalize hv : ac.eval x = v at h1
      generalize hz : AC.list m flat = z at h1
      cases h1 <;> cases hz
      simp [Builtin.len_, run_underlying (und_slice hE), goInt]
    · rename_i b m sz nl hx
      rw [hx] at h1
      obtain ⟨hs, e⟩ : isSlT C.P T = true ∧ (m : Int) = n := by split at h <;> simp_all
      obtain ⟨E, hE⟩ := isSlT_some hs
      cases e
      cases nl with
      | true =>
        obtain ⟨rfl, hv⟩ := (h1 : RepC C μ M (.sl b m sz true) (ac.eval x))
        simp [Builtin.len_, hv, run_underlying (und_slice hE), goInt]
      | false =>
        obtain ⟨cap, c, Tb, fz, hv, _⟩ := (h1 : RepC C μ M (.sl b m sz false) (ac.eval x))
        simp [Builtin.len_, hv, run_underlying (und_slice hE), goInt]
    · rename_i hx
      rw [hx] at h1
      have h1 : ac.eval x = .slice none 0 0 := RepI.lit_eq h1
      obtain ⟨hs, e⟩ : isSlT C.P T = true ∧ (0 : Int) = n := by split at h <;> simp_all
      obtain ⟨E, hE⟩ := isSlT_some hs
      cases e
      simp [Builtin.len_, h1, run_underlying (und_slice hE), goInt]
    · rename_i cs hx
      obtain ⟨⟨m, E⟩, hE, e⟩ := Option.map_eq_some_iff.1 h
      cases e
      rw [hx] at h1
      obtain ⟨vs, hv, _⟩ := h1
      simp [Builtin.len_, hv, run_underlying (und_arr hE), goInt]
    · cases h

/-! ### items and parts of values -/

theorem ok_index_str {x y : Operand} {T : TypeId} {s : ByteArray} {k : IntKind} {i : Int} (hx : ρ x = .c (.lit (.string s))) (hy : ρ y = .c (.lit (.int k i))) (ht : tyIs C.P T (· matches .string) = true)
    (h0 : 0 ≤ i) (h1 : i < s.size) : OpOk C ⟨dst, .index T x y, ty, pos, after, guard⟩ ρ [] pre (.c (.lit (.int .u8 ((bytesI s).getD i.toNat 0)))) [] :=
  opOk_pure fun μ M ac _ hr => by
    have e1 := hr x (by simp [Op.operands]); rw [hx] at e1
    have e1 : ac.eval x = .string s := RepI.lit_eq e1
    have e2 := hr y (by simp [Op.operands]); rw [hy] at e2
    have e2 : ac.eval y = _ := RepI.lit_eq e2
    refine ⟨_, ?_, RepI.lit _⟩
    have hlt : i.toNat < s.size := by omega
    have hd : (bytesI s).getD i.toNat 0 = ((s[i.toNat]'hlt).toNat : Int) := by
      have hl : i.toNat < s.data.toList.length := by simpa using hlt
      simp only [bytesI, List.getD_eq_getElem?_getD, List.getElem?_map, List.getElem?_eq_getElem hl, Option.map_some, Option.getD_some, Array.getElem_toList]
      rfl
    have hg : s[i.toNat]? = some (s[i.toNat]'hlt) := by simp [getElem?_def, hlt]
    rw [hd]
    simp [execOp, e1, e2, Instr.index, asIntOf, run_underlying (und_str ht), h0, hg]

theorem run_part {P : Program} {T : TypeId} {cells : List AC} {off : Nat} {r : AV} (h : loadA P T cells off = some r) {μ : Nat → Nat} {M : Mem} {C : Cfg} (hP : C.P = P) {vs : Array Value} (hr : RepCs C μ M cells vs) (w : World) :
    ∃ v, (part T vs off).run P w = .ok v w ∧ Rep1 C μ M r v := by
  rcases loadA_or h with ⟨x, ha, hx, rfl⟩ | ⟨n, ha, hs, hle, rfl⟩
  · have hlt : off < cells.length := by
      rcases Nat.lt_or_ge off cells.length with h | h
      · exact h
      · rw [List.getElem?_eq_none h] at hx; cases hx
    have hx' : x = cells[off] := by rw [List.getElem?_eq_getElem hlt] at hx; exact (Option.some.inj hx).symm
    have hl := hr.1
    refine ⟨vs[off]'(by omega), ?_, ?_⟩
    · have : vs[off]? = some (vs[off]'(by omega)) := Array.getElem?_eq_getElem (by omega)
      simp [part, ha, this]
    · rw [hx']; exact hr.2 off hlt (by omega)
  · have hl := hr.1
    refine ⟨.agg (vs.extract off (off + n)), by simp [part, ha, hs], _, rfl, by simp; omega, fun i h1 h2 => ?_⟩
    have hi : i < n := by simp at h2; omega
    have := hr.2 (off + i) (by omega) (by omega)
    simpa [List.getElem_take, List.getElem_drop] using this

theorem ok_index_arr {x y : Operand} {T E : TypeId} {cs : List AC} {k : IntKind} {i : Int} {len n : Nat} {r : AV} (hx : ρ x = .agg cs) (hy : ρ y = .c (.lit (.int k i))) (ht : tyArr C.P T = some (len, E))
    (hn : tySize C.P E = some n) (h0 : 0 ≤ i) (h1 : i < len) (hr' : loadA C.P E cs (i.toNat * n) = some r) : OpOk C ⟨dst, .index T x y, ty, pos, after, guard⟩ ρ [] pre r [] :=
  opOk_pure fun μ M ac _ hr => by
    have e1 := hr x (by simp [Op.operands]); rw [hx] at e1
    obtain ⟨vs, e1, hvs⟩ := e1
    have e2 := hr y (by simp [Op.operands]); rw [hy] at e2
    have e2 : ac.eval y = _ := RepI.lit_eq e2
    obtain ⟨v, hp, hv⟩ := run_part hr' (C := C) rfl hvs M.w
    refine ⟨v, ?_, hv.V⟩
    simp [execOp, e1, e2, Instr.index, asIntOf, run_underlying (und_arr ht), h0, h1, run_sizeOf hn, hp]

theorem ok_field {x : Operand} {T U : TypeId} {f o : Nat} {cs : List AC} {r : AV} (hx : ρ x = .agg cs) (ht : tyField C.P T f = some (o, U)) (hr' : loadA C.P U cs o = some r) :
    OpOk C ⟨dst, .field T x f, ty, pos, after, guard⟩ ρ [] pre r [] :=
  opOk_pure fun μ M ac _ hr => by
    have e1 := hr x (by simp [Op.operands]); rw [hx] at e1
    obtain ⟨vs, e1, hvs⟩ := e1
    obtain ⟨v, hp, hv⟩ := run_part hr' (C := C) rfl hvs M.w
    refine ⟨v, ?_, hv.V⟩
    unfold tyField at ht
    cases hu : C.P.underlying T with
    | none => simp [hu] at ht
    | some d =>
      cases d <;> simp [hu] at ht
      obtain ⟨y, hy, rfl, rfl⟩ := ht
      simp [execOp, e1, Instr.field, run_underlying hu, hy, asAgg, hp]

/-! ### pieces -/

/-- A bound of a slice, if it stands there. -/
def bndA (ρ : Operand → AV) (dflt : Int) : Option Operand → Option Int
  | none => some dflt
  | some x => match ρ x with
    | .c (.lit (.int _ n)) => some n
    | _ => none

theorem bnd_run {P : Program} {μ : Nat → Nat} {M : Mem} {a : Act} {x : Operand} {n : Int} {d : Int} (hb : bndA ρ d (some x) = some n) (hr : RepV C μ M (ρ x) (a.eval x)) {y : Nat} (h0 : 0 ≤ n) (h1 : n ≤ y) (code : BoundsCode) (w : World) :
    (Instr.sliceBound (a.eval x) y code).run P w = .ok n.toNat w := by
  unfold bndA at hb
  split at hb
  · rename_i e; cases e
  · rename_i x' e
    cases e
    split at hb
    · rename_i k m hx
      cases hb
      rw [hx] at hr
      have : a.eval x = .int k n := RepI.lit_eq hr
      simp [Instr.sliceBound, this, asIntOf, h0, h1]
    · cases hb

theorem bounds_run {P : Program} {μ : Nat → Nat} {M : Mem} {a : Act} {lo hi : Option Operand} {l h : Int} {len cap : Nat} (isS : Bool) (hlo : bndA ρ 0 lo = some l) (hhi : bndA ρ len hi = some h)
    (hr : ∀ x, lo = some x ∨ hi = some x → RepV C μ M (ρ x) (a.eval x)) (h0 : 0 ≤ l) (h1 : l ≤ h) (h2 : h ≤ len) (hc : len ≤ cap) (w : World) :
    (Instr.sliceBounds isS len cap (lo.map a.eval) (hi.map a.eval) none).run P w = .ok (l.toNat, h.toNat, cap) w := by
  have e2 : ((match hi.map a.eval, (none : Option Value) with
    | some v, some _ => Instr.sliceBound v cap .slice3B
    | some v, none => Instr.sliceBound v cap (if isS then .sliceAcap else .sliceAlen)
    | none, none => pure len
    | none, some _ => stuck "Slice: max without high") : Sem Nat).run P w = .ok h.toNat w := by
    cases hi with
    | none => simp [bndA] at hhi; subst hhi; simp
    | some x => exact bnd_run (d := len) hhi (hr x (.inr rfl)) (by omega) (by omega) _ w
  have e3 : ((match lo.map a.eval with
    | some v => Instr.sliceBound v h.toNat .sliceB
    | none => pure 0) : Sem Nat).run P w = .ok l.toNat w := by
    cases lo with
    | none => simp [bndA] at hlo; subst hlo; simp
    | some x => exact bnd_run (d := 0) hlo (hr x (.inl rfl)) h0 (by omega) _ w
  unfold Instr.sliceBounds
  cases hi with
  | none =>
    cases lo with
    | none => simp [bndA] at hlo hhi; subst hlo; subst hhi; simp
    | some x => simp [bndA] at hhi; subst hhi; simp at e3; simp [e3]
  | some y =>
    simp at e2
    cases lo with
    | none => simp [bndA] at hlo; subst hlo; simp [e2]
    | some x => simp at e3; simp [e2, e3]

theorem ok_slice_str {x : Operand} {lo hi : Option Operand} {T : TypeId} {s : ByteArray} {l h : Int} (hx : ρ x = .c (.lit (.string s))) (ht : tyIs C.P T (· matches .string) = true)
    (hlo : bndA ρ 0 lo = some l) (hhi : bndA ρ s.size hi = some h) (h0 : 0 ≤ l) (h1 : l ≤ h) (h2 : h ≤ s.size) :
    OpOk C ⟨dst, .slice T x lo hi none, ty, pos, after, guard⟩ ρ [] pre (.c (.lit (.string (s.extract l.toNat h.toNat)))) [] :=
  opOk_pure fun μ M ac _ hr => by
    have e1 := hr x (by simp [Op.operands]); rw [hx] at e1
    have e1 : ac.eval x = .string s := RepI.lit_eq e1
    refine ⟨_, ?_, RepI.lit _⟩
    have := bounds_run (P := C.P) (C := C) (μ := μ) (M := M) (a := ac) false hlo hhi (fun y hy => hr y (by rcases hy with rfl | rfl <;> simp [Op.operands])) h0 h1 h2 (Nat.le_refl _) M.w
    simp [execOp, e1, Instr.sliceAt, Instr.slice, run_underlying (und_str ht), this]

/-- A piece of a list that nobody writes. -/
def pieceL (sz : Nat) (l h : Int) (flat : List AC) : List AC := (flat.drop (l.toNat * sz)).take ((h.toNat - l.toNat) * sz)

theorem RepI.piece {M : Mem} {n cap sz : Nat} {flat : List AC} {a : Option Addr} {l h : Int} (hr : RepI C M (.list n flat) (.slice a n cap)) (hfl : flat.length = n * sz) (h0 : 0 ≤ l) (h1 : l ≤ h) (h2 : h ≤ n) :
    RepI C M (.list (h.toNat - l.toNat) (pieceL sz l h flat)) (.slice (if cap = l.toNat then a else a.map (·.add (l.toNat * sz))) (h.toNat - l.toNat) (cap - l.toNat)) := by
  generalize hz : AC.list n flat = z at hr
  generalize hv : Value.slice a n cap = v at hr
  cases hr <;> cases hz
  rename_i a' cap' blk off c hn ha hc hr'
  simp only [Value.slice.injEq, true_and] at hv
  obtain ⟨rfl, rfl⟩ := hv
  have hlen : (pieceL sz l h flat).length = (h.toNat - l.toNat) * sz := by
    simp only [pieceL, List.length_take, List.length_drop, hfl]
    rw [← Nat.sub_mul, Nat.min_eq_left]
    exact Nat.mul_le_mul_right _ (by omega)
  have hbound : ∀ i, i < (pieceL sz l h flat).length → l.toNat * sz + i < flat.length := fun i hi => by
    simp only [pieceL, List.length_take, List.length_drop] at hi; omega
  refine .list _ _ _ _ blk (off + l.toNat * sz) (fun i => c (l.toNat * sz + i)) (by omega) (fun hne => ?_) (fun i hi => ?_) (fun i hi => ?_)
  · have hpos : 0 < (pieceL sz l h flat).length := List.length_pos_iff.2 hne
    have hlt : l.toNat < h.toNat := by
      rcases Nat.lt_or_ge l.toNat h.toNat with g | g
      · exact g
      · rw [hlen, Nat.sub_eq_zero_of_le g] at hpos; simp at hpos
    have hne' : flat ≠ [] := fun e => by have := hbound 0 hpos; simp [e] at this
    rw [ha hne', if_neg (by omega)]
    simp [addr_add]
  · have := hc _ (hbound i hi)
    rwa [← Nat.add_assoc] at this
  · have := hr' _ (hbound i hi)
    simpa [pieceL, List.getElem_take, List.getElem_drop] using this

theorem ok_slice_list {x : Operand} {lo hi : Option Operand} {T E : TypeId} {n sz : Nat} {flat : List AC} {l h : Int} (hx : ρ x = .c (.list n flat)) (ht : tySlice C.P T = some E) (hsz : tySize C.P E = some sz) (hfl : flat.length = n * sz)
    (hlo : bndA ρ 0 lo = some l) (hhi : bndA ρ n hi = some h) (h0 : 0 ≤ l) (h1 : l ≤ h) (h2 : h ≤ n) :
    OpOk C ⟨dst, .slice T x lo hi none, ty, pos, after, guard⟩ ρ [] pre (.c (.list (h.toNat - l.toNat) (pieceL sz l h flat))) [] :=
  opOk_pure fun μ M ac _ hr => by
    have e1 := hr x (by simp [Op.operands]); rw [hx] at e1
    have e1 : RepI C M (.list n flat) (ac.eval x) := e1
    have e1' := e1
    generalize hz : AC.list n flat = z at e1
    generalize hv : ac.eval x = v at e1 e1'
    cases e1 <;> cases hz
    rename_i a cap blk off c hn ha hc hr'
    have := bounds_run (P := C.P) (C := C) (μ := μ) (M := M) (a := ac) (cap := cap) true hlo hhi (fun y hy => hr y (by rcases hy with rfl | rfl <;> simp [Op.operands])) h0 h1 h2 hn M.w
    refine ⟨_, ?_, e1'.piece hfl h0 h1 h2⟩
    simp [execOp, hv, Instr.sliceAt, Instr.slice, run_underlying (und_slice ht), run_sizeOf hsz, this]

theorem ok_slice_nil {x : Operand} {lo hi : Option Operand} {T E : TypeId} {sz : Nat} (hx : ρ x = .c (.lit (.slice none 0 0))) (ht : tySlice C.P T = some E) (hsz : tySize C.P E = some sz)
    (hlo : bndA ρ 0 lo = some 0) (hhi : bndA ρ 0 hi = some 0) :
    OpOk C ⟨dst, .slice T x lo hi none, ty, pos, after, guard⟩ ρ [] pre (.c (.lit (.slice none 0 0))) [] :=
  opOk_pure fun μ M ac _ hr => by
    have e1 := hr x (by simp [Op.operands]); rw [hx] at e1
    have e1 : ac.eval x = .slice none 0 0 := RepI.lit_eq e1
    have := bounds_run (P := C.P) (C := C) (μ := μ) (M := M) (a := ac) (len := 0) (cap := 0) true hlo hhi (fun y hy => hr y (by rcases hy with rfl | rfl <;> simp [Op.operands])) (Int.le_refl _) (Int.le_refl _) (by simp) (Nat.le_refl _) M.w
    refine ⟨_, ?_, RepI.lit _⟩
    simp [execOp, e1, Instr.sliceAt, Instr.slice, run_underlying (und_slice ht), run_sizeOf hsz, this]
end ops
end Go.Ev
/-
  A symbolic executor over abstract states, part 7f: what is published; calls that are handed slices of one's own; function values; new slices; texts and bytes.
-/
namespace Go.Ev
set_option linter.unusedSimpArgs false
set_option linter.unusedVariables false

/-- A box that nobody writes any more. -/
def pubB (bx : Box) : Box := { bx with pub := bx.cells.length }

/-- Memory in which the boxes bs are written by nobody any more. -/
def pubM (M : Mem) (μ : Nat → Nat) (pre : Nat → Option Box) (bs : List Nat) : Mem :=
  ⟨M.w, fun blk o => M.I blk o ∨ ∃ b ∈ bs, ∃ bx, pre b = some bx ∧ bx.nl = false ∧ blk = μ b ∧ o < bx.cells.length, M.Sp⟩

section pub
variable {C : Cfg} {μ : Nat → Nat} {M : Mem} {pre : Nat → Option Box} {bs : List Nat}

theorem pub_trans (wf : Wf C M) (hb : ∀ b ∈ bs, ∀ bx, pre b = some bx → RepB C μ M b bx) : Trans C bs pre μ M μ (pubM M μ pre bs) := by
  have g : Grow C M (pubM M μ pre bs) := ⟨Nat.le_refl _, fun _ _ i => ⟨.inl i, rfl⟩, fun _ s => s, fun _ x _ e => ⟨x, e, C.refl x⟩⟩
  refine ⟨g, ⟨fun blk o i => ?_, wf.sp, fun g' flat hg => (wf.glob g' flat hg).mono g, fun g' vs hg => fix_mono g (wf.fix g' vs hg)⟩, rfl, rfl, rfl, fun blk h1 h2 h3 => ⟨rfl, fun o i => ?_⟩, fun _ _ s => s, fun blk c T fz e _ => ⟨c, fz, e, rfl⟩, fun _ _ => rfl⟩
  · rcases i with i | ⟨b, hb', bx, e, hn, rfl, ho⟩
    · exact wf.imm blk o i
    · refine ⟨(hb b hb' bx e).lt hn, ?_⟩
      cases ho : bx.obj with
      | none => exact ((hb b hb' bx e).2.1 hn ho).sp
      | some o => exact ((hb b hb' bx e).2.2 o ho).sp
  · rcases i with i | ⟨b, hb', bx, e, hn, rfl, ho⟩
    · exact i
    · exact (h3 b hb' (by simp [e, liveB, hn]) rfl).elim

theorem pub_box (wf : Wf C M) (hb : ∀ b ∈ bs, ∀ bx, pre b = some bx → RepB C μ M b bx)
    (hd : ∀ x ∈ bs, ∀ y ∈ bs, liveB (pre x) = true → liveB (pre y) = true → μ x = μ y → x = y) {b : Nat} (hm : b ∈ bs) {bx : Box} (e : pre b = some bx) :
    RepB C μ (pubM M μ pre bs) b (pubB bx) := by
  have t := pub_trans (C := C) wf hb
  have h := hb b hm bx e
  refine ⟨fun hn => ⟨(h.1 hn).1, by simp [pubB, (h.1 hn).1]⟩, fun hn ho => ?_, fun o ho => ?_⟩
  case refine_2 =>
    have hR := h.2.2 o ho
    refine ⟨hR.nl, hR.at_, hR.cells, by simp [pubB, hR.cells], fun i hi => ?_, hR.sp, hR.nc⟩
    rcases hi with hi | ⟨b', hb', bx', e', hn', eq, hlt⟩
    · exact hR.imm i hi
    · have : b = b' := hd b hm b' hb' (by simp [e, liveB, hR.nl]) (by simp [e', liveB, hn']) eq
      subst this
      rw [e] at e'; cases e'
      rw [hR.cells] at hlt; simp at hlt
  obtain ⟨⟨c, T, fz, h1, h2, h3, h4⟩, h5, h6, h7⟩ := h.2.1 hn ho
  refine ⟨⟨c, T, fz, h1, h2, h3, fun i i1 i2 => ⟨(h4 i i1 i2).1.trans t fun _ _ => rfl, fun hr => ((h4 i i1 i2).2 hr).mono t.grow⟩⟩, fun o i => ?_, Nat.le_refl _, h7⟩
  rcases i with i | ⟨b', hb', bx', e', hn', eq, ho⟩
  · exact Nat.lt_of_lt_of_le (h5 o i) h6
  · have : b = b' := hd b hm b' hb' (by have hn : bx.nl = false := hn; simp [e, liveB, hn]) (by simp [e', liveB, hn']) eq
    subst this
    rw [e] at e'; cases e'; exact ho

theorem pub_list (wf : Wf C M) (hb : ∀ b ∈ bs, ∀ bx, pre b = some bx → RepB C μ M b bx) {b n sz : Nat} {nl : Bool} (hm : b ∈ bs) {bx : Box} (e : pre b = some bx) (hnl : bx.nl = nl) (hle : n * sz ≤ bx.cells.length)
    (hp : bx.cells.all (·.pure) = true) {v : Value} (hv : RepC C μ M (.sl b n sz nl) v) : RepI C (pubM M μ pre bs) (.list n (bx.cells.take (n * sz))) v := by
  have t := pub_trans (C := C) wf hb
  have h := hb b hm bx e
  cases nl with
  | true =>
    obtain ⟨rfl, rfl⟩ := hv
    have := (h.1 hnl).1
    refine .list _ _ _ _ 0 0 (fun _ => undef) (Nat.le_refl _) (fun hne => by simp at hne) (fun i hi => by simp at hi) (fun i hi => by simp at hi)
  | false =>
    obtain ⟨cap, c, Tb, fz, rfl, hcap, hh, hz, hs⟩ := hv
    obtain ⟨⟨c2, Tb2, fz2, hh2, hfz, hl2, hcell⟩, himm, hpl, hsp2⟩ := (h.repR hnl hh).2
    rw [hh] at hh2
    cases hh2
    refine .list _ _ _ _ (μ b) 0 (fun i => c.getD i undef) hcap (fun _ => rfl) (fun i hi => ⟨.inr ⟨b, hm, bx, e, hnl, rfl, ?_⟩, ?_⟩) (fun i hi => ?_)
    · simp at hi; omega
    · have hi' : i < c.size := by simp at hi; omega
      show (M.w).cell? _ = _
      simp [World.cell?, hh, Array.getD_eq_getD_getElem?, hi']
    · have hi' : i < c.size := by simp at hi; omega
      have hi2 : i < bx.cells.length := by simp at hi; omega
      have := pure_I (List.all_eq_true.1 hp _ (List.getElem_mem hi2)) (hcell i hi2 hi').1
      simpa [List.getElem_take, Array.getD_eq_getD_getElem?, hi'] using this.mono t.grow
end pub

section ops
variable {C : Cfg} {dst : Option Tmp} {ty : TypeId} {pos : String} {after : Array Edge} {guard : Option (Nat × Bool)} {ρ : Operand → AV} {pre : Nat → Option Box}

/-- A piece of a slice of one's own, which nobody writes any more then. -/
theorem ok_slice_sl {x : Operand} {lo hi : Option Operand} {T E : TypeId} {b n sz : Nat} {nl : Bool} {bx : Box} {l h : Int} (hx : ρ x = .c (.sl b n sz nl)) (hb : pre b = some bx) (hnl : bx.nl = nl) (hle : n * sz ≤ bx.cells.length)
    (hp : bx.cells.all (·.pure) = true) (ht : tySlice C.P T = some E) (hsz : tySize C.P E = some sz)
    (hlo : bndA ρ 0 lo = some l) (hhi : bndA ρ n hi = some h) (h0 : 0 ≤ l) (h1 : l ≤ h) (h2 : h ≤ n) :
    OpOk C ⟨dst, .slice T x lo hi none, ty, pos, after, guard⟩ ρ [] pre (.c (.list (h.toNat - l.toNat) (pieceL sz l h (bx.cells.take (n * sz))))) [(b, some (pubB bx))] := by
  intro μ M a next Q wf hr hbx hdist k
  have e1 := hr x (by simp [Op.operands]); rw [hx] at e1
  have hbs : ∀ b' ∈ [b], ∀ bx', pre b' = some bx' → RepB C μ M b' bx' := fun b' h' => hbx b' (by simpa [wrOf] using h')
  have hds : ∀ x ∈ [b], ∀ y ∈ [b], liveB (pre x) = true → liveB (pre y) = true → μ x = μ y → x = y := fun x hx y hy _ _ _ => by simp at hx hy; rw [hx, hy]
  have hl := pub_list (C := C) wf hbs (b := b) (by simp) hb hnl hle hp (v := a.eval x) e1
  have t := pub_trans (C := C) (μ := μ) wf hbs
  have hv2 := hl
  generalize hz : AC.list n (bx.cells.take (n * sz)) = z at hl
  generalize hv : a.eval x = v at hl hv2
  cases hl <;> cases hz
  rename_i ad cap blk off c hn ha hc hr'
  have := bounds_run (P := C.P) (C := C) (μ := μ) (M := M) (a := a) (cap := cap) true hlo hhi (fun y hy => hr y (by rcases hy with rfl | rfl <;> simp [Op.operands])) h0 h1 h2 hn M.w
  have e : (execOp a.eval ⟨dst, .slice T x lo hi none, ty, pos, after, guard⟩).run C.P M.w = .ok (.value (.slice (if cap = l.toNat then ad else ad.map (·.add (l.toNat * sz))) (h.toNat - l.toNat) (cap - l.toNat))) M.w := by
    simp [execOp, hv, Instr.sliceAt, Instr.slice, run_underlying (und_slice ht), run_sizeOf hsz, this]
  unfold Oper.wp
  rw [e]
  have hw : wrOf [(b, some (pubB bx))] = [b] := rfl
  refine k _ μ (pubM M μ pre [b]) (RepC.of_I (μ := μ) (hv2.piece (by simp; omega) h0 h1 h2)) t ?_ ?_ ?_
  · intro b' hb' bx' hbx'
    simp [wrOf] at hb'
    subst hb'
    simp [postOf] at hbx'
    subst hbx'
    exact pub_box wf hbs hds (by simp) hb
  · intro z hz hlz
    simp [wrOf] at hz
    subst hz
    simp [postOf, liveB, pubB] at hlz
    exact .inr ⟨z, by simp [wrOf], by simp [hb, liveB, hlz], rfl⟩
  · intro z hz z' hz' _ _ _
    simp [wrOf] at hz hz'
    rw [hz, hz']

/-! ### calls -/

/-- A literal, as a callee is handed it: the nil slice as a list without elements. -/
def litP : Value → AC
  | .slice none 0 0 => .list 0 []
  | v => .lit v
theorem litP_rep {C : Cfg} {M : Mem} (v : Value) : RepI C M (litP v) v := by
  unfold litP
  split
  · exact .list none 0 0 [] 0 0 (fun _ => undef) (Nat.le_refl _) (fun h => absurd rfl h) (fun i hi => absurd hi (Nat.not_lt_zero _)) (fun i hi => absurd hi (Nat.not_lt_zero _))
  · exact .lit _
/-- What a callee is handed: slices of one's own as lists. -/
def pubC (pre : Nat → Option Box) : AC → AC
  | .lit v => litP v
  | .sl b n sz nl => match pre b with
    | some bx => if bx.nl = nl ∧ n * sz ≤ bx.cells.length ∧ bx.cells.all (·.pure) = true then .list n (bx.cells.take (n * sz)) else .sl b n sz nl
    | none => .sl b n sz nl
  | a => a
def pubA (pre : Nat → Option Box) : AV → AV
  | .c a => .c (pubC pre a)
  | .agg cs => .agg (cs.map (pubC pre))
  | .tup vs => .tup vs
/-- The boxes behind the slices that are handed over. -/
def slC : AC → List Nat
  | .sl b _ _ _ => [b]
  | _ => []
def slA : AV → List Nat
  | .c a => slC a
  | .agg cs => cs.flatMap slC
  | .tup _ => []

theorem pubC_rep {μ : Nat → Nat} {M : Mem} {bs : List Nat} (wf : Wf C M) (hb : ∀ b ∈ bs, ∀ bx, pre b = some bx → RepB C μ M b bx) {a : AC} {v : Value} (hs : ∀ b ∈ slC a, b ∈ bs) (h : RepC C μ M a v) :
    RepC C μ (pubM M μ pre bs) (pubC pre a) v := by
  have t := pub_trans (C := C) wf hb
  cases a with
  | sl b n sz nl =>
    simp only [pubC]
    cases e : pre b with
    | none => exact h.trans t fun _ _ => rfl
    | some bx =>
      simp only
      split
      · rename_i hh
        exact RepC.of_I (pub_list wf hb (hs b (by simp [slC])) e hh.1 hh.2.1 hh.2.2 h)
      · exact h.trans t fun _ _ => rfl
  | lit v' =>
    have e : v = v' := RepI.lit_eq h
    subst e
    exact RepC.of_I (litP_rep v)
  | _ => exact h.trans t fun _ _ => rfl

theorem pubA_rep {μ : Nat → Nat} {M : Mem} {bs : List Nat} (wf : Wf C M) (hb : ∀ b ∈ bs, ∀ bx, pre b = some bx → RepB C μ M b bx) {a : AV} {v : Value} (hs : ∀ b ∈ slA a, b ∈ bs) (h : Rep1 C μ M a v) :
    Rep1 C μ (pubM M μ pre bs) (pubA pre a) v := by
  cases a with
  | c a => exact pubC_rep wf hb hs h
  | agg cs =>
    obtain ⟨vs, e, h1, h2⟩ := h
    refine ⟨vs, e, by simpa using h1, fun i i1 i2 => ?_⟩
    have hi : i < cs.length := by simpa using i1
    have := pubC_rep (pre := pre) wf hb (fun b hb' => hs b (List.mem_flatMap.2 ⟨cs[i], List.getElem_mem hi, hb'⟩)) (h2 i hi i2)
    simpa using this
  | tup _ => exact h

/-- What is called: a function, and what its value bears. -/
def calleeA : AV → Option (FuncId × List AV × List AV)
  | .c (.lit (.func (.func k) f c)) => some (k, f.toList.map fun v => .c (.lit v), c.toList.map fun v => .c (.lit v))
  | .c (.clo k fs cs) => some (k, fs.map .c, cs.map .c)
  | _ => none

theorem callee_rep {μ : Nat → Nat} {M : Mem} {a : AV} {v : Value} {k : FuncId} {fs cs : List AV} (h : calleeA a = some (k, fs, cs)) (hr : RepV C μ M a v) :
    ∃ vf vc : Array Value, v = .func (.func k) vf vc ∧ vf.size = fs.length ∧ vc.size = cs.length ∧ (∀ i (h1 : i < fs.length) (h2 : i < vf.size), Rep1 C μ M fs[i] vf[i]) ∧ (∀ i (h1 : i < cs.length) (h2 : i < vc.size), Rep1 C μ M cs[i] vc[i]) ∧
      (∀ x ∈ fs ++ cs, slA x = []) ∧ (∀ x ∈ fs ++ cs, ∀ vs, x ≠ .tup vs) := by
  unfold calleeA at h
  split at h
  · rename_i k' f c
    cases h
    have : v = .func (.func k) f c := RepI.lit_eq hr
    refine ⟨f, c, this, by simp, by simp, fun i h1 h2 => ?_, fun i h1 h2 => ?_, fun x hx => ?_, fun x hx vs => ?_⟩
    · simp only [List.getElem_map, Array.getElem_toList]; exact RepI.lit _
    · simp only [List.getElem_map, Array.getElem_toList]; exact RepI.lit _
    · simp only [List.mem_append, List.mem_map] at hx
      rcases hx with ⟨y, _, rfl⟩ | ⟨y, _, rfl⟩ <;> rfl
    · simp only [List.mem_append, List.mem_map] at hx
      rcases hx with ⟨y, _, rfl⟩ | ⟨y, _, rfl⟩ <;> simp
  · rename_i k' fs' cs'
    cases h
    have hr : RepI C M (.clo k fs' cs') v := hr
    generalize hz : AC.clo k fs' cs' = z at hr
    cases hr <;> cases hz
    rename_i vf vc h1 h3 h2 h4
    have notsl : ∀ a : AC, ∀ v, RepI C M a v → slC a = [] := fun a v hr => by cases hr <;> rfl
    refine ⟨vf, vc, rfl, by simpa using h1, by simpa using h2, fun i i1 i2 => ?_, fun i i1 i2 => ?_, fun x hx => ?_, fun x hx vs => ?_⟩
    · simp only [List.getElem_map]; exact RepC.of_I (h3 i (by simpa using i1) i2)
    · simp only [List.getElem_map]; exact RepC.of_I (h4 i (by simpa using i1) i2)
    · simp only [List.mem_append, List.mem_map] at hx
      rcases hx with ⟨y, hy, rfl⟩ | ⟨y, hy, rfl⟩
      · obtain ⟨i, hi, rfl⟩ := List.getElem_of_mem hy
        exact notsl _ _ (h3 i hi (by omega))
      · obtain ⟨i, hi, rfl⟩ := List.getElem_of_mem hy
        exact notsl _ _ (h4 i hi (by omega))
    · simp only [List.mem_append, List.mem_map] at hx
      rcases hx with ⟨y, _, rfl⟩ | ⟨y, _, rfl⟩ <;> simp
  · cases h

def upsOf (pre : Nat → Option Box) (bs : List Nat) : List (Nat × Option Box) := bs.map fun b => (b, (pre b).map pubB)

theorem wrOf_append (a b : List (Nat × Option Box)) : wrOf (a ++ b) = wrOf a ++ wrOf b := by simp [wrOf]
theorem wrOf_upsOf (pre : Nat → Option Box) (bs : List Nat) : wrOf (upsOf pre bs) = bs := by simp [wrOf, upsOf, Function.comp_def]
theorem postOf_upsOf {pre : Nat → Option Box} {bs : List Nat} {ups : List (Nat × Option Box)} {b : Nat} (h : b ∈ bs) : postOf (upsOf pre bs ++ ups) b = (pre b).map pubB := by
  induction bs with
  | nil => simp at h
  | cons c bs ih =>
    simp only [upsOf, List.map_cons, List.cons_append]
    by_cases e : b = c
    · subst e; simp [postOf, List.lookup]
    · have e' : (b == c) = false := by simpa using e
      have := ih (by simpa [e] using h)
      simpa [postOf, List.lookup, e', upsOf] using this
theorem postOf_upsOf' {pre : Nat → Option Box} {bs : List Nat} {ups : List (Nat × Option Box)} {b : Nat} (h : b ∉ bs) : postOf (upsOf pre bs ++ ups) b = postOf ups b := by
  induction bs with
  | nil => rfl
  | cons c bs ih =>
    simp only [upsOf, List.map_cons, List.cons_append]
    have e' : (b == c) = false := by simp only [beq_eq_false_iff_ne]; exact fun e => h (by simp [e])
    have := ih fun h' => h (by simp [h'])
    simpa [postOf, List.lookup, e', upsOf] using this

/-- A call, whose arguments are handed over as lists where they are slices of one's own. -/
theorem opOk_callP {f : Operand} {k : FuncId} {args : Array Operand} {ats : Array TypeId} {fs cs : List AV} {r : AV} {ups : List (Nat × Option Box)} {bs : List Nat} (hf : calleeA (ρ f) = some (k, fs, cs))
    (h : FnOkB C k (fs ++ (args.toList.map ρ).map (pubA pre) ++ cs) pre r ups)
    (ht : ∀ x ∈ args, ∀ vs, ρ x ≠ .tup vs) (hbs : bs = (args.toList.map ρ).flatMap slA) (hdj : ∀ b ∈ wrOf ups, b ∉ bs) (hnm : ∀ b ∈ bs, ∀ bx, pre b = some bx → ∀ b', bx.men b' = false) :
    OpOk C ⟨dst, .call ⟨.value f, args, ats⟩, ty, pos, after, guard⟩ ρ [] pre r (upsOf pre bs ++ ups) := by
  intro μ M a next Q wf hr hb hd kk
  obtain ⟨hc, h⟩ := h
  simp only [List.nil_append, wrOf_append, wrOf_upsOf] at hb hd kk
  have hb1 : ∀ b ∈ bs, ∀ bx, pre b = some bx → RepB C μ M b bx := fun b hb' => hb b (List.mem_append_left _ hb')
  have hd1 : ∀ x ∈ bs, ∀ y ∈ bs, liveB (pre x) = true → liveB (pre y) = true → μ x = μ y → x = y := fun x hx y hy => hd x (List.mem_append_left _ hx) y (List.mem_append_left _ hy)
  have t1 := pub_trans (C := C) (μ := μ) wf hb1
  obtain ⟨vf, vc, hv, hvf, hvc, hrf, hrc, hsl, _⟩ := callee_rep hf (hr f (by simp [Op.operands, Call.operands]))
  have e : (execOp a.eval ⟨dst, .call ⟨.value f, args, ats⟩, ty, pos, after, guard⟩).run C.P M.w = .ok (.enter k (vf ++ args.map a.eval ++ vc)) M.w := by
    have : (invoke (.fn (.func k) vc) (vf ++ args.map a.eval)).run C.P M.w = .ok (.enter k (vf ++ args.map a.eval ++ vc)) M.w := by
      have := callFunc_run (w := M.w) hc (vf ++ args.map a.eval ++ vc)
      simpa [invoke] using this
    simpa [execOp, resolve, hv, Deferred.ofValue, bind, Sem.bind, pure] using this
  unfold Oper.wp
  rw [e]
  simp only [Oper.upon]
  have hmid : ∀ i (h : i < args.size), Rep1 C μ (pubM M μ pre bs) (pubA pre (ρ args[i])) (a.eval args[i]) := by
    intro i hi
    have hx := hr args[i] (by simp [Op.operands, Call.operands, Array.getElem_mem])
    have hnt := ht args[i] (Array.getElem_mem hi)
    refine pubA_rep wf hb1 (fun b hb' => ?_) ?_
    · rw [hbs, List.mem_flatMap]
      exact ⟨ρ args[i], List.mem_map.2 ⟨args[i], by simp [Array.getElem_mem], rfl⟩, hb'⟩
    · cases hρ : ρ args[i] with
      | tup vs => exact (hnt vs hρ).elim
      | c x => rw [hρ] at hx; exact hx
      | agg x => rw [hρ] at hx; exact hx
  have mono1 : ∀ x v, Rep1 C μ M x v → Rep1 C μ (pubM M μ pre bs) x v := fun x v h => h.trans t1 fun _ _ => rfl
  have hsize : (vf ++ args.map a.eval ++ vc).size = (fs ++ (args.toList.map ρ).map (pubA pre) ++ cs).length := by simp [hvf, hvc]
  have hreps : ∀ i (h : i < (fs ++ (args.toList.map ρ).map (pubA pre) ++ cs).length) (h' : i < (vf ++ args.map a.eval ++ vc).size),
      Rep1 C μ (pubM M μ pre bs) (fs ++ (args.toList.map ρ).map (pubA pre) ++ cs)[i] (vf ++ args.map a.eval ++ vc)[i] := by
    intro i h1 h2
    by_cases i1 : i < fs.length
    · rw [List.getElem_append_left (by simp; omega), List.getElem_append_left i1, Array.getElem_append_left (by simp; omega), Array.getElem_append_left (by omega)]
      exact mono1 _ _ (hrf i i1 (by omega))
    · by_cases i2 : i < fs.length + args.size
      · rw [List.getElem_append_left (by simp; omega), List.getElem_append_right (by omega), Array.getElem_append_left (by simp; omega), Array.getElem_append_right (by omega)]
        have := hmid (i - fs.length) (by omega)
        simp only [List.getElem_map, Array.getElem_toList, Array.getElem_map, hvf]
        exact this
      · have hl1 : (fs ++ (args.toList.map ρ).map (pubA pre)).length = fs.length + args.size := by simp
        have hl2 : (vf ++ args.map a.eval).size = fs.length + args.size := by simp [hvf]
        rw [List.getElem_append_right (by omega), Array.getElem_append_right (by omega)]
        have := hrc (i - (fs.length + args.size)) (by simp at h1; omega) (by simp [hvf] at h2; omega)
        simp only [hl1, hl2]
        exact mono1 _ _ this
  have hb2 : ∀ b ∈ wrOf ups, ∀ bx, pre b = some bx → RepB C μ (pubM M μ pre bs) b bx := by
    intro b hb' bx e
    refine (hb b (List.mem_append_right _ hb') bx e).trans t1 (hdj b hb') (fun hn b' hb'' hl' eq => ?_) fun _ _ => rfl
    have := hd b (List.mem_append_right _ hb') b' (List.mem_append_left _ hb'') (by simp [e, liveB, hn]) hl' eq
    exact hdj b hb' (this ▸ hb'')
  refine (h μ (pubM M μ pre bs) _ t1.wf hsize hreps hb2 (fun x hx y hy => hd x (List.mem_append_right _ hx) y (List.mem_append_right _ hy))).mono ?_
  rintro e w' ⟨v, μ', M', rfl, rfl, hv, t, hpb, hf', hd'⟩
  have hmem : ∀ b, b ∈ bs ++ wrOf ups → b ∈ bs ∨ (b ∈ wrOf ups ∧ b ∉ bs) := fun b hb' => by
    rcases List.mem_append.1 hb' with h | h
    · exact .inl h
    · exact .inr ⟨h, hdj b h⟩
  have mubs : ∀ b, b ∈ bs → μ' b = μ b := fun b hb' => t.mu b fun h => absurd hb' (hdj b h)
  have livebs : ∀ x, x ∈ bs → liveB (postOf (upsOf pre bs ++ ups) x) = true → liveB (pre x) = true := fun x h hlx => by
    rw [postOf_upsOf h] at hlx
    cases e0 : pre x with
    | none => simp [e0, liveB] at hlx
    | some bx => rw [e0] at hlx; simpa [liveB, pubB] using hlx
  have hsz : M.w.heap.size ≤ (pubM M μ pre bs).w.heap.size := Nat.le_refl _
  have hbm : ∀ b ∈ bs, ∀ bx, pre b = some bx → ∀ b', (pubB bx).men b' = true → μ' b' = μ b' := fun b hb' bx e b' hm => by
    have h1 := hnm b hb' bx e b'
    have h2 : bx.men b' = true := hm
    rw [h1] at h2; cases h2
  refine kk v μ' M' hv ?_ ?_ ?_ ?_
  · refine ⟨t1.grow.trans t.grow, t.wf, t.os.trans t1.os, t.tape.trans t1.tape, t.output.trans t1.output, fun blk h1 h2 h3 => ?_, fun blk h1 s => t.spb blk h1 s, fun blk c T fz e hs => t.wid blk c T fz e hs, fun b hb' => ?_⟩
    · obtain ⟨e1, e2⟩ := t.fr blk h1 h2 fun b hb' => h3 b (List.mem_append_right _ hb')
      obtain ⟨_, e4⟩ := t1.fr blk h1 h2 fun b hb' => h3 b (List.mem_append_left _ hb')
      exact ⟨e1, fun o i => e4 o (e2 o i)⟩
    · exact t.mu b fun h => hb' (List.mem_append_right _ h)
  · intro b hb' bx e
    rcases hmem b hb' with h | ⟨h, h'⟩
    · rw [postOf_upsOf h] at e
      obtain ⟨bx0, e0, rfl⟩ := Option.map_eq_some_iff.1 e
      refine (pub_box wf hb1 hd1 h e0).trans t (fun h' => hdj b h' h) (fun hn b' hb'' hl' eq => ?_) fun b' hm => hbm b h bx0 e0 b' hm
      have := hd b (List.mem_append_left _ h) b' (List.mem_append_right _ hb'') (by have hn : bx0.nl = false := hn; simp [e0, liveB, hn]) hl' eq
      exact hdj b' hb'' (this ▸ h)
    · rw [postOf_upsOf' h'] at e
      exact hpb b h bx e
  · intro x hx hlx
    rcases hmem x hx with h | ⟨h, h'⟩
    · exact .inr ⟨x, hx, livebs x h hlx, mubs x h⟩
    · rw [postOf_upsOf' h'] at hlx
      rcases hf' x h hlx with g | ⟨y, hy, ly, ey⟩
      · exact .inl g
      · exact .inr ⟨y, List.mem_append_right _ hy, ly, ey⟩
  · intro x hx y hy lx ly eq
    have key : ∀ x y, x ∈ bs → y ∈ wrOf ups → liveB (pre x) = true → liveB (postOf ups y) = true → μ x = μ' y → False := fun x y hx hy lx ly eq => by
      rcases hf' y hy ly with g | ⟨z, hz, lz, ez⟩
      · cases e0 : pre x with
        | none => simp [e0, liveB] at lx
        | some bx =>
          have := (hb1 x hx bx e0).lt (by simpa [e0, liveB] using lx)
          have g : M.w.heap.size ≤ μ' y := g
          omega
      · have := hd x (List.mem_append_left _ hx) z (List.mem_append_right _ hz) lx lz (eq.trans ez)
        exact hdj z hz (this ▸ hx)
    rcases hmem x hx with h | ⟨h, h'⟩ <;> rcases hmem y hy with g | ⟨g, g'⟩
    · rw [mubs x h, mubs y g] at eq
      exact hd1 x h y g (livebs x h lx) (livebs y g ly) eq
    · rw [postOf_upsOf' g'] at ly
      rw [mubs x h] at eq
      exact (key x y h g (livebs x h lx) ly eq).elim
    · rw [postOf_upsOf' h'] at lx
      rw [mubs y g] at eq
      exact (key y x g h (livebs y g ly) lx eq.symm).elim
    · rw [postOf_upsOf' h'] at lx
      rw [postOf_upsOf' g'] at ly
      exact hd' x h y g lx ly eq

/-- A function value. -/
theorem ok_makeFunc {k : FuncId} {first captured : Array Operand} {fs cs : List AC} (hf : first.toList.map ρ = fs.map .c) (hc : captured.toList.map ρ = cs.map .c) (hp : fs.all (·.pure) = true ∧ cs.all (·.pure) = true) :
    OpOk C ⟨dst, .makeFunc (.func k) first captured, ty, pos, after, guard⟩ ρ [] pre (.c (.clo k fs cs)) [] :=
  opOk_pure fun μ M ac _ hr => by
    have key : ∀ (xs : Array Operand) (as : List AC), xs.toList.map ρ = as.map .c → as.all (·.pure) = true → (∀ x ∈ xs, RepV C μ M (ρ x) (ac.eval x)) → (xs.map ac.eval).size = as.length ∧ ∀ i (h : i < as.length) (h' : i < (xs.map ac.eval).size), RepI C M as[i] (xs.map ac.eval)[i] := by
      intro xs as he hp hx
      have hl : xs.size = as.length := by have := congrArg List.length he; simpa using this
      refine ⟨by simpa using hl, fun i h h' => ?_⟩
      have hi : i < xs.size := by omega
      have e : ρ xs[i] = .c as[i] := by
        have := congrArg (·[i]?) he
        simpa [hi, h] using this
      have := hx xs[i] (Array.getElem_mem hi)
      rw [e] at this
      simpa using pure_I (List.all_eq_true.1 hp _ (List.getElem_mem h)) this
    obtain ⟨a1, a2⟩ := key first fs hf hp.1 fun x hx => hr x (by simp [Op.operands, hx])
    obtain ⟨b1, b2⟩ := key captured cs hc hp.2 fun x hx => hr x (by simp [Op.operands, hx])
    exact ⟨.func (.func k) (first.map ac.eval) (captured.map ac.eval), by simp [execOp, Instr.makeFunc], RepI.clo k fs cs _ _ a1 b1 a2 b2⟩
end ops
end Go.Ev
/-
  A symbolic executor over abstract states, part 7g: the contract of a function by its code: slices of its own as lists in its results; boxes that it is handed.
-/
namespace Go.Ev
set_option linter.unusedSimpArgs false
set_option linter.unusedVariables false

/-- The boxes that a function has made itself. -/
def lowBox (s : St) (b : Nat) : Option Box := if b < s.n then s.box b else none

/-- A slot's or a box's content, as one result: slices of its own as lists. -/
def ResP1 (P : Program) (s : St) (x : ResultVar) (r : AV) : Prop := ∃ r0, ResA P s x r0 ∧ r = pubA (lowBox s) r0
def ResPL (P : Program) (s : St) : List ResultVar → List AV → Prop
  | [], [] => True
  | x :: xs, a :: as => ResP1 P s x a ∧ ResPL P s xs as
  | _, _ => False
/-- What a function returns. -/
def ResP (P : Program) (s : St) (rs : List ResultVar) (r : AV) : Prop :=
  match rs with
  | [x] => ResP1 P s x r
  | xs => ∃ as, r = .tup as ∧ ResPL P s xs as

theorem resPL_raw {P : Program} {s : St} : ∀ (xs : List ResultVar) (as : List AV), ResPL P s xs as → ∃ bs, ResL P s xs bs ∧ as = bs.map (pubA (lowBox s)) := by
  intro xs
  induction xs with
  | nil => intro as h; cases as with
    | nil => exact ⟨[], trivial, rfl⟩
    | cons _ _ => exact h.elim
  | cons x xs ih =>
    intro as h
    cases as with
    | nil => exact h.elim
    | cons a as =>
      obtain ⟨⟨r0, h1, rfl⟩, h2⟩ := h
      obtain ⟨bs, h3, rfl⟩ := ih as h2
      exact ⟨r0 :: bs, ⟨h1, h3⟩, rfl⟩

/-- In memory in which the boxes of one's own that results name are written by nobody any more, a function's results are what was said. -/
theorem resP_run {C : Cfg} {X : Pin} {M0 : Mem} {μ : Nat → Nat} {M : Mem} {s : St} {a : Act} (h : Rel C X M0 μ M s a) {fn : Func} {r : AV} (hr : ResP C.P s fn.results.toList r) :
    ∃ (bs : List Nat) (v : Value), (results fn a.tmps).run C.P M.w = .ok v M.w ∧ RepV C μ (pubM M μ (lowBox s) bs) r v := by
  have hb : ∀ bs : List Nat, ∀ b ∈ bs, ∀ bx, lowBox s b = some bx → RepB C μ M b bx := fun bs b _ bx e => by
    unfold lowBox at e
    split at e
    · exact h.boxes b bx e
    · cases e
  unfold ResP at hr
  split at hr
  · rename_i x hx
    obtain ⟨r0, h1, rfl⟩ := hr
    obtain ⟨v, e, hv⟩ := res_run h (fn := fn) (r := r0) (by rw [hx]; exact h1)
    refine ⟨slA r0, v, e, ?_⟩
    have hnt : ∀ vs, r0 ≠ .tup vs := fun vs e => by
      subst e
      cases x with
      | tmp t => exact h1.2 vs rfl
      | cell a T =>
        obtain ⟨b, off, bx, _, _, _, _, h⟩ := h1
        rcases h with ⟨_, _, _, h⟩ | ⟨_, _, _, _, h⟩ <;> cases h
    have : Rep1 C μ M r0 v := by cases r0 with
      | tup vs => exact (hnt vs rfl).elim
      | c _ => exact hv
      | agg _ => exact hv
    exact (pubA_rep h.wf (hb _) (fun b hb => hb) this).V
  · obtain ⟨as, rfl, hl⟩ := hr
    obtain ⟨bs, hraw, rfl⟩ := resPL_raw _ _ hl
    rename_i hne
    obtain ⟨v, e, hv⟩ := res_run h (fn := fn) (r := .tup bs) (by
      unfold ResAs
      split
      · rename_i x hx; exact (hne x hx).elim
      · exact ⟨bs, rfl, hraw⟩)
    refine ⟨bs.flatMap slA, v, e, ?_⟩
    obtain ⟨vs, e2, h1, h2⟩ := hv
    refine ⟨vs, e2, by simpa using h1, fun i i1 i2 => ?_⟩
    have hi : i < bs.length := by simpa using i1
    have := pubA_rep (pre := lowBox s) h.wf (hb (bs.flatMap slA)) (fun b hb => List.mem_flatMap.2 ⟨bs[i], List.getElem_mem hi, hb⟩) (h2 i hi i2)
    simpa using this

/-- The boxes at the start. -/
def boxAt (bxs : List (Nat × Box × Box)) (b : Nat) : Option Box := (bxs.find? fun x => x.1 == b).map (·.2.1)
/-- The state in which a function's body begins, that is handed boxes. -/
def initB (args : List AV) (n : Nat) (bxs : List (Nat × Box × Box)) : St := ⟨n, fun t => args.getD t (.c .junk), boxAt bxs⟩

theorem boxAt_some {bxs : List (Nat × Box × Box)} {b : Nat} {bx : Box} (h : boxAt bxs b = some bx) : ∃ x ∈ bxs, x.1 = b ∧ x.2.1 = bx := by
  obtain ⟨x, hx, rfl⟩ := Option.map_eq_some_iff.1 h
  exact ⟨x, List.mem_of_find?_eq_some hx, by simpa using List.find?_some hx, rfl⟩

theorem RepB.purec {C : Cfg} {μ μ' : Nat → Nat} {M : Mem} {b b' : Nat} {bx : Box} (hp : bx.cells.all (·.pure) = true) (e : μ' b' = μ b) (h : RepB C μ M b bx) : RepB C μ' M b' bx := by
  refine ⟨h.1, fun hn ho => ?_, fun o ho => ?_⟩
  case refine_2 =>
    have hR := h.2.2 o ho
    exact ⟨hR.nl, by rw [e]; exact hR.at_, hR.cells, hR.pub, by rw [e]; exact hR.imm, by rw [e]; exact hR.sp, hR.nc⟩
  obtain ⟨⟨c, T, fz, h1, h2, h3, h4⟩, h5, h6, h7⟩ := h.2.1 hn ho
  exact ⟨⟨c, T, fz, by rw [e]; exact h1, h2, h3, fun i i1 i2 => ⟨(h4 i i1 i2).1.pure (List.all_eq_true.1 hp _ (List.getElem_mem i1)) μ', (h4 i i1 i2).2⟩⟩, by rw [e]; exact h5, h6, by rw [e]; exact h7⟩

/-- May it be handed over? -/
def argOk (n : Nat) : AV → Bool
  | .c (.ptr b _) => n ≤ b
  | a => pure1 a

theorem argOk_ren {n : Nat} {a : AV} (h : argOk n a = true) (f : Nat → Nat) : a.ren f = ren1 f a := by
  cases a with
  | c a => rfl
  | agg cs => rfl
  | tup _ => simp [argOk, pure1] at h

structure BoxOk (n : Nat) (x : Nat × Box × Box) : Prop where
  id : n ≤ x.1
  p1 : x.2.1.cells.all (·.pure) = true
  p2 : x.2.2.cells.all (·.pure) = true
  n1 : x.2.1.nl = false
  n2 : x.2.2.nl = false

/-- THE CONTRACT OF A FUNCTION, by its code. The boxes that it is handed have numbers above all slots' in it, and are the boxes f .. of whoever calls. -/
theorem fnOkB_of_wpc {C : Cfg} {k : FuncId} {fn : Func} {c : Code} {args : List AV} {r : AV} (bxs : List (Nat × Box × Box)) (hm : C.P.follows .mixedOrders = true) (hf : C.P.funcs[k]? = some fn) (hb : fn.body = some c)
    (hn : (fn.name == "runtime.NumGoroutine") = false) (hp : args.all (argOk fn.ntmps) = true) (hr : r.pure = true) (ha : args.length ≤ fn.ntmps) (hB : ∀ x ∈ bxs, BoxOk fn.ntmps x)
    (h : WPc C c (fun e s => (e = .normal ∨ e = .ret) ∧ ResP C.P s fn.results.toList r ∧ s.n = fn.ntmps ∧ ∀ x ∈ bxs, s.box x.1 = some x.2.2) (initB args fn.ntmps bxs))
    (f : Nat → Nat) (hinj : ∀ x ∈ bxs, ∀ y ∈ bxs, f x.1 = f y.1 → x = y) (pre : Nat → Option Box) (hpre : ∀ x ∈ bxs, pre (f x.1) = some x.2.1) :
    FnOkB C k (args.map (AV.ren f)) pre r (bxs.map fun x => (f x.1, some x.2.2)) := by
  have hw : wrOf (bxs.map fun x => (f x.1, some x.2.2)) = bxs.map fun x => f x.1 := by simp [wrOf, Function.comp_def]
  have hpost : ∀ x ∈ bxs, postOf (bxs.map fun x => (f x.1, some x.2.2)) (f x.1) = some x.2.2 := by
    intro x hx
    have gen : ∀ l : List (Nat × Box × Box), (∀ y ∈ l, y ∈ bxs) → x ∈ l → (l.map fun x => (f x.1, some x.2.2)).lookup (f x.1) = some (some x.2.2) := by
      intro l
      induction l with
      | nil => intro _ h; cases h
      | cons y l ih =>
        intro hl hx'
        simp only [List.map_cons, List.lookup]
        by_cases e : f x.1 = f y.1
        · have := hinj x hx y (hl y (by simp)) e
          subst this; simp
        · have e' : (f x.1 == f y.1) = false := by simpa using e
          rw [e']
          refine ih (fun z hz => hl z (by simp [hz])) ?_
          rcases List.mem_cons.1 hx' with g | g
          · subst g; exact (e rfl).elim
          · exact g
    simp [postOf, gen bxs (fun _ h => h) hx]
  refine FnOkB.of_fixed ⟨fn, hf, by simp [hb], hn⟩ ?_ ?_
  · intro b hb' _
    rw [hw] at hb'
    obtain ⟨x, hx, rfl⟩ := List.mem_map.1 hb'
    rw [hpre x hx]; simp [liveB, (hB x hx).n1]
  intro μ M vs wf hsz hrep hbx hd
  refine calls_of_wp hf hb ?_
  rw [hw] at hbx hd
  have hsz : vs.size = args.length := by simpa using hsz
  let X : Pin := ⟨fun blk => ∃ x ∈ bxs, blk = μ (f x.1), fun b => μ (f b)⟩
  have hrel : Rel C X M (fun b => μ (f b)) M (initB args fn.ntmps bxs) { tmps := vs ++ Array.replicate (fn.ntmps - vs.size) undef, defers := [] } := by
    refine ⟨wf, Grow.refl C M, rfl, rfl, rfl, fun _ _ _ _ => ⟨rfl, fun _ h => h⟩, fun _ _ h => h, ?_, ?_, ?_, ?_, ?_, rfl, fun _ _ => rfl, fun blk c T fz e _ => ⟨c, fz, e, rfl⟩⟩
    · simp [initB, hsz]; omega
    · intro t
      simp only [initB, St.get, List.getD_eq_getElem?_getD, Array.getD_eq_getD_getElem?]
      by_cases ht : t < args.length
      · rw [Array.getElem?_append_left (by omega), List.getElem?_eq_getElem ht, Array.getElem?_eq_getElem (by omega)]
        simp only [Option.getD_some]
        have hok := List.all_eq_true.1 hp _ (List.getElem_mem ht)
        have h1 := hrep t (by simpa using ht) (by omega)
        rw [List.getElem_map, argOk_ren hok] at h1
        have h2 := Rep1_ren h1
        exact h2.V
      · rw [List.getElem?_eq_none (by omega)]; trivial
    · intro b bx e
      obtain ⟨x, hx, rfl, rfl⟩ := boxAt_some e
      exact (hbx (f x.1) (List.mem_map.2 ⟨x, hx, rfl⟩) _ (hpre x hx)).purec (hB x hx).p1 rfl
    · intro x y lx ly eq
      have fnd : ∀ b, liveB ((initB args fn.ntmps bxs).box b) = true → ∃ z ∈ bxs, z.1 = b ∧ liveB (pre (f b)) = true := fun b hl => by
        cases e : (initB args fn.ntmps bxs).box b with
        | none => rw [e] at hl; cases hl
        | some bx =>
          obtain ⟨z, hz, h1, h2⟩ := boxAt_some e
          exact ⟨z, hz, h1, by rw [← h1, hpre z hz]; simp [liveB, (hB z hz).n1]⟩
      obtain ⟨z, hz, rfl, l1⟩ := fnd x lx
      obtain ⟨z', hz', rfl, l2⟩ := fnd y ly
      have := hd _ (List.mem_map.2 ⟨z, hz, rfl⟩) _ (List.mem_map.2 ⟨z', hz', rfl⟩) l1 l2 eq
      rw [hinj z hz z' hz' this]
    · intro b hl
      right
      cases e : (initB args fn.ntmps bxs).box b with
      | none => rw [e] at hl; cases hl
      | some bx =>
        obtain ⟨z, hz, h1, h2⟩ := boxAt_some e
        exact ⟨z, hz, by rw [h1]⟩
  refine wp_mono (wpc_sound hm c hrel h) ?_
  rintro e a w ⟨e', s, μ', M', rfl, ⟨he, hres, hsn, hfin⟩, rfl, hr'⟩
  obtain ⟨bs, v, hv, hrv⟩ := resP_run hr' hres
  have hlow : ∀ b ∈ bs, ∀ bx, lowBox s b = some bx → RepB C μ' M' b bx := fun b _ bx e => by
    unfold lowBox at e
    split at e
    · exact hr'.boxes b bx e
    · cases e
  have tp := pub_trans (C := C) (μ := μ') (pre := lowBox s) (bs := bs) hr'.wf hlow
  have live_low : ∀ b, liveB (lowBox s b) = true → b < s.n ∧ liveB (s.box b) = true := fun b hl => by
    unfold lowBox at hl
    split at hl
    · rename_i hlt; exact ⟨hlt, hl⟩
    · cases hl
  have pinned : ∀ x ∈ bxs, μ' x.1 = μ (f x.1) := fun x hx => hr'.pin x.1 (by rw [hsn]; exact (hB x hx).id)
  have finlive : ∀ x ∈ bxs, liveB (s.box x.1) = true := fun x hx => by rw [hfin x hx]; simp [liveB, (hB x hx).n2]
  have fin : a.defers = [] ∧ ∃ v, (results fn a.tmps).run C.P M'.w = .ok v M'.w ∧ (∃ v' M'', Ending.returned v = .returned v' ∧ M''.w = M'.w ∧ RepV C μ M'' r v' ∧ Trans C (wrOf (bxs.map fun x => (f x.1, some x.2.2))) pre μ M μ M'' ∧
      ∀ b ∈ wrOf (bxs.map fun x => (f x.1, some x.2.2)), ∀ bx, postOf (bxs.map fun x => (f x.1, some x.2.2)) b = some bx → RepB C μ M'' b bx) := by
    refine ⟨hr'.defers, v, hv, v, pubM M' μ' (lowBox s) bs, rfl, rfl, hrv.pure hr μ, ?_, ?_⟩
    · rw [hw]
      refine ⟨hr'.grow.trans tp.grow, tp.wf, hr'.os, hr'.tape, hr'.output, fun blk h1 h2 h3 => ?_, fun blk h1 s => hr'.spb blk h1 s, fun blk c T fz e hs => hr'.wid blk c T fz e hs, fun _ _ => rfl⟩
      have hx : ¬ X.blk blk := by
        rintro ⟨x, hx, rfl⟩
        exact h3 (f x.1) (List.mem_map.2 ⟨x, hx, rfl⟩) (by rw [hpre x hx]; simp [liveB, (hB x hx).n1]) rfl
      obtain ⟨e1, e2⟩ := hr'.fr blk h1 h2 hx
      refine ⟨e1, fun o i => ?_⟩
      rcases i with i | ⟨b, hb', bx, e, hn', rfl, ho⟩
      · exact e2 o i
      · have hl := live_low b (by simp [e, liveB, hn'])
        rcases hr'.own b hl.2 with g | g
        · omega
        · exact (hx g).elim
    · intro b hb' bx e
      rw [hw] at hb'
      obtain ⟨x, hx, rfl⟩ := List.mem_map.1 hb'
      rw [hpost x hx] at e
      cases e
      have h1 := hr'.boxes x.1 x.2.2 (hfin x hx)
      have h2 : RepB C μ' (pubM M' μ' (lowBox s) bs) x.1 x.2.2 := by
        have noI : ∀ o, (pubM M' μ' (lowBox s) bs).I (μ' x.1) o → M'.I (μ' x.1) o := fun o i => by
          rcases i with i | ⟨b, hb', bx, e, hn', eq, ho⟩
          · exact i
          · have hl := live_low b (by simp [e, liveB, hn'])
            have := hr'.dist x.1 b (finlive x hx) hl.2 eq
            have h9 := (hB x hx).id
            omega
        refine ⟨h1.1, fun hn1 ho1 => ?_, fun o ho1 => ?_⟩
        · obtain ⟨⟨c, T, fz, g1, g2, g3, g4⟩, g5, g6, g7⟩ := h1.2.1 hn1 ho1
          exact ⟨⟨c, T, fz, g1, g2, g3, fun i i1 i2 => ⟨(g4 i i1 i2).1.trans tp fun _ _ => rfl, fun hrow => ((g4 i i1 i2).2 hrow).mono tp.grow⟩⟩, fun o i => g5 o (noI o i), g6, g7⟩
        · have hR := h1.2.2 o ho1
          exact ⟨hR.nl, hR.at_, hR.cells, hR.pub, fun i hi => hR.imm i (noI i hi), hR.sp, hR.nc⟩
      exact h2.purec (hB x hx).p2 (pinned x hx).symm
  rcases he with rfl | rfl
  · exact fin
  · exact fin

end Go.Ev
/-
  A symbolic executor over abstract states, part 7h: new slices; texts and bytes; copies; == of arrays.
-/
namespace Go.Ev
set_option linter.unusedSimpArgs false
set_option linter.unusedVariables false

section ops
variable {C : Cfg} {dst : Option Tmp} {ty : TypeId} {pos : String} {after : Array Edge} {guard : Option (Nat × Bool)} {ρ : Operand → AV} {pre : Nat → Option Box}

/-- A new row in a world that may have drawn, and a slice over the first n elements of it. -/
theorem ok_newSl' {op : Op} {d n sz : Nat} {cs : List AC} (hd : pre d = none) (hm : menL d cs = false) (hl : n * sz ≤ cs.length)
    (h : ∀ μ M (a : Act), Wf C M → (∀ x ∈ op.operands, RepV C μ M (ρ x) (a.eval x)) → ∃ (vs rest : Array Value) (T : TypeId) (cap : Nat) (fz : Nat × Nat) (w1 : World), RepCs C μ M cs vs ∧ n ≤ cap ∧ cap * sz ≤ vs.size + rest.size ∧
      FzOk fz (vs.size + rest.size) ∧ w1.heap = M.w.heap ∧ w1.os = M.w.os ∧ w1.tape = M.w.tape ∧ w1.output = M.w.output ∧
      (execOp a.eval ⟨some d, op, ty, pos, after, guard⟩).run C.P M.w = .ok (.value (.slice (some ⟨M.w.heap.size, 0, none⟩) n cap)) { w1 with heap := M.w.heap.push (.cells (vs ++ rest) T fz) }) :
    OpOk C ⟨some d, op, ty, pos, after, guard⟩ ρ [] pre (.c (.sl d n sz false)) [(d, some { cells := cs })] := by
  intro μ M a next Q wf hr _ _ k
  obtain ⟨vs, rest, T, cap, fz, w1, hvs, hcap, hsz, hfz, h1, h2, h3, h4, e⟩ := h μ M a wf hr
  unfold Oper.wp
  rw [e]
  have t := new_trans' (C := C) (μ := μ) wf hd (.cells (vs ++ rest) T fz) w1 h1 h2 h3 h4
  refine k (.slice (some ⟨M.w.heap.size, 0, none⟩) n cap) (upd μ d M.w.heap.size) _ ?_ t ?_ ?_ ?_
  · refine ⟨cap, vs ++ rest, T, fz, by simp [upd], hcap, by simp [upd], by simpa using hsz, ?_⟩
    simp only [upd, if_true]
    intro hs; exact absurd (wf.sp _ hs) (Nat.lt_irrefl _)
  · intro b hb bx hbx
    simp [wrOf] at hb
    subst hb
    simp [postOf] at hbx
    subst hbx
    have hrep' := hvs.trans t (fun b' hb' => by
      have : b' ≠ b := fun e => by subst e; simp [menL] at hm; simp at hb'; obtain ⟨x, hx, hx'⟩ := hb'; have := hm x hx; simp [this] at hx'
      simp [upd, this])
    refine ⟨by simp, fun _ _ => ⟨⟨vs ++ rest, T, fz, by simp [upd], by simpa using hfz, by simp [hvs.1], fun i i1 i2 => ⟨?_, by simp⟩⟩, fun o => ?_, Nat.zero_le _, ?_⟩, fun _ h => nomatch h⟩
    · have i1' : i < cs.length := i1
      have hi : i < vs.size := by have := hvs.1; omega
      rw [Array.getElem_append_left hi]
      exact hrep'.2 i i1' hi
    · simp only [upd, if_true]
      intro i; exact absurd (wf.imm _ _ i).1 (Nat.lt_irrefl _)
    · simp only [upd, if_true]
      intro s; exact absurd (wf.sp _ s) (Nat.lt_irrefl _)
  · intro x hx _
    simp [wrOf] at hx
    subst hx
    left; simp [upd]
  · intro x hx y hy _ _ _
    simp [wrOf] at hx hy
    rw [hx, hy]

theorem modify_last (h : Array Obj) (o : Obj) (f : Obj → Obj) : (h.push o).modify h.size f = h.push (f o) := by
  apply Array.ext_getElem?
  intro i
  rw [Array.getElem?_modify, Array.getElem?_push, Array.getElem?_push]
  by_cases e : i = h.size
  · subst e; simp
  · have : ¬ h.size = i := fun e' => e e'.symm
    simp [this, e]

/-- The cells of so many zeros. -/
def zerosL (z : Array Value) (n : Nat) : List AC := (List.range n).map fun i => .lit z[i % z.size]!

theorem ok_makeSlice {T : TypeId} {x y : Operand} {d : Nat} {el : Elt} {k k' : IntKind} {n : Int} (hd : pre d = none) (he : eltOf C.P T = some el) (hx : ρ x = .c (.lit (.int k n))) (hy : ρ y = .c (.lit (.int k' n)))
    (h0 : 0 ≤ n) (h1 : n * el.by' ≤ 281474976710656) (h2 : n ≤ 9223372036854775807) :
    OpOk C ⟨some d, .makeSlice T x y, ty, pos, after, guard⟩ ρ [] pre (.c (.sl d n.toNat el.sz false)) [(d, some { cells := zerosL el.z (n.toNat * el.sz) })] := by
  obtain ⟨hu, hs, hby, ⟨z, hz, hzc⟩, hzs, _⟩ := eltOf_some he
  obtain ⟨i, hi, hib⟩ : ∃ i, C.P.info? el.e = some i ∧ i.bytes = el.by' := by
    unfold tyBytes at hby
    cases hi : C.P.info? el.e with
    | none => simp [hi] at hby
    | some i => simp [hi] at hby; exact ⟨i, rfl, hby⟩
  have hti : ∀ w : World, (typeInfo el.e).run C.P w = .ok i w := fun w => by simp [typeInfo, hi]
  refine ok_newSl' hd (by simp [menL, zerosL, AC.men]) (by simp [zerosL]) fun μ M a wf hr => ?_
  have e1 := hr x (by simp [Op.operands]); rw [hx] at e1
  have e1 : a.eval x = .int k n := RepI.lit_eq e1
  have e2 := hr y (by simp [Op.operands]); rw [hy] at e2
  have e2 : a.eval y = .int k' n := RepI.lit_eq e2
  have hw : IntKind.i64.wrap n = n := by
    unfold IntKind.wrap
    have : IntKind.signed .i64 = true := rfl
    have h3 : (2 : Int) ^ (IntKind.bits .i64) = 18446744073709551616 := by decide
    have h4 : (2 : Int) ^ (IntKind.bits .i64 - 1) = 9223372036854775808 := by decide
    simp only [this, h3, h4]
    have : n % 18446744073709551616 = n := Int.emod_eq_of_lt h0 (by omega)
    rw [this]
    have : ¬ (n ≥ 9223372036854775808) := by omega
    simp [this]
  have hf : ¬ (n < 0) := by omega
  have hg : ¬ (281474976710656 < (i.bytes : Int) * n) := by rw [hib, Int.mul_comm]; omega
  let zc : Array Value := if n.toNat * el.sz = 0 then #[] else z.cells
  refine ⟨(Array.range (n.toNat * el.sz)).map (fun j => zc[j % zc.size]!), #[], el.e, n.toNat, (0, 0), M.w, ?_, Nat.le_refl _, by simp, .inl rfl, rfl, rfl, rfl, rfl, ?_⟩
  · refine ⟨by simp [zerosL], fun j h1 h2 => ?_⟩
    have hj : j < n.toNat * el.sz := by simpa [zerosL] using h1
    have hzc2 : zc = el.z := by simp only [zc]; rw [if_neg (by omega), hzc]
    simp only [zerosL, List.getElem_map, List.getElem_range, Array.getElem_map, Array.getElem_range, hzc2]
    exact RepI.lit _
  · by_cases hn0 : n.toNat * el.sz = 0
    · simp [execOp, Instr.makeSlice, e1, e2, run_underlying hu, asInt, asIntOf, hti, run_sizeOf hs, hw, hf, hg, hn0, newRow, zc]
    · simp [execOp, Instr.makeSlice, e1, e2, run_underlying hu, asInt, asIntOf, hti, run_sizeOf hs, hw, hf, hg, hn0, newRow, zc, run_zero hz]

/-- A text's bytes, in memory. -/
theorem ok_conv_sb {S D E : TypeId} {x : Operand} {d : Nat} {s : ByteArray} (hd : pre d = none) (hx : ρ x = .c (.lit (.string s))) (hS : tyIs C.P S (fun _ => true) = true) (hD : tySlice C.P D = some E) (hE : tyInt C.P E = some .u8) :
    OpOk C ⟨some d, .convert S D x, ty, pos, after, guard⟩ ρ [] pre (.c (.sl d s.size 1 false)) [(d, some { cells := bytesL s })] := by
  have hE' : C.P.underlying E = some (.int .u8) := by
    unfold tyInt at hE
    cases hu : C.P.underlying E with
    | none => simp [hu] at hE
    | some t => cases t <;> simp [hu] at hE; rw [hE]
  obtain ⟨dS, hdS⟩ : ∃ t, C.P.underlying S = some t := by
    unfold tyIs at hS
    cases hu : C.P.underlying S with
    | none => simp [hu] at hS
    | some t => exact ⟨t, rfl⟩
  refine ok_newSl' hd (by simp only [menL, bytesL, List.any_map, Function.comp_def, AC.men]; exact List.any_eq_false.2 (by simp)) (by rw [Nat.mul_one]; simp [bytesL]) fun μ M a wf hr => ?_
  have e1 := hr x (by simp [Op.operands]); rw [hx] at e1
  have e1 : a.eval x = .string s := RepI.lit_eq e1
  have hq : s.size ≤ s.size + M.w.tape M.w.drawn (Question.appendCap s.size 0 E) % (2 ^ 63 - s.size) := Nat.le_add_right _ _
  let cap := s.size + M.w.tape M.w.drawn (Question.appendCap s.size 0 E) % (2 ^ 63 - s.size)
  refine ⟨s.data.map fun b => .int .u8 b.toNat, Array.replicate (cap - s.size) (.int .u8 0), E, cap, (cap, cap + 1), M.w.drew, ⟨by simp [bytesL], fun i h1 h2 => ?_⟩, hq, ?_, ?_, rfl, rfl, rfl, rfl, ?_⟩
  · simp only [bytesL, List.getElem_map, Array.getElem_map, Array.getElem_toList]
    exact RepI.lit _
  · simp only [Array.size_map, Array.size_replicate]
    have : s.data.size = s.size := rfl
    omega
  · right
    simp only [Array.size_map, Array.size_replicate]
    have : s.data.size = s.size := rfl
    omega
  · have hcut : Question.cut (.appendCap s.size 0 E) (M.w.tape M.w.drawn (Question.appendCap s.size 0 E)) = cap := rfl
    have hff : Question.forced (.appendCap s.size 0 E) = false := rfl
    have hsz : ((s.data.map fun b => Value.int .u8 b.toNat) ++ Array.replicate (cap - s.size) (Value.int .u8 0)).size = cap := by
      simp only [Array.size_append, Array.size_map, Array.size_replicate]
      have : s.data.size = s.size := rfl
      omega
    simp only [execOp, e1, convert, bind, Sem.run_bind', run_underlying hdS, Result.andThen_ok, run_underlying (und_slice hD), run_underlying hE', Conv.stringToBytes, run_choose_drew, hff, hcut, Bool.false_eq_true, if_false]
    simp only [newRow, markStringish, bind, Sem.run_bind', run_newObj, run_shape, run_freeze, Result.andThen_ok, pure, Sem.run_pure]
    simp only [Sem.run_pure', Result.andThen_ok, World.shape?, Array.getElem?_push_size, hsz, run_freeze, World.freeze, Nat.one_ne_zero, if_false]
    refine congrArg (Result.ok _) ?_
    simp only [World.mk.injEq, and_true]
    exact modify_last _ _ _

/-- The text of bytes. -/
theorem loadBytes_run {P : Program} {w : World} (l : List Int) : ∀ (acc : ByteArray),
    (forIn (m := Sem) (l.map fun n => Value.int .u8 n).toArray acc fun c r =>
      match c with
      | Value.int IntKind.u8 n => pure (ForInStep.yield (r.push (UInt8.ofNat n.toNat)))
      | x => (stuck "bytesToString: byte expected" : Sem PUnit).bind fun _ => pure (ForInStep.yield r)).run P w = .ok (⟨acc.data ++ (l.map fun n => UInt8.ofNat n.toNat).toArray⟩) w := by
  induction l with
  | nil => intro acc; simp
  | cons n l ih =>
    intro acc
    have := ih (acc.push (UInt8.ofNat n.toNat))
    simp only [List.forIn_toArray] at this ⊢
    simp only [List.map_cons, List.forIn_cons]
    simp only [bind, Sem.run_bind', Sem.run_pure, pure, Sem.run_pure', Result.andThen_ok] at this ⊢
    rw [this]
    congr 1
    cases acc
    simp [ByteArray.push]

theorem conv_bs_run {S D E : TypeId} {x : Operand} {n : Nat} {l : List Int} {M : Mem} {ac : Act} (e1 : RepI C M (.list n (IL .u8 l)) (ac.eval x)) (hl : l.length = n) (hS : tySlice C.P S = some E) (hE : tyInt C.P E = some .u8) (hD : tyIs C.P D (· matches .string) = true) :
    (execOp ac.eval ⟨dst, .convert S D x, ty, pos, after, guard⟩).run C.P M.w = .ok (.value (.string (textOf l))) M.w := by
    have hE' : C.P.underlying E = some (.int .u8) := by
      unfold tyInt at hE
      cases hu : C.P.underlying E with
      | none => simp [hu] at hE
      | some t => cases t <;> simp [hu] at hE; rw [hE]
    generalize hz : AC.list n (IL .u8 l) = z at e1
    generalize hv : ac.eval x = v at e1
    cases e1 <;> cases hz
    rename_i a cap blk off c hcap ha hc hr'
    have hlen : (IL .u8 l).length = n := by simp [IL, hl]
    have hcv : ∀ i (h : i < l.length), c i = .int .u8 l[i] := fun i h => by
      have := hr' i (by simpa [IL] using h)
      simp only [IL, List.getElem_map] at this
      exact RepI.lit_eq this
    cases a with
    | none =>
      have : l = [] := by
        by_cases h : l = []
        · exact h
        · have := ha (by simpa [IL] using h); cases this
      subst this
      simp [execOp, hv, convert, run_underlying (und_slice hS), run_underlying (und_str hD), run_underlying hE', Conv.bytesToString, textOf]
      rfl
    | some ad =>
      have hld : (loadCells ad n).run C.P M.w = .ok (l.map fun n => Value.int .u8 n).toArray M.w := by
        by_cases h : l = []
        · subst h
          have : n = 0 := by simpa using hl.symm
          subst this
          simp [loadCells, loadCellsFrom]
        · have := ha (by simpa [IL] using h)
          cases this
          have := run_loadCells (P := C.P) (w := M.w) blk off n 0 #[] c (fun j hj => by rw [Nat.zero_add]; exact (hc j (by omega)).2)
          simp only [loadCells]
          rw [this]
          congr 1
          apply Array.ext
          · simp [hl]
          · intro i h1 h2
            have : i < l.length := by simpa using h2
            simp [hcv i this]
      have hb := loadBytes_run (P := C.P) (w := M.w) l ByteArray.empty
      simp only [execOp, hv, convert, bind, Sem.run_bind', run_underlying (und_slice hS), run_underlying (und_str hD), Result.andThen_ok, run_underlying hE', Conv.bytesToString, hld]
      refine (congrArg (fun r : Result ByteArray => Result.andThen (Result.andThen r fun a w' => Sem.run C.P (pure (Value.string a)) w') fun a w' => Sem.run C.P (pure (Next.value a)) w') hb).trans ?_
      simp [textOf]

theorem ok_conv_bs {S D E : TypeId} {x : Operand} {n : Nat} {l : List Int} (hx : ρ x = .c (.list n (IL .u8 l))) (hl : l.length = n) (hS : tySlice C.P S = some E) (hE : tyInt C.P E = some .u8) (hD : tyIs C.P D (· matches .string) = true) :
    OpOk C ⟨dst, .convert S D x, ty, pos, after, guard⟩ ρ [] pre (.c (.lit (.string (textOf l)))) [] :=
  opOk_pure fun μ M ac _ hr => by
    have e1 := hr x (by simp [Op.operands]); rw [hx] at e1
    exact ⟨_, conv_bs_run (C := C) (dst := dst) (ty := ty) (pos := pos) (after := after) (guard := guard) e1 hl hS hE hD, RepI.lit _⟩

theorem ok_conv_bs_sl {S D E : TypeId} {x : Operand} {b n : Nat} {nl : Bool} {l : List Int} {bx : Box} (hx : ρ x = .c (.sl b n 1 nl)) (hb : pre b = some bx) (hnl : bx.nl = nl) (hc : bx.cells.take n = IL .u8 l) (hn : n ≤ bx.cells.length) (hp : bx.cells.all (·.pure) = true)
    (hS : tySlice C.P S = some E) (hE : tyInt C.P E = some .u8) (hD : tyIs C.P D (· matches .string) = true) :
    OpOk C ⟨dst, .convert S D x, ty, pos, after, guard⟩ ρ [b] pre (.c (.lit (.string (textOf l)))) [] := by
  intro μ M a next Q wf hr hbx _ k
  have e1 := hr x (by simp [Op.operands]); rw [hx] at e1
  have hbs : ∀ b' ∈ [b], ∀ bx', pre b' = some bx' → RepB C μ M b' bx' := fun b' h' => hbx b' (by simpa [wrOf] using h')
  have hl := pub_list (C := C) (pre := pre) wf hbs (b := b) (sz := 1) (by simp) hb hnl (by omega) hp (v := a.eval x) e1
  rw [Nat.mul_one, hc] at hl
  have hlen : l.length = n := by
    have := congrArg List.length hc
    simp [IL] at this; omega
  have e := conv_bs_run (C := C) (dst := dst) (ty := ty) (pos := pos) (after := after) (guard := guard) hl hlen hS hE hD
  unfold Oper.wp
  have e : (execOp a.eval ⟨dst, .convert S D x, ty, pos, after, guard⟩).run C.P M.w = .ok (.value (.string (textOf l))) M.w := e
  rw [e]
  exact k _ μ M (RepI.lit _) (Trans.refl C pre μ M wf) (by simp [wrOf]) (by simp [wrOf]) (by simp [wrOf])

theorem ok_conv_nil {S D E : TypeId} {x : Operand} (hx : ρ x = .c (.lit (.slice none 0 0))) (hS : tySlice C.P S = some E) (hE : tyInt C.P E = some .u8) (hD : tyIs C.P D (· matches .string) = true) :
    OpOk C ⟨dst, .convert S D x, ty, pos, after, guard⟩ ρ [] pre (.c (.lit (.string .empty))) [] :=
  opOk_pure fun μ M ac _ hr => by
    have e1 := hr x (by simp [Op.operands]); rw [hx] at e1
    have e1 : ac.eval x = .slice none 0 0 := RepI.lit_eq e1
    have hE' : C.P.underlying E = some (.int .u8) := by
      unfold tyInt at hE
      cases hu : C.P.underlying E with
      | none => simp [hu] at hE
      | some t => cases t <;> simp [hu] at hE; rw [hE]
    refine ⟨.string .empty, ?_, RepI.lit _⟩
    simp [execOp, e1, convert, run_underlying (und_slice hS), run_underlying (und_str hD), run_underlying hE', Conv.bytesToString]

theorem ok_build_arr {T E : TypeId} {len n : Nat} {parts : Array (Nat × Operand)} {cs : List AC} (hu : C.P.underlying T = some (.array len E)) (hn : tySize C.P E = some n)
    (hb : buildA C.P T (parts.toList.map fun p => (p.1, ρ p.2)) = some cs) : OpOk C ⟨dst, .build T parts, ty, pos, after, guard⟩ ρ [] pre (.agg cs) [] :=
  opOk_pure fun μ M a _ hr => by
    unfold buildA at hb
    cases hz : tyZero C.P T with
    | none => simp [hz] at hb
    | some z =>
      simp only [hz] at hb
      have hplace : (fun i => some (i * n, n)) = buildPlace C.P T := by
        funext i
        simp [buildPlace, hu, hn]
      obtain ⟨us, e, hus⟩ := fill_rep (C := C) (μ := μ) (M := M) (parts.toList.map fun p => (p.1, ρ p.2)) (parts.toList.map fun p => (p.1, a.eval p.2)) (z.cells.toList.map .lit) z.cells cs (by simp)
        (fun i h h' => ⟨by simp, by
          have hi : i < parts.size := by simpa using h
          have := hr parts[i].2 (by simp only [Op.operands, List.mem_toArray, List.mem_map]; exact ⟨parts[i], by simp [Array.getElem_mem], rfl⟩)
          simpa using this⟩)
        ⟨by simp, fun i h1 h2 => by simp only [List.getElem_map, Array.getElem_toList]; exact RepI.lit _⟩ hb
      refine ⟨.agg us, ?_, ⟨us, rfl, hus⟩⟩
      rw [← hplace] at e
      have hparts : (parts.map fun (x : Nat × Operand) => (x.1, a.eval x.2)).toList = parts.toList.map fun p => (p.1, a.eval p.2) := by simp
      simp only [execOp, Instr.build, Sem.run_bind', bind, run_zero hz, Result.andThen_ok, run_underlying hu, run_sizeOf hn, hparts, e]
      rfl

/-! ### == of arrays of whole numbers -/

theorem eqItems_run {P : Program} {E : TypeId} {k : IntKind} (hE : tyInt P E = some k) (xs ys : Array Value) (a b : List Int) (d : Nat) (w : World) : ∀ (is : List Nat),
    (∀ i ∈ is, i < a.length ∧ i < b.length ∧ xs[i]? = some (.int k (a.getD i 0)) ∧ ys[i]? = some (.int k (b.getD i 0))) →
    (Op.eqItems (d + 1) E 1 xs ys is).run P w = .ok (is.all fun i => decide (a.getD i 0 = b.getD i 0)) w := by
  have hu : P.underlying E = some (.int k) := by
    unfold tyInt at hE
    cases hu : P.underlying E with
    | none => simp [hu] at hE
    | some t => cases t <;> simp [hu] at hE; rw [hE]
  have hag : ∀ w : World, (isAgg E).run P w = .ok false w := fun w => by simp [isAgg, run_underlying hu]
  intro is
  induction is with
  | nil => intro _; simp [Op.eqItems]
  | cons i is ih =>
    intro h
    obtain ⟨h1, h2, h3, h4⟩ := h i (by simp)
    have ih := ih fun j hj => h j (by simp [hj])
    have p1 : (part E xs (i * 1)).run P w = .ok (.int k (a.getD i 0)) w := by simp [part, hag, h3]
    have p2 : (part E ys (i * 1)).run P w = .ok (.int k (b.getD i 0)) w := by simp [part, hag, h4]
    simp only [Op.eqItems, _root_.Go.Sem.run_bind, p1, p2, run_equalIn_int w d E k k _ _ hu, Result.andThen_ok, List.all_cons]
    by_cases e : a.getD i 0 = b.getD i 0
    · simp only [e, beq_self_eq_true, Bool.not_true, Bool.false_eq_true, if_false, decide_true, Bool.true_and]
      simpa using ih
    · have : (a.getD i 0 == b.getD i 0) = false := by simpa using e
      simp only [this, Bool.not_false, if_true, e, decide_false, Bool.false_and]
      rfl

theorem ok_eq_arr {op : BinOp} {T T' E : TypeId} {x y : Operand} {k : IntKind} {a b : List Int} {len : Nat} (hop : op = .eql ∨ op = .neq) (hx : ρ x = .agg (IL k a)) (hy : ρ y = .agg (IL k b)) (ht : tyArr C.P T = some (len, E))
    (hE : tyInt C.P E = some k) (hs : tySize C.P E = some 1) (hg : C.P.eqGuardType C.P.depth T = false) (ha : a.length = len) (hb : b.length = len) :
    OpOk C ⟨dst, .binOp op T x y T', ty, pos, after, guard⟩ ρ [] pre (.c (.lit (.bool (decide (a = b) == decide (op = .eql))))) [] :=
  opOk_pure fun μ M ac _ hr => by
    have h1 := hr x (by simp [Op.operands]); rw [hx] at h1
    have h2 := hr y (by simp [Op.operands]); rw [hy] at h2
    obtain ⟨xs, ex, exs, hxs⟩ := h1
    obtain ⟨ys, ey, eys, hys⟩ := h2
    obtain ⟨i, hi, hisz⟩ : ∃ i, C.P.info? E = some i ∧ i.size = 1 := by
      unfold tySize at hs
      cases hi : C.P.info? E with
      | none => simp [hi] at hs
      | some i => simp [hi] at hs; exact ⟨i, rfl, hs⟩
    have hcells : C.P.cellsOf E = 1 := by simp [Program.cellsOf, hi, hisz]
    have get : ∀ (l : List Int) (vs : Array Value), vs.size = (IL k l).length → (∀ i (h : i < (IL k l).length) (h' : i < vs.size), RepC C μ M (IL k l)[i] vs[i]) → ∀ i, i < l.length → vs[i]? = some (.int k (l.getD i 0)) := by
      intro l vs e h i hi
      have hi' : i < (IL k l).length := by simpa [IL] using hi
      have := h i hi' (by omega)
      simp only [IL, List.getElem_map] at this
      have : vs[i]'(by omega) = .int k l[i] := RepI.lit_eq this
      rw [Array.getElem?_eq_getElem (by omega), this]
      simp [List.getD_eq_getElem?_getD, hi]
    have he : (Op.equalIn 10000 T (.agg xs) (.agg ys)).run C.P M.w = .ok (decide (a = b)) M.w := by
      rw [run_equalIn_array M.w 9999 xs ys (und_arr ht) hi, hcells, eqItems_run hE xs ys a b 9998 M.w (List.range len) (fun i hi => by
        have hi := List.mem_range.1 hi
        exact ⟨by omega, by omega, get a xs exs hxs i (by omega), get b ys eys hys i (by omega)⟩)]
      congr 1
      rw [Bool.eq_iff_iff]
      simp only [List.all_eq_true, List.mem_range, decide_eq_true_eq]
      constructor
      · intro h
        apply List.ext_getElem (by omega)
        intro i i1 i2
        have := h i (by omega)
        simpa [List.getD_eq_getElem?_getD, i1, i2] using this
      · intro h i _; rw [h]
    refine ⟨.bool (decide (a = b) == decide (op = .eql)), ?_, RepI.lit _⟩
    rcases hop with rfl | rfl
    · simp only [execOp, ex, ey, bind, Sem.run_bind', run_eqGuard_agg M.w .eql T x y xs ys hg, Result.andThen_ok, run_eql_struct, he]; cases decide (a = b) <;> rfl
    · simp only [execOp, ex, ey, bind, Sem.run_bind', run_eqGuard_agg M.w .neq T x y xs ys hg, Result.andThen_ok, run_neq_struct, he]; cases decide (a = b) <;> rfl

/-! ### == of structs with arrays of whole numbers among their fields -/
inductive Seg
  | v (v : Value)
  | il (k : IntKind) (l : List Int)
def segC : List Seg → List AC
  | [] => []
  | .v v :: l => .lit v :: segC l
  | .il k a :: l => IL k a ++ segC l
def eqG (P : Program) : List Field → Nat → List Seg → List Seg → Option Bool
  | [], _, [], [] => some true
  | f :: fs, i, .v a :: xs, .v b :: ys =>
    if (f.name == "_") = false ∧ f.offset = i ∧ tyAgg P f.type = some false then
      match eqS P f.type a b, eqG P fs (i + 1) xs ys with
      | some r, some s => some (r && s)
      | _, _ => none
    else none
  | f :: fs, i, .il k a :: xs, .il k' b :: ys => match tyArr P f.type with
    | some (len, E) =>
      if (f.name == "_") = false ∧ f.offset = i ∧ k = k' ∧ tyInt P E = some k ∧ tySize P E = some 1 ∧ tySize P f.type = some len ∧ a.length = len ∧ b.length = len then
        match eqG P fs (i + len) xs ys with
        | some s => some (decide (a = b) && s)
        | none => none
      else none
    | none => none
  | _, _, _, _ => none
def Cov (xs : Array Value) : Nat → List Seg → Prop
  | _, [] => True
  | i, .v v :: l => xs[i]? = some v ∧ Cov xs (i + 1) l
  | i, .il k a :: l => (∀ j, j < a.length → xs[i + j]? = some (.int k (a.getD j 0))) ∧ Cov xs (i + a.length) l
theorem all_getD {a b : List Int} {len : Nat} (ha : a.length = len) (hb : b.length = len) : ((List.range len).all fun i => decide (a.getD i 0 = b.getD i 0)) = decide (a = b) := by
  rw [Bool.eq_iff_iff]
  simp only [List.all_eq_true, List.mem_range, decide_eq_true_eq]
  constructor
  · intro h
    apply List.ext_getElem (by omega)
    intro i i1 i2
    have := h i (by omega)
    simpa [List.getD_eq_getElem?_getD, i1, i2] using this
  · intro h i _; rw [h]
theorem ext_get {xs : Array Value} {i len j : Nat} {v : Value} (h : xs[i + j]? = some v) (hj : j < len) : (xs.extract i (i + len))[j]? = some v := by
  obtain ⟨hl, e⟩ := Array.getElem?_eq_some_iff.1 h
  rw [Array.getElem?_extract, if_pos (by omega), h]
theorem run_eqG {P : Program} (xs ys : Array Value) (d : Nat) (w : World) : ∀ (fs : List Field) (i : Nat) (as bs : List Seg) (r : Bool), eqG P fs i as bs = some r → Cov xs i as → Cov ys i bs →
    (Op.eqFields (d + 2) xs ys fs).run P w = .ok r w := by
  intro fs
  induction fs with
  | nil =>
    intro i as bs r h _ _
    cases as <;> cases bs <;> simp [eqG] at h
    subst h; simp [Op.eqFields]
  | cons f fs ih =>
    intro i as bs r h hx hy
    cases as with
    | nil => simp [eqG] at h
    | cons a0 as' =>
    cases bs with
    | nil => cases a0 <;> simp [eqG] at h
    | cons b0 bs' =>
    cases a0 with
    | v a =>
      cases b0 with
      | v b =>
        simp only [eqG] at h
        split at h
        · rename_i hh
          obtain ⟨hn, ho, ha⟩ := hh
          split at h
          · rename_i r1 s1 e1 e2
            cases h
            have hn' : f.name ≠ "_" := by simpa using hn
            obtain ⟨hxi, hx'⟩ := hx
            obtain ⟨hyi, hy'⟩ := hy
            have p1 : (part f.type xs f.offset).run P w = .ok a w := by
              simp only [part, bind, Sem.run_bind, run_isAgg ha, Result.andThen_ok, Bool.false_eq_true, if_false, ho, hxi]; rfl
            have p2 : (part f.type ys f.offset).run P w = .ok b w := by
              simp only [part, bind, Sem.run_bind, run_isAgg ha, Result.andThen_ok, Bool.false_eq_true, if_false, ho, hyi]; rfl
            have ih' := ih (i + 1) as' bs' s1 e2 hx' hy'
            rw [Op.eqFields]
            simp only [if_pos hn', bind, Sem.run_bind, p1, p2, run_eqS e1, Result.andThen_ok]
            cases r1
            · simp
            · simpa using ih'
          · cases h
        · cases h
      | _ => simp [eqG] at h
    | il k a =>
      cases b0 with
      | il k' b =>
        simp only [eqG] at h
        split at h
        · rename_i len E ht
          split at h
          · rename_i hh
            obtain ⟨hn, ho, rfl, hE, hs, hsz, la, lb⟩ := hh
            split at h
            · rename_i s1 e2
              cases h
              have hn' : f.name ≠ "_" := by simpa using hn
              obtain ⟨hxi, hx'⟩ := hx
              obtain ⟨hyi, hy'⟩ := hy
              rw [la] at hxi hx'
              rw [lb] at hyi hy'
              have ha : tyAgg P f.type = some true := by unfold tyAgg; rw [und_arr ht]
              have p1 : (part f.type xs f.offset).run P w = .ok (.agg (xs.extract i (i + len))) w := by
                simp only [part, bind, Sem.run_bind, run_isAgg ha, Result.andThen_ok, if_true, ho, run_sizeOf hsz]; rfl
              have p2 : (part f.type ys f.offset).run P w = .ok (.agg (ys.extract i (i + len))) w := by
                simp only [part, bind, Sem.run_bind, run_isAgg ha, Result.andThen_ok, if_true, ho, run_sizeOf hsz]; rfl
              obtain ⟨inf, hi, hisz⟩ : ∃ inf, P.info? E = some inf ∧ inf.size = 1 := by
                unfold tySize at hs
                cases hi : P.info? E with
                | none => simp [hi] at hs
                | some i => simp [hi] at hs; exact ⟨i, rfl, hs⟩
              have hcells : P.cellsOf E = 1 := by simp [Program.cellsOf, hi, hisz]
              have q : (Op.equalIn (d + 2) f.type (.agg (xs.extract i (i + len))) (.agg (ys.extract i (i + len)))).run P w = .ok (decide (a = b)) w := by
                rw [run_equalIn_array w (d + 1) _ _ (und_arr ht) hi, hcells, eqItems_run hE _ _ a b d w (List.range len) (fun j hj => by
                  have hj := List.mem_range.1 hj
                  exact ⟨by omega, by omega, ext_get (hxi j hj) hj, ext_get (hyi j hj) hj⟩), all_getD la lb]
              have ih' := ih (i + len) as' bs' s1 e2 hx' hy'
              rw [Op.eqFields]
              simp only [if_pos hn', bind, Sem.run_bind, p1, p2, q, Result.andThen_ok]
              cases hd : decide (a = b)
              · simp
              · simpa using ih'
            · cases h
          · cases h
        · cases h
      | _ => simp [eqG] at h
theorem cov_of {μ : Nat → Nat} {M : Mem} {xs : Array Value} : ∀ (l : List Seg) (i : Nat), (∀ j (h : j < (segC l).length), ∃ h' : i + j < xs.size, RepC C μ M (segC l)[j] (xs[i + j])) → Cov xs i l
  | [], _, _ => trivial
  | .v v :: l, i, h => by
    refine ⟨?_, cov_of (μ := μ) (M := M) l (i + 1) fun j hj => ?_⟩
    · obtain ⟨h1, h2⟩ := h 0 (by simp [segC])
      simp only [segC, List.getElem_cons_zero] at h2
      have e : xs[i + 0] = v := RepI.lit_eq h2
      rw [Nat.add_zero] at h1
      rw [Array.getElem?_eq_getElem h1]
      exact congrArg some e
    · obtain ⟨h1, h2⟩ := h (j + 1) (by simp [segC]; omega)
      refine ⟨by omega, ?_⟩
      simp only [segC, List.getElem_cons_succ] at h2
      have e : i + (j + 1) = i + 1 + j := by omega
      simp only [e] at h2
      exact h2
  | .il k a :: l, i, h => by
    have hl : (IL k a).length = a.length := by simp [IL]
    refine ⟨fun j hj => ?_, cov_of (μ := μ) (M := M) l (i + a.length) fun j hj => ?_⟩
    · obtain ⟨h1, h2⟩ := h j (by simp [segC, hl]; omega)
      simp only [segC] at h2
      rw [List.getElem_append_left (by omega)] at h2
      simp only [IL, List.getElem_map] at h2
      have e : xs[i + j] = .int k a[j] := RepI.lit_eq h2
      rw [Array.getElem?_eq_getElem h1, e]
      simp [List.getD_eq_getElem?_getD, hj]
    · obtain ⟨h1, h2⟩ := h (a.length + j) (by simp [segC, hl]; omega)
      refine ⟨by omega, ?_⟩
      simp only [segC] at h2
      rw [List.getElem_append_right (by omega)] at h2
      have e : i + (a.length + j) = i + a.length + j := by omega
      simp only [e, hl, Nat.add_sub_cancel_left] at h2
      exact h2
def eqGT (P : Program) (T : TypeId) (as bs : List Seg) : Option Bool :=
  match P.underlying T with
  | some (.struct fs) => if P.stoodInHeld T = false ∧ P.eqGuardType P.depth T = false then eqG P fs.toList 0 as bs else none
  | _ => none
theorem ok_eq_seg {op : BinOp} {T T' : TypeId} {x y : Operand} {as bs : List Seg} {r : Bool} (hop : op = .eql ∨ op = .neq) (hx : ρ x = .agg (segC as)) (hy : ρ y = .agg (segC bs)) (h : eqGT C.P T as bs = some r) :
    OpOk C ⟨dst, .binOp op T x y T', ty, pos, after, guard⟩ ρ [] pre (.c (.lit (.bool (r == decide (op = .eql))))) [] :=
  opOk_pure fun μ M ac _ hr => by
    have h1 := hr x (by simp [Op.operands]); rw [hx] at h1
    have h2 := hr y (by simp [Op.operands]); rw [hy] at h2
    obtain ⟨xs, ex, exs, hxs⟩ := h1
    obtain ⟨ys, ey, eys, hys⟩ := h2
    unfold eqGT at h
    split at h
    · rename_i fs hu
      split at h
      · rename_i hh
        have hf : C.P.fieldsOf T = fs := by simp [Program.fieldsOf, hu]
        have he : (Op.equalIn 10000 T (.agg xs) (.agg ys)).run C.P M.w = .ok r M.w := by
          rw [run_equalIn_struct (P := C.P) M.w 9999 T xs ys (by rw [hf]; exact hu) hh.1, hf]
          exact run_eqG xs ys 9997 M.w fs.toList 0 as bs r h
            (cov_of (C := C) (μ := μ) (M := M) as 0 fun j hj => ⟨by omega, by have := hxs j hj (by omega); simpa using this⟩)
            (cov_of (C := C) (μ := μ) (M := M) bs 0 fun j hj => ⟨by omega, by have := hys j hj (by omega); simpa using this⟩)
        refine ⟨.bool (r == decide (op = .eql)), ?_, RepI.lit _⟩
        rcases hop with rfl | rfl
        · simp only [execOp, ex, ey, bind, Sem.run_bind', run_eqGuard_agg M.w .eql T x y xs ys hh.2, Result.andThen_ok, run_eql_struct, he]; cases r <;> rfl
        · simp only [execOp, ex, ey, bind, Sem.run_bind', run_eqGuard_agg M.w .neq T x y xs ys hh.2, Result.andThen_ok, run_neq_struct, he]; cases r <;> rfl
      · cases h
    · cases h

end ops
end Go.Ev
/-
  Operations over lists where there are slices of one's own: these are published first.
-/
namespace Go.Ev
set_option linter.unusedVariables false
variable {C : Cfg} {ρ : Operand → AV} {pre : Nat → Option Box}
theorem opOk_pub {o : Oper} {r : AV} {ups : List (Nat × Option Box)} {bs : List Nat} (h : OpOk C o (fun x => pubA pre (ρ x)) [] pre r ups)
    (ht : ∀ x ∈ o.op.operands, ∀ vs, ρ x ≠ .tup vs) (hbs : ∀ x ∈ o.op.operands, ∀ b ∈ slA (ρ x), b ∈ bs) (hdj : ∀ b ∈ wrOf ups, b ∉ bs) (hnm : ∀ b ∈ bs, ∀ bx, pre b = some bx → ∀ b', bx.men b' = false) :
    OpOk C o ρ [] pre r (upsOf pre bs ++ ups) := by
  intro μ M a next Q wf hr hb hd kk
  simp only [List.nil_append, wrOf_append, wrOf_upsOf] at hb hd kk
  have hb1 : ∀ b ∈ bs, ∀ bx, pre b = some bx → RepB C μ M b bx := fun b hb' => hb b (List.mem_append_left _ hb')
  have hd1 : ∀ x ∈ bs, ∀ y ∈ bs, liveB (pre x) = true → liveB (pre y) = true → μ x = μ y → x = y := fun x hx y hy => hd x (List.mem_append_left _ hx) y (List.mem_append_left _ hy)
  have t1 := pub_trans (C := C) (μ := μ) wf hb1
  have hreps : ∀ x ∈ o.op.operands, RepV C μ (pubM M μ pre bs) (pubA pre (ρ x)) (a.eval x) := by
    intro x hx
    have hv := hr x hx
    have hnt := ht x hx
    cases hρ : ρ x with
    | tup vs => exact (hnt vs hρ).elim
    | c y =>
      rw [hρ] at hv
      exact pubA_rep (a := .c y) wf hb1 (fun b hb' => hbs x hx b (by rw [hρ]; exact hb')) hv
    | agg y =>
      rw [hρ] at hv
      exact pubA_rep (a := .agg y) wf hb1 (fun b hb' => hbs x hx b (by rw [hρ]; exact hb')) hv
  have hb2 : ∀ b ∈ wrOf ups, ∀ bx, pre b = some bx → RepB C μ (pubM M μ pre bs) b bx := by
    intro b hb' bx e
    refine (hb b (List.mem_append_right _ hb') bx e).trans t1 (hdj b hb') (fun hn b' hb'' hl' eq => ?_) fun _ _ => rfl
    have := hd b (List.mem_append_right _ hb') b' (List.mem_append_left _ hb'') (by simp [e, liveB, hn]) hl' eq
    exact hdj b hb' (this ▸ hb'')
  refine h μ (pubM M μ pre bs) a next Q t1.wf hreps (by simpa using hb2) (by simpa using fun x hx y hy => hd x (List.mem_append_right _ hx) y (List.mem_append_right _ hy)) ?_
  intro v μ' M' hv t hpb hf' hd'
  have hmem : ∀ b, b ∈ bs ++ wrOf ups → b ∈ bs ∨ (b ∈ wrOf ups ∧ b ∉ bs) := fun b hb' => by
    rcases List.mem_append.1 hb' with h | h
    · exact .inl h
    · exact .inr ⟨h, hdj b h⟩
  have mubs : ∀ b, b ∈ bs → μ' b = μ b := fun b hb' => t.mu b fun h => absurd hb' (hdj b h)
  have livebs : ∀ x, x ∈ bs → liveB (postOf (upsOf pre bs ++ ups) x) = true → liveB (pre x) = true := fun x h hlx => by
    rw [postOf_upsOf h] at hlx
    cases e0 : pre x with
    | none => simp [e0, liveB] at hlx
    | some bx => rw [e0] at hlx; simpa [liveB, pubB] using hlx
  have hbm : ∀ b ∈ bs, ∀ bx, pre b = some bx → ∀ b', (pubB bx).men b' = true → μ' b' = μ b' := fun b hb' bx e b' hm => by
    have h1 := hnm b hb' bx e b'
    have h2 : bx.men b' = true := hm
    rw [h1] at h2; cases h2
  refine kk v μ' M' hv ?_ ?_ ?_ ?_
  · refine ⟨t1.grow.trans t.grow, t.wf, t.os.trans t1.os, t.tape.trans t1.tape, t.output.trans t1.output, fun blk h1 h2 h3 => ?_, fun blk h1 s => t.spb blk h1 s, fun blk c T fz e hs => t.wid blk c T fz e hs, fun b hb' => ?_⟩
    · obtain ⟨e1, e2⟩ := t.fr blk h1 h2 fun b hb' => h3 b (List.mem_append_right _ hb')
      obtain ⟨_, e4⟩ := t1.fr blk h1 h2 fun b hb' => h3 b (List.mem_append_left _ hb')
      exact ⟨e1, fun o i => e4 o (e2 o i)⟩
    · exact t.mu b fun h => hb' (List.mem_append_right _ h)
  · intro b hb' bx e
    rcases hmem b hb' with h | ⟨h, h'⟩
    · rw [postOf_upsOf h] at e
      obtain ⟨bx0, e0, rfl⟩ := Option.map_eq_some_iff.1 e
      refine (pub_box wf hb1 hd1 h e0).trans t (fun h' => hdj b h' h) (fun hn b' hb'' hl' eq => ?_) fun b' hm => hbm b h bx0 e0 b' hm
      have := hd b (List.mem_append_left _ h) b' (List.mem_append_right _ hb'') (by have hn : bx0.nl = false := hn; simp [e0, liveB, hn]) hl' eq
      exact hdj b' hb'' (this ▸ h)
    · rw [postOf_upsOf' h'] at e
      exact hpb b h bx e
  · intro x hx hlx
    rcases hmem x hx with h | ⟨h, h'⟩
    · exact .inr ⟨x, hx, livebs x h hlx, mubs x h⟩
    · rw [postOf_upsOf' h'] at hlx
      rcases hf' x h hlx with g | ⟨y, hy, ly, ey⟩
      · exact .inl g
      · exact .inr ⟨y, List.mem_append_right _ hy, ly, ey⟩
  · intro x hx y hy lx ly eq
    have key : ∀ x y, x ∈ bs → y ∈ wrOf ups → liveB (pre x) = true → liveB (postOf ups y) = true → μ x = μ' y → False := fun x y hx hy lx ly eq => by
      rcases hf' y hy ly with g | ⟨z, hz, lz, ez⟩
      · cases e0 : pre x with
        | none => simp [e0, liveB] at lx
        | some bx =>
          have := (hb1 x hx bx e0).lt (by simpa [e0, liveB] using lx)
          have g : M.w.heap.size ≤ μ' y := g
          omega
      · have := hd x (List.mem_append_left _ hx) z (List.mem_append_right _ hz) lx lz (eq.trans ez)
        exact hdj z hz (this ▸ hx)
    rcases hmem x hx with h | ⟨h, h'⟩ <;> rcases hmem y hy with g | ⟨g, g'⟩
    · rw [mubs x h, mubs y g] at eq
      exact hd1 x h y g (livebs x h lx) (livebs y g ly) eq
    · rw [postOf_upsOf' g'] at ly
      rw [mubs x h] at eq
      exact (key x y h g (livebs x h lx) ly eq).elim
    · rw [postOf_upsOf' h'] at lx
      rw [mubs y g] at eq
      exact (key y x g h (livebs y g ly) lx eq.symm).elim
    · rw [postOf_upsOf' h'] at lx
      rw [postOf_upsOf' g'] at ly
      exact hd' x h y g lx ly eq
end Go.Ev
