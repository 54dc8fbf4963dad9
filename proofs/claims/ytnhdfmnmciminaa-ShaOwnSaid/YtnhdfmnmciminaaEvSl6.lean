/-
  A symbolic executor over abstract states, part 7h: new slices; texts and bytes; copies; == of arrays.
-/
import Derived.Test.YtnhdfmnmciminaaEvSl5
import Derived.Laws.NewFold
import Derived.ChangeKeysEq
namespace Go.Ev
set_option linter.unusedSimpArgs false
set_option linter.unusedVariables false

section ops
variable {C : Cfg} {dst : Option Tmp} {ty : TypeId} {pos : String} {after : Array Edge} {guard : Option (Nat × Bool)} {ρ : Operand → AV} {pre : Nat → Option Box}

/-- A new row in a world that may have drawn, and a slice over the first n elements of it. -/
theorem ok_newSl' {op : Op} {d n sz : Nat} {cs : List AC} (hd : pre d = none) (hm : menL d cs = false) (hl : n * sz ≤ cs.length)
    (h : ∀ μ M (a : Act), Wf C M → (∀ x ∈ op.operands, RepV C μ M (ρ x) (a.eval x)) → ∃ (vs rest : Array Value) (T : TypeId) (cap : Nat) (fz : Nat × Nat) (w1 : World), RepCs C μ M cs vs ∧ n ≤ cap ∧ cap * sz ≤ vs.size + rest.size ∧
      FzOk fz (vs.size + rest.size) ∧ w1.heap = M.w.heap ∧ w1.os = M.w.os ∧ w1.tape = M.w.tape ∧ w1.output = M.w.output ∧
      (execOp a.eval ⟨some d, op, ty, pos, after, guard⟩).run C.P M.w = .ok (.value (.slice (some ⟨M.w.heap.size, 0, none⟩) n cap)) { w1 with heap := M.w.heap.push (.cells (vs ++ rest) T fz) }) :
    OpOk C ⟨some d, op, ty, pos, after, guard⟩ ρ [] pre (.c (.sl d n sz false)) [(d, some { cells := cs })] := by
  intro μ M a next Q wf hr _ _ k
  obtain ⟨vs, rest, T, cap, fz, w1, hvs, hcap, hsz, hfz, h1, h2, h3, h4, e⟩ := h μ M a wf hr
  unfold Oper.wp
  rw [e]
  have t := new_trans' (C := C) (μ := μ) wf hd (.cells (vs ++ rest) T fz) w1 h1 h2 h3 h4
  refine k (.slice (some ⟨M.w.heap.size, 0, none⟩) n cap) (upd μ d M.w.heap.size) _ ?_ t ?_ ?_ ?_
  · refine ⟨cap, vs ++ rest, T, fz, by simp [upd], hcap, by simp [upd], by simpa using hsz, ?_⟩
    simp only [upd, if_true]
    intro hs; exact absurd (wf.sp _ hs) (Nat.lt_irrefl _)
  · intro b hb bx hbx
    simp [wrOf] at hb
    subst hb
    simp [postOf] at hbx
    subst hbx
    have hrep' := hvs.trans t (fun b' hb' => by
      have : b' ≠ b := fun e => by subst e; simp [menL] at hm; simp at hb'; obtain ⟨x, hx, hx'⟩ := hb'; have := hm x hx; simp [this] at hx'
      simp [upd, this])
    refine ⟨by simp, fun _ => ⟨⟨vs ++ rest, T, fz, by simp [upd], by simpa using hfz, by simp [hvs.1], fun i i1 i2 => ⟨?_, by simp⟩⟩, fun o => ?_, Nat.zero_le _, ?_⟩⟩
    · have i1' : i < cs.length := i1
      have hi : i < vs.size := by have := hvs.1; omega
      rw [Array.getElem_append_left hi]
      exact hrep'.2 i i1' hi
    · simp only [upd, if_true]
      intro i; exact absurd (wf.imm _ _ i).1 (Nat.lt_irrefl _)
    · simp only [upd, if_true]
      intro s; exact absurd (wf.sp _ s) (Nat.lt_irrefl _)
  · intro x hx _
    simp [wrOf] at hx
    subst hx
    left; simp [upd]
  · intro x hx y hy _ _ _
    simp [wrOf] at hx hy
    rw [hx, hy]

theorem modify_last (h : Array Obj) (o : Obj) (f : Obj → Obj) : (h.push o).modify h.size f = h.push (f o) := by
  apply Array.ext_getElem?
  intro i
  rw [Array.getElem?_modify, Array.getElem?_push, Array.getElem?_push]
  by_cases e : i = h.size
  · subst e; simp
  · have : ¬ h.size = i := fun e' => e e'.symm
    simp [this, e]

/-- The cells of so many zeros. -/
def zerosL (z : Array Value) (n : Nat) : List AC := (List.range n).map fun i => .lit z[i % z.size]!

theorem ok_makeSlice {T : TypeId} {x y : Operand} {d : Nat} {el : Elt} {k k' : IntKind} {n : Int} (hd : pre d = none) (he : eltOf C.P T = some el) (hx : ρ x = .c (.lit (.int k n))) (hy : ρ y = .c (.lit (.int k' n)))
    (h0 : 0 ≤ n) (h1 : n * el.by' ≤ 281474976710656) (h2 : n ≤ 9223372036854775807) :
    OpOk C ⟨some d, .makeSlice T x y, ty, pos, after, guard⟩ ρ [] pre (.c (.sl d n.toNat el.sz false)) [(d, some { cells := zerosL el.z (n.toNat * el.sz) })] := by
  obtain ⟨hu, hs, hby, ⟨z, hz, hzc⟩, hzs, _⟩ := eltOf_some he
  obtain ⟨i, hi, hib⟩ : ∃ i, C.P.info? el.e = some i ∧ i.bytes = el.by' := by
    unfold tyBytes at hby
    cases hi : C.P.info? el.e with
    | none => simp [hi] at hby
    | some i => simp [hi] at hby; exact ⟨i, rfl, hby⟩
  have hti : ∀ w : World, (typeInfo el.e).run C.P w = .ok i w := fun w => by simp [typeInfo, hi]
  refine ok_newSl' hd (by simp [menL, zerosL, AC.men]) (by simp [zerosL]) fun μ M a wf hr => ?_
  have e1 := hr x (by simp [Op.operands]); rw [hx] at e1
  have e1 : a.eval x = .int k n := RepI.lit_eq e1
  have e2 := hr y (by simp [Op.operands]); rw [hy] at e2
  have e2 : a.eval y = .int k' n := RepI.lit_eq e2
  have hw : IntKind.i64.wrap n = n := by
    unfold IntKind.wrap
    have : IntKind.signed .i64 = true := rfl
    have h3 : (2 : Int) ^ (IntKind.bits .i64) = 18446744073709551616 := by decide
    have h4 : (2 : Int) ^ (IntKind.bits .i64 - 1) = 9223372036854775808 := by decide
    simp only [this, h3, h4]
    have : n % 18446744073709551616 = n := Int.emod_eq_of_lt h0 (by omega)
    rw [this]
    have : ¬ (n ≥ 9223372036854775808) := by omega
    simp [this]
  have hf : ¬ (n < 0) := by omega
  have hg : ¬ (281474976710656 < (i.bytes : Int) * n) := by rw [hib, Int.mul_comm]; omega
  let zc : Array Value := if n.toNat * el.sz = 0 then #[] else z.cells
  refine ⟨(Array.range (n.toNat * el.sz)).map (fun j => zc[j % zc.size]!), #[], el.e, n.toNat, (0, 0), M.w, ?_, Nat.le_refl _, by simp, .inl rfl, rfl, rfl, rfl, rfl, ?_⟩
  · refine ⟨by simp [zerosL], fun j h1 h2 => ?_⟩
    have hj : j < n.toNat * el.sz := by simpa [zerosL] using h1
    have hzc2 : zc = el.z := by simp only [zc]; rw [if_neg (by omega), hzc]
    simp only [zerosL, List.getElem_map, List.getElem_range, Array.getElem_map, Array.getElem_range, hzc2]
    exact RepI.lit _
  · by_cases hn0 : n.toNat * el.sz = 0
    · simp [execOp, Instr.makeSlice, e1, e2, run_underlying hu, asInt, asIntOf, hti, run_sizeOf hs, hw, hf, hg, hn0, newRow, zc]
    · simp [execOp, Instr.makeSlice, e1, e2, run_underlying hu, asInt, asIntOf, hti, run_sizeOf hs, hw, hf, hg, hn0, newRow, zc, run_zero hz]

/-- A text's bytes, in memory. -/
theorem ok_conv_sb {S D E : TypeId} {x : Operand} {d : Nat} {s : ByteArray} (hd : pre d = none) (hx : ρ x = .c (.lit (.string s))) (hS : tyIs C.P S (fun _ => true) = true) (hD : tySlice C.P D = some E) (hE : tyInt C.P E = some .u8) :
    OpOk C ⟨some d, .convert S D x, ty, pos, after, guard⟩ ρ [] pre (.c (.sl d s.size 1 false)) [(d, some { cells := bytesL s })] := by
  have hE' : C.P.underlying E = some (.int .u8) := by
    unfold tyInt at hE
    cases hu : C.P.underlying E with
    | none => simp [hu] at hE
    | some t => cases t <;> simp [hu] at hE; rw [hE]
  obtain ⟨dS, hdS⟩ : ∃ t, C.P.underlying S = some t := by
    unfold tyIs at hS
    cases hu : C.P.underlying S with
    | none => simp [hu] at hS
    | some t => exact ⟨t, rfl⟩
  refine ok_newSl' hd (by simp only [menL, bytesL, List.any_map, Function.comp_def, AC.men]; exact List.any_eq_false.2 (by simp)) (by rw [Nat.mul_one]; simp [bytesL]) fun μ M a wf hr => ?_
  have e1 := hr x (by simp [Op.operands]); rw [hx] at e1
  have e1 : a.eval x = .string s := RepI.lit_eq e1
  have hq : s.size ≤ s.size + M.w.tape M.w.drawn (Question.appendCap s.size 0 E) % (2 ^ 63 - s.size) := Nat.le_add_right _ _
  let cap := s.size + M.w.tape M.w.drawn (Question.appendCap s.size 0 E) % (2 ^ 63 - s.size)
  refine ⟨s.data.map fun b => .int .u8 b.toNat, Array.replicate (cap - s.size) (.int .u8 0), E, cap, (cap, cap + 1), M.w.drew, ⟨by simp [bytesL], fun i h1 h2 => ?_⟩, hq, ?_, ?_, rfl, rfl, rfl, rfl, ?_⟩
  · simp only [bytesL, List.getElem_map, Array.getElem_map, Array.getElem_toList]
    exact RepI.lit _
  · simp only [Array.size_map, Array.size_replicate]
    have : s.data.size = s.size := rfl
    omega
  · right
    simp only [Array.size_map, Array.size_replicate]
    have : s.data.size = s.size := rfl
    omega
  · have hcut : Question.cut (.appendCap s.size 0 E) (M.w.tape M.w.drawn (Question.appendCap s.size 0 E)) = cap := rfl
    have hff : Question.forced (.appendCap s.size 0 E) = false := rfl
    have hsz : ((s.data.map fun b => Value.int .u8 b.toNat) ++ Array.replicate (cap - s.size) (Value.int .u8 0)).size = cap := by
      simp only [Array.size_append, Array.size_map, Array.size_replicate]
      have : s.data.size = s.size := rfl
      omega
    simp only [execOp, e1, convert, bind, Sem.run_bind', run_underlying hdS, Result.andThen_ok, run_underlying (und_slice hD), run_underlying hE', Conv.stringToBytes, run_choose_drew, hff, hcut, Bool.false_eq_true, if_false]
    simp only [newRow, markStringish, bind, Sem.run_bind', run_newObj, run_shape, run_freeze, Result.andThen_ok, pure, Sem.run_pure]
    simp only [Sem.run_pure', Result.andThen_ok, World.shape?, Array.getElem?_push_size, hsz, run_freeze, World.freeze, Nat.one_ne_zero, if_false]
    refine congrArg (Result.ok _) ?_
    simp only [World.mk.injEq, and_true]
    exact modify_last _ _ _

/-- The text of bytes. -/
theorem loadBytes_run {P : Program} {w : World} (l : List Int) : ∀ (acc : ByteArray),
    (forIn (m := Sem) (l.map fun n => Value.int .u8 n).toArray acc fun c r =>
      match c with
      | Value.int IntKind.u8 n => pure (ForInStep.yield (r.push (UInt8.ofNat n.toNat)))
      | x => (stuck "bytesToString: byte expected" : Sem PUnit).bind fun _ => pure (ForInStep.yield r)).run P w = .ok (⟨acc.data ++ (l.map fun n => UInt8.ofNat n.toNat).toArray⟩) w := by
  induction l with
  | nil => intro acc; simp
  | cons n l ih =>
    intro acc
    have := ih (acc.push (UInt8.ofNat n.toNat))
    simp only [List.forIn_toArray] at this ⊢
    simp only [List.map_cons, List.forIn_cons]
    simp only [bind, Sem.run_bind', Sem.run_pure, pure, Sem.run_pure', Result.andThen_ok] at this ⊢
    rw [this]
    congr 1
    cases acc
    simp [ByteArray.push]

theorem conv_bs_run {S D E : TypeId} {x : Operand} {n : Nat} {l : List Int} {M : Mem} {ac : Act} (e1 : RepI C M (.list n (IL .u8 l)) (ac.eval x)) (hl : l.length = n) (hS : tySlice C.P S = some E) (hE : tyInt C.P E = some .u8) (hD : tyIs C.P D (· matches .string) = true) :
    (execOp ac.eval ⟨dst, .convert S D x, ty, pos, after, guard⟩).run C.P M.w = .ok (.value (.string (textOf l))) M.w := by
    have hE' : C.P.underlying E = some (.int .u8) := by
      unfold tyInt at hE
      cases hu : C.P.underlying E with
      | none => simp [hu] at hE
      | some t => cases t <;> simp [hu] at hE; rw [hE]
    generalize hz : AC.list n (IL .u8 l) = z at e1
    generalize hv : ac.eval x = v at e1
    cases e1 <;> cases hz
    rename_i a cap blk off c hcap ha hc hr'
    have hlen : (IL .u8 l).length = n := by simp [IL, hl]
    have hcv : ∀ i (h : i < l.length), c i = .int .u8 l[i] := fun i h => by
      have := hr' i (by simpa [IL] using h)
      simp only [IL, List.getElem_map] at this
      exact RepI.lit_eq this
    cases a with
    | none =>
      have : l = [] := by
        by_cases h : l = []
        · exact h
        · have := ha (by simpa [IL] using h); cases this
      subst this
      simp [execOp, hv, convert, run_underlying (und_slice hS), run_underlying (und_str hD), run_underlying hE', Conv.bytesToString, textOf]
      rfl
    | some ad =>
      have hld : (loadCells ad n).run C.P M.w = .ok (l.map fun n => Value.int .u8 n).toArray M.w := by
        by_cases h : l = []
        · subst h
          have : n = 0 := by simpa using hl.symm
          subst this
          simp [loadCells, loadCellsFrom]
        · have := ha (by simpa [IL] using h)
          cases this
          have := run_loadCells (P := C.P) (w := M.w) blk off n 0 #[] c (fun j hj => by rw [Nat.zero_add]; exact (hc j (by omega)).2)
          simp only [loadCells]
          rw [this]
          congr 1
          apply Array.ext
          · simp [hl]
          · intro i h1 h2
            have : i < l.length := by simpa using h2
            simp [hcv i this]
      have hb := loadBytes_run (P := C.P) (w := M.w) l ByteArray.empty
      simp only [execOp, hv, convert, bind, Sem.run_bind', run_underlying (und_slice hS), run_underlying (und_str hD), Result.andThen_ok, run_underlying hE', Conv.bytesToString, hld]
      refine (congrArg (fun r : Result ByteArray => Result.andThen (Result.andThen r fun a w' => Sem.run C.P (pure (Value.string a)) w') fun a w' => Sem.run C.P (pure (Next.value a)) w') hb).trans ?_
      simp [textOf]

theorem ok_conv_bs {S D E : TypeId} {x : Operand} {n : Nat} {l : List Int} (hx : ρ x = .c (.list n (IL .u8 l))) (hl : l.length = n) (hS : tySlice C.P S = some E) (hE : tyInt C.P E = some .u8) (hD : tyIs C.P D (· matches .string) = true) :
    OpOk C ⟨dst, .convert S D x, ty, pos, after, guard⟩ ρ [] pre (.c (.lit (.string (textOf l)))) [] :=
  opOk_pure fun μ M ac _ hr => by
    have e1 := hr x (by simp [Op.operands]); rw [hx] at e1
    exact ⟨_, conv_bs_run (C := C) (dst := dst) (ty := ty) (pos := pos) (after := after) (guard := guard) e1 hl hS hE hD, RepI.lit _⟩

theorem ok_conv_bs_sl {S D E : TypeId} {x : Operand} {b n : Nat} {nl : Bool} {l : List Int} {bx : Box} (hx : ρ x = .c (.sl b n 1 nl)) (hb : pre b = some bx) (hnl : bx.nl = nl) (hc : bx.cells.take n = IL .u8 l) (hn : n ≤ bx.cells.length) (hp : bx.cells.all (·.pure) = true)
    (hS : tySlice C.P S = some E) (hE : tyInt C.P E = some .u8) (hD : tyIs C.P D (· matches .string) = true) :
    OpOk C ⟨dst, .convert S D x, ty, pos, after, guard⟩ ρ [b] pre (.c (.lit (.string (textOf l)))) [] := by
  intro μ M a next Q wf hr hbx _ k
  have e1 := hr x (by simp [Op.operands]); rw [hx] at e1
  have hbs : ∀ b' ∈ [b], ∀ bx', pre b' = some bx' → RepB C μ M b' bx' := fun b' h' => hbx b' (by simpa [wrOf] using h')
  have hl := pub_list (C := C) (pre := pre) wf hbs (b := b) (sz := 1) (by simp) hb hnl (by omega) hp (v := a.eval x) e1
  rw [Nat.mul_one, hc] at hl
  have hlen : l.length = n := by
    have := congrArg List.length hc
    simp [IL] at this; omega
  have e := conv_bs_run (C := C) (dst := dst) (ty := ty) (pos := pos) (after := after) (guard := guard) hl hlen hS hE hD
  unfold Oper.wp
  have e : (execOp a.eval ⟨dst, .convert S D x, ty, pos, after, guard⟩).run C.P M.w = .ok (.value (.string (textOf l))) M.w := e
  rw [e]
  exact k _ μ M (RepI.lit _) (Trans.refl C pre μ M wf) (by simp [wrOf]) (by simp [wrOf]) (by simp [wrOf])

theorem ok_conv_nil {S D E : TypeId} {x : Operand} (hx : ρ x = .c (.lit (.slice none 0 0))) (hS : tySlice C.P S = some E) (hE : tyInt C.P E = some .u8) (hD : tyIs C.P D (· matches .string) = true) :
    OpOk C ⟨dst, .convert S D x, ty, pos, after, guard⟩ ρ [] pre (.c (.lit (.string .empty))) [] :=
  opOk_pure fun μ M ac _ hr => by
    have e1 := hr x (by simp [Op.operands]); rw [hx] at e1
    have e1 : ac.eval x = .slice none 0 0 := RepI.lit_eq e1
    have hE' : C.P.underlying E = some (.int .u8) := by
      unfold tyInt at hE
      cases hu : C.P.underlying E with
      | none => simp [hu] at hE
      | some t => cases t <;> simp [hu] at hE; rw [hE]
    refine ⟨.string .empty, ?_, RepI.lit _⟩
    simp [execOp, e1, convert, run_underlying (und_slice hS), run_underlying (und_str hD), run_underlying hE', Conv.bytesToString]

/-- A slice of bytes as one of the same type. -/
theorem ok_conv_sl {S E : TypeId} {x : Operand} {b n sz : Nat} {bx : Box} (hx : ρ x = .c (.sl b n sz false)) (hb : pre b = some bx) (hnl : bx.nl = false) (hS : tySlice C.P S = some E) (hE : tyInt C.P E = some .u8) :
    OpOk C ⟨dst, .convert S S x, ty, pos, after, guard⟩ ρ [] pre (.c (.sl b n sz false)) [(b, some bx)] := by
  have hE' : C.P.underlying E = some (.int .u8) := by
    unfold tyInt at hE
    cases hu : C.P.underlying E with
    | none => simp [hu] at hE
    | some t => cases t <;> simp [hu] at hE; rw [hE]
  intro μ M a next Q wf hr hbx hdist k
  have e1 := hr x (by simp [Op.operands]); rw [hx] at e1
  obtain ⟨cap, c, Tb, fz, hv, hcap, hh, hz, hsp⟩ := (e1 : RepC C μ M (.sl b n sz false) (a.eval x))
  have hB := hbx b (by simp [wrOf]) bx hb
  obtain ⟨⟨c2, Tb2, fz2, hh2, hfz, hl2, hcell⟩, himm, hpl, hsp2⟩ := hB.2 hnl
  rw [hh] at hh2
  cases hh2
  have hlt := heap_lt hh
  let fz' : Nat × Nat := if fz.1 = fz.2 then (c.size, c.size + 1) else (min fz.1 c.size, max fz.2 (c.size + 1))
  have hfz' : FzOk fz' c.size := by
    simp only [fz']
    split
    · exact .inr (Nat.le_refl _)
    · rename_i hne
      rcases hfz with h | h
      · exact (hne h).elim
      · right; simp only; omega
  have e : (execOp a.eval ⟨dst, .convert S S x, ty, pos, after, guard⟩).run C.P M.w = .ok (.value (.slice (some ⟨μ b, 0, none⟩) n cap)) { M.w with heap := M.w.heap.setIfInBounds (μ b) (.cells c Tb fz') } := by
    simp only [execOp, hv, convert, bind, Sem.run_bind', run_underlying (und_slice hS), run_underlying hE', Result.andThen_ok, beq_self_eq_true, markStringish, run_shape, World.shape?, hh, run_freeze, World.freeze, Nat.one_ne_zero, if_false, pure, Sem.run_pure']
    refine congrArg (Result.ok _) ?_
    simp only [World.mk.injEq, and_true]
    apply Array.ext_getElem?
    intro j
    rw [Array.getElem?_modify, Array.getElem?_setIfInBounds]
    by_cases ej : μ b = j
    · subst ej
      have hg := hh
      rw [Array.getElem?_eq_getElem hlt] at hg
      obtain ⟨f1, f2⟩ := fz
      simp only [if_true, hlt, Array.getElem?_eq_getElem hlt, Option.map_some, Option.some.inj hg, Option.some.injEq, fz', beq_iff_eq]
    · simp [ej]
  unfold Oper.wp
  rw [e]
  have t := write_trans' (C := C) (pre := pre) wf hb hnl ⟨⟨c, Tb, fz, hh, hfz, hl2, hcell⟩, himm, hpl, hsp2⟩ hh (c' := c) (fz' := fz') (Nat.le_refl _) (fun _ _ => rfl)
  refine k (.slice (some ⟨μ b, 0, none⟩) n cap) μ { M with w := { M.w with heap := M.w.heap.setIfInBounds (μ b) (.cells c Tb fz') } } ⟨cap, c, Tb, fz', rfl, hcap, by simp [hlt], hz, hsp⟩ t ?_ ?_ ?_
  · intro b' hb' bx' hbx'
    simp [wrOf] at hb'
    subst hb'
    simp [postOf] at hbx'
    subst hbx'
    exact ⟨by simp [hnl], fun _ => ⟨⟨c, Tb, fz', by simp [hlt], hfz', hl2, fun i i1 i2 => ⟨(hcell i i1 i2).1.trans t fun _ _ => rfl, fun hrow => ((hcell i i1 i2).2 hrow).mono t.grow⟩⟩, himm, hpl, hsp⟩⟩
  · intro z hz' _
    simp [wrOf] at hz'
    subst hz'
    exact .inr ⟨z, by simp [wrOf], by simp [hb, liveB, hnl], rfl⟩
  · intro z hz' z' hz'' _ _ _
    simp [wrOf] at hz' hz''
    rw [hz', hz'']

theorem ok_build_arr {T E : TypeId} {len n : Nat} {parts : Array (Nat × Operand)} {cs : List AC} (hu : C.P.underlying T = some (.array len E)) (hn : tySize C.P E = some n)
    (hb : buildA C.P T (parts.toList.map fun p => (p.1, ρ p.2)) = some cs) : OpOk C ⟨dst, .build T parts, ty, pos, after, guard⟩ ρ [] pre (.agg cs) [] :=
  opOk_pure fun μ M a _ hr => by
    unfold buildA at hb
    cases hz : tyZero C.P T with
    | none => simp [hz] at hb
    | some z =>
      simp only [hz] at hb
      have hplace : (fun i => some (i * n, n)) = buildPlace C.P T := by
        funext i
        simp [buildPlace, hu, hn]
      obtain ⟨us, e, hus⟩ := fill_rep (C := C) (μ := μ) (M := M) (parts.toList.map fun p => (p.1, ρ p.2)) (parts.toList.map fun p => (p.1, a.eval p.2)) (z.cells.toList.map .lit) z.cells cs (by simp)
        (fun i h h' => ⟨by simp, by
          have hi : i < parts.size := by simpa using h
          have := hr parts[i].2 (by simp only [Op.operands, List.mem_toArray, List.mem_map]; exact ⟨parts[i], by simp [Array.getElem_mem], rfl⟩)
          simpa using this⟩)
        ⟨by simp, fun i h1 h2 => by simp only [List.getElem_map, Array.getElem_toList]; exact RepI.lit _⟩ hb
      refine ⟨.agg us, ?_, ⟨us, rfl, hus⟩⟩
      rw [← hplace] at e
      have hparts : (parts.map fun (x : Nat × Operand) => (x.1, a.eval x.2)).toList = parts.toList.map fun p => (p.1, a.eval p.2) := by simp
      simp only [execOp, Instr.build, Sem.run_bind', bind, run_zero hz, Result.andThen_ok, run_underlying hu, run_sizeOf hn, hparts, e]
      rfl

/-! ### == of arrays of whole numbers -/

theorem eqItems_run {P : Program} {E : TypeId} {k : IntKind} (hE : tyInt P E = some k) (xs ys : Array Value) (a b : List Int) (d : Nat) (w : World) : ∀ (is : List Nat),
    (∀ i ∈ is, i < a.length ∧ i < b.length ∧ xs[i]? = some (.int k (a.getD i 0)) ∧ ys[i]? = some (.int k (b.getD i 0))) →
    (Op.eqItems (d + 1) E 1 xs ys is).run P w = .ok (is.all fun i => decide (a.getD i 0 = b.getD i 0)) w := by
  have hu : P.underlying E = some (.int k) := by
    unfold tyInt at hE
    cases hu : P.underlying E with
    | none => simp [hu] at hE
    | some t => cases t <;> simp [hu] at hE; rw [hE]
  have hag : ∀ w : World, (isAgg E).run P w = .ok false w := fun w => by simp [isAgg, run_underlying hu]
  intro is
  induction is with
  | nil => intro _; simp [Op.eqItems]
  | cons i is ih =>
    intro h
    obtain ⟨h1, h2, h3, h4⟩ := h i (by simp)
    have ih := ih fun j hj => h j (by simp [hj])
    have p1 : (part E xs (i * 1)).run P w = .ok (.int k (a.getD i 0)) w := by simp [part, hag, h3]
    have p2 : (part E ys (i * 1)).run P w = .ok (.int k (b.getD i 0)) w := by simp [part, hag, h4]
    simp only [Op.eqItems, _root_.Go.Sem.run_bind, p1, p2, run_equalIn_int w d E k k _ _ hu, Result.andThen_ok, List.all_cons]
    by_cases e : a.getD i 0 = b.getD i 0
    · simp only [e, beq_self_eq_true, Bool.not_true, Bool.false_eq_true, if_false, decide_true, Bool.true_and]
      simpa using ih
    · have : (a.getD i 0 == b.getD i 0) = false := by simpa using e
      simp only [this, Bool.not_false, if_true, e, decide_false, Bool.false_and]
      rfl

theorem ok_eq_arr {op : BinOp} {T T' E : TypeId} {x y : Operand} {k : IntKind} {a b : List Int} {len : Nat} (hop : op = .eql ∨ op = .neq) (hx : ρ x = .agg (IL k a)) (hy : ρ y = .agg (IL k b)) (ht : tyArr C.P T = some (len, E))
    (hE : tyInt C.P E = some k) (hs : tySize C.P E = some 1) (hg : C.P.eqGuardType C.P.depth T = false) (ha : a.length = len) (hb : b.length = len) :
    OpOk C ⟨dst, .binOp op T x y T', ty, pos, after, guard⟩ ρ [] pre (.c (.lit (.bool (decide (a = b) == decide (op = .eql))))) [] :=
  opOk_pure fun μ M ac _ hr => by
    have h1 := hr x (by simp [Op.operands]); rw [hx] at h1
    have h2 := hr y (by simp [Op.operands]); rw [hy] at h2
    obtain ⟨xs, ex, exs, hxs⟩ := h1
    obtain ⟨ys, ey, eys, hys⟩ := h2
    obtain ⟨i, hi, hisz⟩ : ∃ i, C.P.info? E = some i ∧ i.size = 1 := by
      unfold tySize at hs
      cases hi : C.P.info? E with
      | none => simp [hi] at hs
      | some i => simp [hi] at hs; exact ⟨i, rfl, hs⟩
    have hcells : C.P.cellsOf E = 1 := by simp [Program.cellsOf, hi, hisz]
    have get : ∀ (l : List Int) (vs : Array Value), vs.size = (IL k l).length → (∀ i (h : i < (IL k l).length) (h' : i < vs.size), RepC C μ M (IL k l)[i] vs[i]) → ∀ i, i < l.length → vs[i]? = some (.int k (l.getD i 0)) := by
      intro l vs e h i hi
      have hi' : i < (IL k l).length := by simpa [IL] using hi
      have := h i hi' (by omega)
      simp only [IL, List.getElem_map] at this
      have : vs[i]'(by omega) = .int k l[i] := RepI.lit_eq this
      rw [Array.getElem?_eq_getElem (by omega), this]
      simp [List.getD_eq_getElem?_getD, hi]
    have he : (Op.equalIn 10000 T (.agg xs) (.agg ys)).run C.P M.w = .ok (decide (a = b)) M.w := by
      rw [run_equalIn_array M.w 9999 xs ys (und_arr ht) hi, hcells, eqItems_run hE xs ys a b 9998 M.w (List.range len) (fun i hi => by
        have hi := List.mem_range.1 hi
        exact ⟨by omega, by omega, get a xs exs hxs i (by omega), get b ys eys hys i (by omega)⟩)]
      congr 1
      rw [Bool.eq_iff_iff]
      simp only [List.all_eq_true, List.mem_range, decide_eq_true_eq]
      constructor
      · intro h
        apply List.ext_getElem (by omega)
        intro i i1 i2
        have := h i (by omega)
        simpa [List.getD_eq_getElem?_getD, i1, i2] using this
      · intro h i _; rw [h]
    refine ⟨.bool (decide (a = b) == decide (op = .eql)), ?_, RepI.lit _⟩
    rcases hop with rfl | rfl
    · simp only [execOp, ex, ey, bind, Sem.run_bind', run_eqGuard_agg M.w .eql T x y xs ys hg, Result.andThen_ok, run_eql_struct, he]; cases decide (a = b) <;> rfl
    · simp only [execOp, ex, ey, bind, Sem.run_bind', run_eqGuard_agg M.w .neq T x y xs ys hg, Result.andThen_ok, run_neq_struct, he]; cases decide (a = b) <;> rfl
end ops
end Go.Ev
