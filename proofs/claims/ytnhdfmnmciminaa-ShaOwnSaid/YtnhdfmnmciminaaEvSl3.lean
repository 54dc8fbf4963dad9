/-
  A symbolic executor over abstract states, part 7e: lengths, items, pieces, conversions; what is published; calls.
-/
import Derived.Test.YtnhdfmnmciminaaEvSl2
namespace Go.Ev
set_option linter.unusedSimpArgs false
set_option linter.unusedVariables false

/-- Whole numbers, as cells. -/
def IL (k : IntKind) (l : List Int) : List AC := l.map fun n => .lit (.int k n)
/-- A text's bytes, as numbers. -/
def bytesI (s : ByteArray) : List Int := s.data.toList.map fun b => (b.toNat : Int)
theorem bytesL_eq (s : ByteArray) : bytesL s = IL .u8 (bytesI s) := by simp [bytesL, IL, bytesI]
/-- The text of bytes. -/
def textOf (l : List Int) : ByteArray := ⟨(l.map fun n => UInt8.ofNat n.toNat).toArray⟩

section ops
variable {C : Cfg} {dst : Option Tmp} {ty : TypeId} {pos : String} {after : Array Edge} {guard : Option (Nat × Bool)} {ρ : Operand → AV} {pre : Nat → Option Box}

theorem und_slice {P : Program} {U E : TypeId} (hU : tySlice P U = some E) : P.underlying U = some (.slice E) := by
  unfold tySlice at hU
  cases hu : P.underlying U with
  | none => simp [hu] at hU
  | some d => cases d <;> simp [hu] at hU; rw [hU]
theorem und_arr {P : Program} {U E : TypeId} {n : Nat} (hU : tyArr P U = some (n, E)) : P.underlying U = some (.array n E) := by
  unfold tyArr at hU
  cases hu : P.underlying U with
  | none => simp [hu] at hU
  | some d => cases d <;> simp [hu] at hU; rw [hU.1, hU.2]
theorem und_str {P : Program} {U : TypeId} (hU : tyIs P U (· matches .string) = true) : P.underlying U = some .string := by
  unfold tyIs at hU
  cases hu : P.underlying U with
  | none => simp [hu] at hU
  | some d => cases d <;> simp [hu] at hU; rfl

/-! ### len -/

def isSlT (P : Program) (T : TypeId) : Bool := match P.underlying T with
  | some (.slice _) => true
  | _ => false
theorem isSlT_some {P : Program} {T : TypeId} (h : isSlT P T = true) : ∃ E, tySlice P T = some E := by
  unfold isSlT at h
  split at h
  · rename_i e hu; exact ⟨e, by simp [tySlice, hu]⟩
  · cases h
def lenA (P : Program) (T : TypeId) : AV → Option Int
  | .c (.lit (.string s)) => if tyIs P T (· matches .string) = true then some s.size else none
  | .c (.list n _) => if isSlT P T = true then some (n : Int) else none
  | .c (.sl _ n _ _) => if isSlT P T = true then some (n : Int) else none
  | .c (.lit (.slice none 0 0)) => if isSlT P T = true then some 0 else none
  | .agg _ => (tyArr P T).map fun p => (p.1 : Int)
  | _ => none

theorem ok_len {x : Operand} {T : TypeId} {n : Int} (h : lenA C.P T (ρ x) = some n) :
    OpOk C ⟨dst, .call ⟨.builtin .len, #[x], #[T]⟩, ty, pos, after, guard⟩ ρ [] pre (.c (.lit (.int .i64 n))) [] :=
  opOk_pure fun μ M ac _ hr => by
    have h1 := hr x (by simp [Op.operands, Call.operands])
    refine ⟨.int .i64 n, ?_, RepI.lit _⟩
    have fin : (Builtin.len_ #[T] ty #[ac.eval x]).run C.P M.w = .ok (.int .i64 n) M.w →
        (execOp ac.eval ⟨dst, .call ⟨.builtin .len, #[x], #[T]⟩, ty, pos, after, guard⟩).run C.P M.w = .ok (.value (.int .i64 n)) M.w := fun e => by
      simp [execOp, resolve, invoke, builtin, e]
    refine fin ?_
    unfold lenA at h
    split at h
    · rename_i s hx
      split at h
      · rename_i ht
        cases h
        rw [hx] at h1
        have h1 : ac.eval x = .string s := RepI.lit_eq h1
        simp [Builtin.len_, h1, run_underlying (und_str ht), goInt]
      · cases h
    · rename_i m flat hx
      rw [hx] at h1
      have h1 : RepI C M (.list m flat) (ac.eval x) := h1
      obtain ⟨hs, e⟩ : isSlT C.P T = true ∧ (m : Int) = n := by split at h <;> simp_all
      obtain ⟨E, hE⟩ := isSlT_some hs
      cases e
      generalize hv : ac.eval x = v at h1
      generalize hz : AC.list m flat = z at h1
      cases h1 <;> cases hz
      simp [Builtin.len_, run_underlying (und_slice hE), goInt]
    · rename_i b m sz nl hx
      rw [hx] at h1
      obtain ⟨hs, e⟩ : isSlT C.P T = true ∧ (m : Int) = n := by split at h <;> simp_all
      obtain ⟨E, hE⟩ := isSlT_some hs
      cases e
      cases nl with
      | true =>
        obtain ⟨rfl, hv⟩ := (h1 : RepC C μ M (.sl b m sz true) (ac.eval x))
        simp [Builtin.len_, hv, run_underlying (und_slice hE), goInt]
      | false =>
        obtain ⟨cap, c, Tb, fz, hv, _⟩ := (h1 : RepC C μ M (.sl b m sz false) (ac.eval x))
        simp [Builtin.len_, hv, run_underlying (und_slice hE), goInt]
    · rename_i hx
      rw [hx] at h1
      have h1 : ac.eval x = .slice none 0 0 := RepI.lit_eq h1
      obtain ⟨hs, e⟩ : isSlT C.P T = true ∧ (0 : Int) = n := by split at h <;> simp_all
      obtain ⟨E, hE⟩ := isSlT_some hs
      cases e
      simp [Builtin.len_, h1, run_underlying (und_slice hE), goInt]
    · rename_i cs hx
      obtain ⟨⟨m, E⟩, hE, e⟩ := Option.map_eq_some_iff.1 h
      cases e
      rw [hx] at h1
      obtain ⟨vs, hv, _⟩ := h1
      simp [Builtin.len_, hv, run_underlying (und_arr hE), goInt]
    · cases h

/-! ### items and parts of values -/

theorem ok_index_str {x y : Operand} {T : TypeId} {s : ByteArray} {k : IntKind} {i : Int} (hx : ρ x = .c (.lit (.string s))) (hy : ρ y = .c (.lit (.int k i))) (ht : tyIs C.P T (· matches .string) = true)
    (h0 : 0 ≤ i) (h1 : i < s.size) : OpOk C ⟨dst, .index T x y, ty, pos, after, guard⟩ ρ [] pre (.c (.lit (.int .u8 ((bytesI s).getD i.toNat 0)))) [] :=
  opOk_pure fun μ M ac _ hr => by
    have e1 := hr x (by simp [Op.operands]); rw [hx] at e1
    have e1 : ac.eval x = .string s := RepI.lit_eq e1
    have e2 := hr y (by simp [Op.operands]); rw [hy] at e2
    have e2 : ac.eval y = _ := RepI.lit_eq e2
    refine ⟨_, ?_, RepI.lit _⟩
    have hlt : i.toNat < s.size := by omega
    have hd : (bytesI s).getD i.toNat 0 = ((s[i.toNat]'hlt).toNat : Int) := by
      have hl : i.toNat < s.data.toList.length := by simpa using hlt
      simp only [bytesI, List.getD_eq_getElem?_getD, List.getElem?_map, List.getElem?_eq_getElem hl, Option.map_some, Option.getD_some, Array.getElem_toList]
      rfl
    have hg : s[i.toNat]? = some (s[i.toNat]'hlt) := by simp [getElem?_def, hlt]
    rw [hd]
    simp [execOp, e1, e2, Instr.index, asIntOf, run_underlying (und_str ht), h0, hg]

theorem run_part {P : Program} {T : TypeId} {cells : List AC} {off : Nat} {r : AV} (h : loadA P T cells off = some r) {μ : Nat → Nat} {M : Mem} {C : Cfg} (hP : C.P = P) {vs : Array Value} (hr : RepCs C μ M cells vs) (w : World) :
    ∃ v, (part T vs off).run P w = .ok v w ∧ Rep1 C μ M r v := by
  rcases loadA_or h with ⟨x, ha, hx, rfl⟩ | ⟨n, ha, hs, hle, rfl⟩
  · have hlt : off < cells.length := by
      rcases Nat.lt_or_ge off cells.length with h | h
      · exact h
      · rw [List.getElem?_eq_none h] at hx; cases hx
    have hx' : x = cells[off] := by rw [List.getElem?_eq_getElem hlt] at hx; exact (Option.some.inj hx).symm
    have hl := hr.1
    refine ⟨vs[off]'(by omega), ?_, ?_⟩
    · have : vs[off]? = some (vs[off]'(by omega)) := Array.getElem?_eq_getElem (by omega)
      simp [part, ha, this]
    · rw [hx']; exact hr.2 off hlt (by omega)
  · have hl := hr.1
    refine ⟨.agg (vs.extract off (off + n)), by simp [part, ha, hs], _, rfl, by simp; omega, fun i h1 h2 => ?_⟩
    have hi : i < n := by simp at h2; omega
    have := hr.2 (off + i) (by omega) (by omega)
    simpa [List.getElem_take, List.getElem_drop] using this

theorem ok_index_arr {x y : Operand} {T E : TypeId} {cs : List AC} {k : IntKind} {i : Int} {len n : Nat} {r : AV} (hx : ρ x = .agg cs) (hy : ρ y = .c (.lit (.int k i))) (ht : tyArr C.P T = some (len, E))
    (hn : tySize C.P E = some n) (h0 : 0 ≤ i) (h1 : i < len) (hr' : loadA C.P E cs (i.toNat * n) = some r) : OpOk C ⟨dst, .index T x y, ty, pos, after, guard⟩ ρ [] pre r [] :=
  opOk_pure fun μ M ac _ hr => by
    have e1 := hr x (by simp [Op.operands]); rw [hx] at e1
    obtain ⟨vs, e1, hvs⟩ := e1
    have e2 := hr y (by simp [Op.operands]); rw [hy] at e2
    have e2 : ac.eval y = _ := RepI.lit_eq e2
    obtain ⟨v, hp, hv⟩ := run_part hr' (C := C) rfl hvs M.w
    refine ⟨v, ?_, hv.V⟩
    simp [execOp, e1, e2, Instr.index, asIntOf, run_underlying (und_arr ht), h0, h1, run_sizeOf hn, hp]

theorem ok_field {x : Operand} {T U : TypeId} {f o : Nat} {cs : List AC} {r : AV} (hx : ρ x = .agg cs) (ht : tyField C.P T f = some (o, U)) (hr' : loadA C.P U cs o = some r) :
    OpOk C ⟨dst, .field T x f, ty, pos, after, guard⟩ ρ [] pre r [] :=
  opOk_pure fun μ M ac _ hr => by
    have e1 := hr x (by simp [Op.operands]); rw [hx] at e1
    obtain ⟨vs, e1, hvs⟩ := e1
    obtain ⟨v, hp, hv⟩ := run_part hr' (C := C) rfl hvs M.w
    refine ⟨v, ?_, hv.V⟩
    unfold tyField at ht
    cases hu : C.P.underlying T with
    | none => simp [hu] at ht
    | some d =>
      cases d <;> simp [hu] at ht
      obtain ⟨y, hy, rfl, rfl⟩ := ht
      simp [execOp, e1, Instr.field, run_underlying hu, hy, asAgg, hp]

/-! ### pieces -/

/-- A bound of a slice, if it stands there. -/
def bndA (ρ : Operand → AV) (dflt : Int) : Option Operand → Option Int
  | none => some dflt
  | some x => match ρ x with
    | .c (.lit (.int _ n)) => some n
    | _ => none

theorem bnd_run {P : Program} {μ : Nat → Nat} {M : Mem} {a : Act} {x : Operand} {n : Int} {d : Int} (hb : bndA ρ d (some x) = some n) (hr : RepV C μ M (ρ x) (a.eval x)) {y : Nat} (h0 : 0 ≤ n) (h1 : n ≤ y) (code : BoundsCode) (w : World) :
    (Instr.sliceBound (a.eval x) y code).run P w = .ok n.toNat w := by
  unfold bndA at hb
  split at hb
  · rename_i e; cases e
  · rename_i x' e
    cases e
    split at hb
    · rename_i k m hx
      cases hb
      rw [hx] at hr
      have : a.eval x = .int k n := RepI.lit_eq hr
      simp [Instr.sliceBound, this, asIntOf, h0, h1]
    · cases hb

theorem bounds_run {P : Program} {μ : Nat → Nat} {M : Mem} {a : Act} {lo hi : Option Operand} {l h : Int} {len cap : Nat} (isS : Bool) (hlo : bndA ρ 0 lo = some l) (hhi : bndA ρ len hi = some h)
    (hr : ∀ x, lo = some x ∨ hi = some x → RepV C μ M (ρ x) (a.eval x)) (h0 : 0 ≤ l) (h1 : l ≤ h) (h2 : h ≤ len) (hc : len ≤ cap) (w : World) :
    (Instr.sliceBounds isS len cap (lo.map a.eval) (hi.map a.eval) none).run P w = .ok (l.toNat, h.toNat, cap) w := by
  have e2 : ((match hi.map a.eval, (none : Option Value) with
    | some v, some _ => Instr.sliceBound v cap .slice3B
    | some v, none => Instr.sliceBound v cap (if isS then .sliceAcap else .sliceAlen)
    | none, none => pure len
    | none, some _ => stuck "Slice: max without high") : Sem Nat).run P w = .ok h.toNat w := by
    cases hi with
    | none => simp [bndA] at hhi; subst hhi; simp
    | some x => exact bnd_run (d := len) hhi (hr x (.inr rfl)) (by omega) (by omega) _ w
  have e3 : ((match lo.map a.eval with
    | some v => Instr.sliceBound v h.toNat .sliceB
    | none => pure 0) : Sem Nat).run P w = .ok l.toNat w := by
    cases lo with
    | none => simp [bndA] at hlo; subst hlo; simp
    | some x => exact bnd_run (d := 0) hlo (hr x (.inl rfl)) h0 (by omega) _ w
  unfold Instr.sliceBounds
  cases hi with
  | none =>
    cases lo with
    | none => simp [bndA] at hlo hhi; subst hlo; subst hhi; simp
    | some x => simp [bndA] at hhi; subst hhi; simp at e3; simp [e3]
  | some y =>
    simp at e2
    cases lo with
    | none => simp [bndA] at hlo; subst hlo; simp [e2]
    | some x => simp at e3; simp [e2, e3]

theorem ok_slice_str {x : Operand} {lo hi : Option Operand} {T : TypeId} {s : ByteArray} {l h : Int} (hx : ρ x = .c (.lit (.string s))) (ht : tyIs C.P T (· matches .string) = true)
    (hlo : bndA ρ 0 lo = some l) (hhi : bndA ρ s.size hi = some h) (h0 : 0 ≤ l) (h1 : l ≤ h) (h2 : h ≤ s.size) :
    OpOk C ⟨dst, .slice T x lo hi none, ty, pos, after, guard⟩ ρ [] pre (.c (.lit (.string (s.extract l.toNat h.toNat)))) [] :=
  opOk_pure fun μ M ac _ hr => by
    have e1 := hr x (by simp [Op.operands]); rw [hx] at e1
    have e1 : ac.eval x = .string s := RepI.lit_eq e1
    refine ⟨_, ?_, RepI.lit _⟩
    have := bounds_run (P := C.P) (C := C) (μ := μ) (M := M) (a := ac) false hlo hhi (fun y hy => hr y (by rcases hy with rfl | rfl <;> simp [Op.operands])) h0 h1 h2 (Nat.le_refl _) M.w
    simp [execOp, e1, Instr.sliceAt, Instr.slice, run_underlying (und_str ht), this]

/-- A piece of a list that nobody writes. -/
def pieceL (sz : Nat) (l h : Int) (flat : List AC) : List AC := (flat.drop (l.toNat * sz)).take ((h.toNat - l.toNat) * sz)

theorem RepI.piece {M : Mem} {n cap sz : Nat} {flat : List AC} {a : Option Addr} {l h : Int} (hr : RepI C M (.list n flat) (.slice a n cap)) (hfl : flat.length = n * sz) (h0 : 0 ≤ l) (h1 : l ≤ h) (h2 : h ≤ n) :
    RepI C M (.list (h.toNat - l.toNat) (pieceL sz l h flat)) (.slice (if cap = l.toNat then a else a.map (·.add (l.toNat * sz))) (h.toNat - l.toNat) (cap - l.toNat)) := by
  generalize hz : AC.list n flat = z at hr
  generalize hv : Value.slice a n cap = v at hr
  cases hr <;> cases hz
  rename_i a' cap' blk off c hn ha hc hr'
  simp only [Value.slice.injEq, true_and] at hv
  obtain ⟨rfl, rfl⟩ := hv
  have hlen : (pieceL sz l h flat).length = (h.toNat - l.toNat) * sz := by
    simp only [pieceL, List.length_take, List.length_drop, hfl]
    rw [← Nat.sub_mul, Nat.min_eq_left]
    exact Nat.mul_le_mul_right _ (by omega)
  have hbound : ∀ i, i < (pieceL sz l h flat).length → l.toNat * sz + i < flat.length := fun i hi => by
    simp only [pieceL, List.length_take, List.length_drop] at hi; omega
  refine .list _ _ _ _ blk (off + l.toNat * sz) (fun i => c (l.toNat * sz + i)) (by omega) (fun hne => ?_) (fun i hi => ?_) (fun i hi => ?_)
  · have hpos : 0 < (pieceL sz l h flat).length := List.length_pos_iff.2 hne
    have hlt : l.toNat < h.toNat := by
      rcases Nat.lt_or_ge l.toNat h.toNat with g | g
      · exact g
      · rw [hlen, Nat.sub_eq_zero_of_le g] at hpos; simp at hpos
    have hne' : flat ≠ [] := fun e => by have := hbound 0 hpos; simp [e] at this
    rw [ha hne', if_neg (by omega)]
    simp [addr_add]
  · have := hc _ (hbound i hi)
    rwa [← Nat.add_assoc] at this
  · have := hr' _ (hbound i hi)
    simpa [pieceL, List.getElem_take, List.getElem_drop] using this

theorem ok_slice_list {x : Operand} {lo hi : Option Operand} {T E : TypeId} {n sz : Nat} {flat : List AC} {l h : Int} (hx : ρ x = .c (.list n flat)) (ht : tySlice C.P T = some E) (hsz : tySize C.P E = some sz) (hfl : flat.length = n * sz)
    (hlo : bndA ρ 0 lo = some l) (hhi : bndA ρ n hi = some h) (h0 : 0 ≤ l) (h1 : l ≤ h) (h2 : h ≤ n) :
    OpOk C ⟨dst, .slice T x lo hi none, ty, pos, after, guard⟩ ρ [] pre (.c (.list (h.toNat - l.toNat) (pieceL sz l h flat))) [] :=
  opOk_pure fun μ M ac _ hr => by
    have e1 := hr x (by simp [Op.operands]); rw [hx] at e1
    have e1 : RepI C M (.list n flat) (ac.eval x) := e1
    have e1' := e1
    generalize hz : AC.list n flat = z at e1
    generalize hv : ac.eval x = v at e1 e1'
    cases e1 <;> cases hz
    rename_i a cap blk off c hn ha hc hr'
    have := bounds_run (P := C.P) (C := C) (μ := μ) (M := M) (a := ac) (cap := cap) true hlo hhi (fun y hy => hr y (by rcases hy with rfl | rfl <;> simp [Op.operands])) h0 h1 h2 hn M.w
    refine ⟨_, ?_, e1'.piece hfl h0 h1 h2⟩
    simp [execOp, hv, Instr.sliceAt, Instr.slice, run_underlying (und_slice ht), run_sizeOf hsz, this]

theorem ok_slice_nil {x : Operand} {lo hi : Option Operand} {T E : TypeId} {sz : Nat} (hx : ρ x = .c (.lit (.slice none 0 0))) (ht : tySlice C.P T = some E) (hsz : tySize C.P E = some sz)
    (hlo : bndA ρ 0 lo = some 0) (hhi : bndA ρ 0 hi = some 0) :
    OpOk C ⟨dst, .slice T x lo hi none, ty, pos, after, guard⟩ ρ [] pre (.c (.lit (.slice none 0 0))) [] :=
  opOk_pure fun μ M ac _ hr => by
    have e1 := hr x (by simp [Op.operands]); rw [hx] at e1
    have e1 : ac.eval x = .slice none 0 0 := RepI.lit_eq e1
    have := bounds_run (P := C.P) (C := C) (μ := μ) (M := M) (a := ac) (len := 0) (cap := 0) true hlo hhi (fun y hy => hr y (by rcases hy with rfl | rfl <;> simp [Op.operands])) (Int.le_refl _) (Int.le_refl _) (by simp) (Nat.le_refl _) M.w
    refine ⟨_, ?_, RepI.lit _⟩
    simp [execOp, e1, Instr.sliceAt, Instr.slice, run_underlying (und_slice ht), run_sizeOf hsz, this]
end ops
end Go.Ev
