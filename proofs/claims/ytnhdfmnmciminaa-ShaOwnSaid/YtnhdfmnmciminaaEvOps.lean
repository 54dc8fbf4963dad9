/-
  A symbolic executor over abstract states, part 7: the operations.
-/
import Derived.Test.YtnhdfmnmciminaaEvFn
namespace Go.Ev
set_option linter.unusedSimpArgs false
set_option linter.unusedVariables false

/-! ### types -/

def tyAgg (P : Program) (T : TypeId) : Option Bool :=
  match P.underlying T with
  | some (.struct _) => some true
  | some (.array _ _) => some true
  | some _ => some false
  | none => none
def tySize (P : Program) (T : TypeId) : Option Nat := (P.info? T).map (·.size)
def tyBytes (P : Program) (T : TypeId) : Option Nat := (P.info? T).map (·.bytes)
def tyZero (P : Program) (T : TypeId) : Option Value := (P.info? T).bind (·.zero)
def tyField (P : Program) (T : TypeId) (f : Nat) : Option (Nat × TypeId) :=
  match P.underlying T with
  | some (.struct fs) => (fs[f]?).map fun x => (x.offset, x.type)
  | _ => none
def tyArr (P : Program) (T : TypeId) : Option (Nat × TypeId) :=
  match P.underlying T with
  | some (.array n e) => some (n, e)
  | _ => none
def tySlice (P : Program) (T : TypeId) : Option TypeId :=
  match P.underlying T with
  | some (.slice e) => some e
  | _ => none
def tyInt (P : Program) (T : TypeId) : Option IntKind :=
  match P.underlying T with
  | some (.int k) => some k
  | _ => none
def tyIs (P : Program) (T : TypeId) (b : TypeDesc → Bool) : Bool :=
  match P.underlying T with
  | some d => b d
  | none => false

theorem run_underlying {P : Program} {T : TypeId} {d : TypeDesc} (h : P.underlying T = some d) (w : World) : (underlying T).run P w = .ok d w := by
  simp [underlying, h]
theorem run_isAgg {P : Program} {T : TypeId} {b : Bool} (h : tyAgg P T = some b) (w : World) : (isAgg T).run P w = .ok b w := by
  unfold tyAgg at h
  cases hu : P.underlying T with
  | none => simp [hu] at h
  | some d =>
    simp only [hu] at h
    simp only [isAgg, Sem.run_bind, bind, run_underlying hu]
    cases d <;> simp_all [pure]
theorem run_sizeOf {P : Program} {T : TypeId} {n : Nat} (h : tySize P T = some n) (w : World) : (sizeOf T).run P w = .ok n w := by
  unfold tySize at h
  cases hi : P.info? T with
  | none => simp [hi] at h
  | some i => simp [hi] at h; simp [sizeOf, typeInfo, hi, h]
theorem run_zero {P : Program} {T : TypeId} {v : Value} (h : tyZero P T = some v) (w : World) : (zeroValue T).run P w = .ok v w := by
  unfold tyZero at h
  cases hi : P.info? T with
  | none => simp [hi] at h
  | some i => simp [hi] at h; simp [zeroValue, typeInfo, hi, h]

/-! ### cells of a value -/

def AC.single : AC → Bool
  | .lit v => Ev.single v
  | .junk => false
  | _ => true

def cellsOf : AV → Option (List AC)
  | .c a => if a.single then some [a] else none
  | .agg cs => if cs.all (·.single) then some cs else none
  | .tup _ => none

theorem RepC.single {C : Cfg} {μ : Nat → Nat} {M : Mem} {a : AC} {v : Value} (hs : a.single = true) (h : RepC C μ M a v) : Ev.single v = true := by
  cases a with
  | lit x => have := RepI.lit_eq h; subst this; exact hs
  | list n flat => have h : RepI C M (.list n flat) v := h; generalize hx : AC.list n flat = y at h; cases h <;> simp_all [Ev.single]
  | iptr flat => have h : RepI C M (.iptr flat) v := h; generalize hx : AC.iptr flat = y at h; cases h <;> simp_all [Ev.single]
  | opq p => have h : RepI C M (.opq p) v := h; generalize hx : AC.opq p = y at h; cases h <;> simp_all [Ev.single]
  | clo k fs cs => have h : RepI C M (.clo k fs cs) v := h; generalize hx : AC.clo k fs cs = y at h; cases h <;> simp_all [Ev.single]
  | ptr b off => have : v = _ := h; subst this; rfl
  | sl b n sz nl => cases nl with
    | true => obtain ⟨_, rfl⟩ := h; rfl
    | false => obtain ⟨cap, c, T, fz, rfl, _⟩ := h; rfl
  | junk => simp [AC.single] at hs

theorem rep_cells {C : Cfg} {μ : Nat → Nat} {M : Mem} {a : AV} {cs : List AC} {v : Value} (hc : cellsOf a = some cs) (h : RepV C μ M a v) :
    RepCs C μ M cs v.cells ∧ ∀ x ∈ v.cells.toList, Ev.single x = true := by
  cases a with
  | c x =>
    simp only [cellsOf] at hc
    split at hc
    · rename_i hs
      cases hc
      have h1 : Ev.single v = true := RepC.single hs h
      have hv : v.cells = #[v] := by cases v <;> first | rfl | simp [Ev.single] at h1
      rw [hv]
      exact ⟨⟨rfl, fun i hi hi' => by have : i = 0 := by simpa using hi
                                      subst this; exact h⟩, by simp [h1]⟩
    · cases hc
  | agg cs' =>
    simp only [cellsOf] at hc
    split at hc
    · rename_i hs
      cases hc
      obtain ⟨vs, rfl, h1, h2⟩ := h
      refine ⟨⟨h1, h2⟩, fun x hx => ?_⟩
      obtain ⟨i, hi, rfl⟩ := List.getElem_of_mem hx
      have hi' : i < vs.size := by simpa [Value.cells] using hi
      have := (h2 i (by omega) hi').single (List.all_eq_true.1 hs _ (List.getElem_mem _))
      simpa [Value.cells] using this
    · cases hc
  | tup _ => simp [cellsOf] at hc

/-! ### operations that only compute -/

section
variable {C : Cfg} {dst : Option Tmp} {ty : TypeId} {pos : String} {after : Array Edge} {guard : Option (Nat × Bool)} {ρ : Operand → AV} {pre : Nat → Option Box}

theorem ok_move (x : Operand) : OpOk C ⟨dst, .move x, ty, pos, after, guard⟩ ρ [] pre (ρ x) [] :=
  opOk_pure fun _ _ a _ hr => ⟨a.eval x, rfl, hr x (by simp [Op.operands])⟩
theorem ok_assign (x : Operand) : OpOk C ⟨dst, .assign x, ty, pos, after, guard⟩ ρ [] pre (ρ x) [] :=
  opOk_pure fun _ _ a _ hr => ⟨a.eval x, rfl, hr x (by simp [Op.operands])⟩

theorem ok_pick {c x y : Operand} {b : Bool} (h : ρ c = .c (.lit (.bool b))) : OpOk C ⟨dst, .pick c x y, ty, pos, after, guard⟩ ρ [] pre (bif b then ρ x else ρ y) [] :=
  opOk_pure fun μ M a _ hr => by
    have hc := hr c (by simp [Op.operands])
    rw [h] at hc
    have hc : a.eval c = .bool b := RepI.lit_eq hc
    refine ⟨if b then a.eval x else a.eval y, by simp [execOp, hc, asBool], ?_⟩
    cases b
    · exact hr y (by simp [Op.operands])
    · exact hr x (by simp [Op.operands])

/-- Whatever the model computes of known values. -/
theorem ok_lit {op : Op} {vals : Operand → Value} {r : Value} (hl : ∀ x ∈ op.operands, ρ x = .c (.lit (vals x)))
    (h : ∀ (a : Act) (w : World), (∀ x ∈ op.operands, a.eval x = vals x) → (execOp a.eval ⟨dst, op, ty, pos, after, guard⟩).run C.P w = .ok (.value r) w) :
    OpOk C ⟨dst, op, ty, pos, after, guard⟩ ρ [] pre (.c (.lit r)) [] :=
  opOk_pure fun μ M a _ hr => ⟨r, h a M.w fun x hx => by have := hr x hx; rw [hl x hx] at this; exact RepI.lit_eq this, RepI.lit r⟩

def intBin (op : BinOp) (k : IntKind) (a b : Int) : Option Value :=
  match op with
  | .add => some (.int k (k.wrap (a + b)))
  | .sub => some (.int k (k.wrap (a - b)))
  | .mul => some (.int k (k.wrap (a * b)))
  | .quo => if b = 0 then none else some (.int k (k.wrap (a.tdiv b)))
  | .rem => if b = 0 then none else some (.int k (a.tmod b))
  | .and => some (.int k (k.wrap (BitVec.ofInt k.bits a &&& BitVec.ofInt k.bits b).toNat))
  | .or => some (.int k (k.wrap (BitVec.ofInt k.bits a ||| BitVec.ofInt k.bits b).toNat))
  | .xor => some (.int k (k.wrap (BitVec.ofInt k.bits a ^^^ BitVec.ofInt k.bits b).toNat))
  | .andNot => some (.int k (k.wrap (BitVec.ofInt k.bits a &&& ~~~BitVec.ofInt k.bits b).toNat))
  | .eql => some (.bool (a == b))
  | .neq => some (.bool (a != b))
  | .lss => some (.bool (decide (a < b)))
  | .leq => some (.bool (decide (a ≤ b)))
  | .gtr => some (.bool (decide (a > b)))
  | .geq => some (.bool (decide (a ≥ b)))
  | .shl => if 0 ≤ b then some (.int k (k.wrap (a * 2 ^ (min b.toNat k.bits)))) else none
  | .shr => if 0 ≤ b then some (.int k (a.fdiv (2 ^ (min b.toNat k.bits)))) else none

def strBin (op : BinOp) (x y : ByteArray) : Option Value :=
  match op with
  | .add => if ((x.size + y.size : Nat) : Int) ≤ 9223372036854775807 then some (.string (x ++ y)) else none
  | .eql => some (.bool (x.toList == y.toList))
  | .neq => some (.bool !(x.toList == y.toList))
  | .lss => some (.bool (Op.bytesLess x.toList y.toList))
  | .leq => some (.bool (Op.bytesLess x.toList y.toList || x.toList == y.toList))
  | .gtr => some (.bool !(Op.bytesLess x.toList y.toList || x.toList == y.toList))
  | .geq => some (.bool !(Op.bytesLess x.toList y.toList))
  | _ => none

def binA (P : Program) (op : BinOp) (T : TypeId) : Value → Value → Option Value
  | .int k a, .int k' b => if k = k' ∨ op = .shl ∨ op = .shr then intBin op k a b else none
  | .string a, .string b => strBin op a b
  | .bool a, .bool b => if tyIs P T (· matches .bool) then (match op with
    | .eql => some (.bool (a == b))
    | .neq => some (.bool (a != b))
    | _ => none) else none
  | _, _ => none

theorem run_intBin {P : Program} {op : BinOp} {T : TypeId} {k k' : IntKind} {a b : Int} {r : Value} (h : intBin op k a b = some r) (hk : k = k' ∨ op = .shl ∨ op = .shr) (w : World) :
    (binOp op T (.int k a) (.int k' b)).run P w = .ok r w := by
  cases op <;> simp only [intBin] at h <;> (try (split at h <;> try (cases h; done))) <;> simp only [Option.some.injEq] at h <;> subst h
  case shl hb => simp [binOp, Op.shift, Int.not_lt.2 hb]
  case shr hb => simp [binOp, Op.shift, Int.not_lt.2 hb]
  all_goals
    have hk : k = k' := by simpa using hk
    subst hk
  case quo hb => simp [binOp, Op.intDiv, hb]
  case rem hb => simp [binOp, Op.intDiv, hb]
  all_goals simp [binOp, Op.intArith, Op.intBits, Op.intCmp]

theorem run_strBin {P : Program} {op : BinOp} {T : TypeId} {s t : ByteArray} {r : Value} (h : strBin op s t = some r) (w : World) :
    (binOp op T (.string s) (.string t)).run P w = .ok r w := by
  cases op <;> simp only [strBin] at h <;> (try (cases h; done))
  case add =>
    split at h
    · rename_i hle
      simp only [Option.some.injEq] at h
      subst h
      have : ¬ (((s.size + t.size : Nat) : Int) > IntKind.i64.max) := by
        have e : IntKind.i64.max = 9223372036854775807 := by decide
        rw [e]; omega
      simp only [binOp, Op.stringOp, this, if_false]; rfl
    · cases h
  all_goals
    simp only [Option.some.injEq] at h
    subst h
    simp [binOp, Op.stringOp]

theorem run_equalIn_bool {P : Program} {T : TypeId} (ht : tyIs P T (· matches .bool) = true) (d : Nat) (p q : Bool) (w : World) :
    (Op.equalIn (d + 1) T (.bool p) (.bool q)).run P w = .ok (p == q) w := by
  unfold tyIs at ht
  cases hu : P.underlying T with
  | none => simp [hu] at ht
  | some x => cases x <;> simp [hu] at ht; simp [Op.equalIn, run_underlying hu]

theorem run_boolBin {P : Program} {op : BinOp} {T : TypeId} {p q : Bool} {r : Value} (ht : tyIs P T (· matches .bool) = true)
    (h : (match op with
      | .eql => some (.bool (p == q))
      | .neq => some (.bool (p != q))
      | _ => none) = some r) (w : World) : (binOp op T (.bool p) (.bool q)).run P w = .ok r w := by
  have e : (Op.equal T (.bool p) (.bool q)).run P w = .ok (p == q) w := run_equalIn_bool ht 9999 p q w
  cases op <;> simp at h <;> subst h <;> simp [binOp, e, bne]

theorem run_binA {P : Program} {op : BinOp} {T : TypeId} {x y : Operand} {a b r : Value} (h : binA P op T a b = some r) (w : World) :
    (do eqGuard op T x y a b; binOp op T a b).run P w = .ok r w := by
  have hg : (eqGuard op T x y a b).run P w = .ok () w := by
    unfold eqGuard
    cases a <;> cases b <;> first | (simp [binA] at h; done) | (cases op <;> simp)
  rw [_root_.Go.Sem.run_bind, hg]
  simp only [Result.andThen_ok]
  cases a with
  | int k m =>
    cases b with
    | int k' n =>
      simp only [binA] at h
      split at h
      · rename_i hk; exact run_intBin h hk w
      · cases h
    | _ => simp [binA] at h
  | string s =>
    cases b with
    | string t => exact run_strBin h w
    | _ => simp [binA] at h
  | bool p =>
    cases b with
    | bool q =>
      simp only [binA] at h
      split at h
      · rename_i ht; exact run_boolBin ht h w
      · cases h
    | _ => simp [binA] at h
  | _ => simp [binA] at h

theorem ok_bin {op : BinOp} {T T' : TypeId} {x y : Operand} {a b r : Value} (hx : ρ x = .c (.lit a)) (hy : ρ y = .c (.lit b)) (h : binA C.P op T a b = some r) :
    OpOk C ⟨dst, .binOp op T x y T', ty, pos, after, guard⟩ ρ [] pre (.c (.lit r)) [] :=
  opOk_pure fun μ M ac _ hr => by
    have h1 := hr x (by simp [Op.operands]); rw [hx] at h1
    have h2 := hr y (by simp [Op.operands]); rw [hy] at h2
    have h1 : ac.eval x = a := RepI.lit_eq h1
    have h2 : ac.eval y = b := RepI.lit_eq h2
    refine ⟨r, ?_, RepI.lit r⟩
    have := run_binA (x := x) (y := y) h M.w
    simp only [execOp, h1, h2]
    simp only [bind, pure, Sem.run_bind] at this ⊢
    rw [this]; rfl

def unA (op : UnOp) : Value → Option Value
  | .int k n => match op with
    | .neg => some (.int k (k.wrap (0 - n)))
    | .xor => some (.int k (k.wrap (BitVec.ofInt k.bits (if k.signed then -1 else k.max) ^^^ BitVec.ofInt k.bits n).toNat))
    | _ => none
  | .bool b => match op with
    | .not => some (.bool !b)
    | _ => none
  | _ => none

theorem ok_un {op : UnOp} {T : TypeId} {x : Operand} {a r : Value} (hx : ρ x = .c (.lit a)) (h : unA op a = some r) :
    OpOk C ⟨dst, .unOp op T x, ty, pos, after, guard⟩ ρ [] pre (.c (.lit r)) [] :=
  opOk_pure fun μ M ac _ hr => by
    have h1 := hr x (by simp [Op.operands]); rw [hx] at h1
    have h1 : ac.eval x = a := RepI.lit_eq h1
    refine ⟨r, ?_, RepI.lit r⟩
    have e : (Op.unary op a).run C.P M.w = .ok r M.w := by
      cases a <;> cases op <;> simp [unA] at h <;> subst h <;> simp [Op.unary, Op.intArith, Op.intBits]
    simp only [execOp, h1, Sem.run_bind', bind]
    rw [e]; rfl

/-- int to int. -/
theorem ok_conv_int {S D : TypeId} {x : Operand} {k k' : IntKind} {n : Int} (hx : ρ x = .c (.lit (.int k n))) (hs : tyIs C.P S (fun _ => true) = true) (hd : tyInt C.P D = some k') :
    OpOk C ⟨dst, .convert S D x, ty, pos, after, guard⟩ ρ [] pre (.c (.lit (.int k' (k'.wrap n)))) [] :=
  opOk_pure fun μ M ac _ hr => by
    have h1 := hr x (by simp [Op.operands]); rw [hx] at h1
    have h1 : ac.eval x = _ := RepI.lit_eq h1
    refine ⟨_, ?_, RepI.lit _⟩
    unfold tyIs at hs
    unfold tyInt at hd
    cases hu : C.P.underlying S with
    | none => simp [hu] at hs
    | some d1 =>
      cases hv : C.P.underlying D with
      | none => simp [hv] at hd
      | some d2 =>
        cases d2 <;> simp [hv] at hd
        subst hd
        simp [execOp, h1, convert, run_underlying hu, run_underlying hv, Conv.intToInt]

/-- A text to a text. -/
theorem ok_conv_str {S D : TypeId} {x : Operand} {s : ByteArray} (hx : ρ x = .c (.lit (.string s))) (hs : tyIs C.P S (fun _ => true) = true) (hd : tyIs C.P D (· matches .string) = true) :
    OpOk C ⟨dst, .convert S D x, ty, pos, after, guard⟩ ρ [] pre (.c (.lit (.string s))) [] :=
  opOk_pure fun μ M ac _ hr => by
    have h1 := hr x (by simp [Op.operands]); rw [hx] at h1
    have h1 : ac.eval x = _ := RepI.lit_eq h1
    refine ⟨_, ?_, RepI.lit _⟩
    unfold tyIs at hs hd
    cases hu : C.P.underlying S with
    | none => simp [hu] at hs
    | some d1 =>
      cases hv : C.P.underlying D with
      | none => simp [hv] at hd
      | some d2 =>
        cases d2 <;> simp [hv] at hd
        simp [execOp, h1, convert, run_underlying hu, run_underlying hv]

/-! ### addresses -/

theorem ok_nil_ptr {x : Operand} {b off : Nat} (hx : ρ x = .c (.ptr b off)) : OpOk C ⟨dst, .nilCheck x, ty, pos, after, guard⟩ ρ [] pre (.c (.ptr b off)) [] :=
  opOk_pure fun μ M ac _ hr => by
    have h1 := hr x (by simp [Op.operands]); rw [hx] at h1
    have h1 : ac.eval x = .pointer (some ⟨μ b, off, none⟩) := h1
    exact ⟨.pointer (some ⟨μ b, off, none⟩), by simp [execOp, h1], rfl⟩

theorem ok_nil_iptr {x : Operand} {flat : List AC} (hx : ρ x = .c (.iptr flat)) : OpOk C ⟨dst, .nilCheck x, ty, pos, after, guard⟩ ρ [] pre (.c (.iptr flat)) [] :=
  opOk_pure fun μ M ac _ hr => by
    have h1 := hr x (by simp [Op.operands]); rw [hx] at h1
    have h1 : RepI C M (.iptr flat) (ac.eval x) := h1
    have h2 := h1
    generalize hy : AC.iptr flat = y at h2
    generalize hv : ac.eval x = v at h1 h2
    cases h2 <;> cases hy
    rename_i blk off c hc hr'
    exact ⟨_, by simp [execOp, hv], h1⟩

theorem RepI.drop {C : Cfg} {M : Mem} {flat : List AC} {blk off : Nat} (h : RepI C M (.iptr flat) (.pointer (some ⟨blk, off, none⟩))) (n : Nat) :
    RepI C M (.iptr (flat.drop n)) (.pointer (some ⟨blk, off + n, none⟩)) := by
  generalize hy : AC.iptr flat = y at h
  generalize hv : Value.pointer (some ⟨blk, off, none⟩) = v at h
  cases h <;> cases hy <;> simp at hv
  rename_i blk' off' c hc hr
  obtain ⟨rfl, rfl⟩ := hv
  refine .iptr _ _ _ (fun i => c (n + i)) (fun i hi => ?_) (fun i hi => ?_)
  · have := hc (n + i) (by simp at hi; omega)
    rwa [← Nat.add_assoc] at this
  · have := hr (n + i) (by simp at hi; omega)
    simpa [List.getElem_drop] using this

theorem addr_add (b off n : Nat) : (Addr.mk b off none).add n = ⟨b, off + n, none⟩ := by
  unfold Addr.add
  split
  · rename_i e; simp [e]
  · rfl

theorem run_fieldAt {P : Program} {T : TypeId} {f o : Nat} {U : TypeId} (h : tyField P T f = some (o, U)) {n : Nat} (hn : tySize P U = some (n + 1)) (b off : Nat) (w : World) :
    (Instr.fieldAt T (.pointer (some ⟨b, off, none⟩)) f).run P w = .ok (.pointer (some ⟨b, off + o, none⟩)) w := by
  unfold tyField at h
  cases hu : P.underlying T with
  | none => simp [hu] at h
  | some d =>
    cases d <;> simp [hu] at h
    rename_i fs
    obtain ⟨x, hx, rfl, rfl⟩ := h
    simp [Instr.fieldAt, run_underlying hu, hx, Instr.sureAddr, fieldPlace, run_sizeOf hn, addr_add]

theorem ok_field_ptr {T : TypeId} {x : Operand} {f b off o n : Nat} {U : TypeId} (hx : ρ x = .c (.ptr b off)) (h : tyField C.P T f = some (o, U)) (hn : tySize C.P U = some (n + 1)) :
    OpOk C ⟨dst, .fieldAddr T x f, ty, pos, after, guard⟩ ρ [] pre (.c (.ptr b (off + o))) [] :=
  opOk_pure fun μ M ac _ hr => by
    have h1 := hr x (by simp [Op.operands]); rw [hx] at h1
    have h1 : ac.eval x = .pointer (some ⟨μ b, off, none⟩) := h1
    refine ⟨_, ?_, rfl⟩
    simp only [execOp, h1, Sem.run_bind', bind, run_fieldAt h hn]; rfl

theorem ok_field_iptr {T : TypeId} {x : Operand} {f o n : Nat} {U : TypeId} {flat : List AC} (hx : ρ x = .c (.iptr flat)) (h : tyField C.P T f = some (o, U)) (hn : tySize C.P U = some (n + 1)) :
    OpOk C ⟨dst, .fieldAddr T x f, ty, pos, after, guard⟩ ρ [] pre (.c (.iptr (flat.drop o))) [] :=
  opOk_pure fun μ M ac _ hr => by
    have h1 := hr x (by simp [Op.operands]); rw [hx] at h1
    have h1 : RepI C M (.iptr flat) (ac.eval x) := h1
    have h2 := h1
    generalize hy : AC.iptr flat = y at h2
    generalize hv : ac.eval x = v at h1 h2
    cases h2 <;> cases hy
    rename_i blk off c hc hr'
    refine ⟨.pointer (some ⟨blk, off + o, none⟩), ?_, h1.drop o⟩
    simp only [execOp, hv, Sem.run_bind', bind, run_fieldAt h hn]; rfl

theorem run_indexAt_arr {P : Program} {T E : TypeId} {len n : Nat} {k : IntKind} {i : Int} (h : tyArr P T = some (len, E)) (hn : tySize P E = some n) (h0 : 0 ≤ i) (h1 : i < len) (b off : Nat) (w : World) :
    (Instr.indexAt T (.pointer (some ⟨b, off, none⟩)) (.int k i)).run P w = .ok (.pointer (some ⟨b, off + i.toNat * n, none⟩)) w := by
  unfold tyArr at h
  cases hu : P.underlying T with
  | none => simp [hu] at h
  | some d =>
    cases d <;> simp [hu] at h
    obtain ⟨rfl, rfl⟩ := h
    simp [Instr.indexAt, asIntOf, run_underlying hu, Instr.sureAddr, h0, h1, run_sizeOf hn, addr_add]

theorem ok_ix_ptr {T E : TypeId} {x y : Operand} {b off len n : Nat} {k : IntKind} {i : Int} (hx : ρ x = .c (.ptr b off)) (hy : ρ y = .c (.lit (.int k i))) (h : tyArr C.P T = some (len, E))
    (hn : tySize C.P E = some n) (h0 : 0 ≤ i) (h1 : i < len) :
    OpOk C ⟨dst, .indexAddr T x y, ty, pos, after, guard⟩ ρ [] pre (.c (.ptr b (off + i.toNat * n))) [] :=
  opOk_pure fun μ M ac _ hr => by
    have e1 := hr x (by simp [Op.operands]); rw [hx] at e1
    have e1 : ac.eval x = .pointer (some ⟨μ b, off, none⟩) := e1
    have e2 := hr y (by simp [Op.operands]); rw [hy] at e2
    have e2 : ac.eval y = _ := RepI.lit_eq e2
    refine ⟨_, ?_, rfl⟩
    simp only [execOp, e1, e2, Sem.run_bind', bind, run_indexAt_arr h hn h0 h1]; rfl

theorem ok_ix_iptr {T E : TypeId} {x y : Operand} {len n : Nat} {k : IntKind} {i : Int} {flat : List AC} (hx : ρ x = .c (.iptr flat)) (hy : ρ y = .c (.lit (.int k i))) (h : tyArr C.P T = some (len, E))
    (hn : tySize C.P E = some n) (h0 : 0 ≤ i) (h1 : i < len) :
    OpOk C ⟨dst, .indexAddr T x y, ty, pos, after, guard⟩ ρ [] pre (.c (.iptr (flat.drop (i.toNat * n)))) [] :=
  opOk_pure fun μ M ac _ hr => by
    have e1 := hr x (by simp [Op.operands]); rw [hx] at e1
    have e1 : RepI C M (.iptr flat) (ac.eval x) := e1
    have e2 := hr y (by simp [Op.operands]); rw [hy] at e2
    have e2 : ac.eval y = _ := RepI.lit_eq e2
    have h2 := e1
    generalize hz : AC.iptr flat = z at h2
    generalize hv : ac.eval x = v at e1 h2
    cases h2 <;> cases hz
    rename_i blk off c hc hr'
    refine ⟨.pointer (some ⟨blk, off + i.toNat * n, none⟩), ?_, e1.drop _⟩
    simp only [execOp, hv, e2, Sem.run_bind', bind, run_indexAt_arr h hn h0 h1]; rfl

/-- The i-th element of a list: its address. -/
theorem ok_ix_list {T E : TypeId} {x y : Operand} {len n : Nat} {k : IntKind} {i : Int} {flat : List AC} (hx : ρ x = .c (.list len flat)) (hy : ρ y = .c (.lit (.int k i))) (h : tySlice C.P T = some E)
    (hn : tySize C.P E = some n) (h0 : 0 ≤ i) (h1 : i < len) (hf : i.toNat * n < flat.length) :
    OpOk C ⟨dst, .indexAddr T x y, ty, pos, after, guard⟩ ρ [] pre (.c (.iptr (flat.drop (i.toNat * n)))) [] :=
  opOk_pure fun μ M ac _ hr => by
    have e1 := hr x (by simp [Op.operands]); rw [hx] at e1
    have e1 : RepI C M (.list len flat) (ac.eval x) := e1
    have e2 := hr y (by simp [Op.operands]); rw [hy] at e2
    have e2 : ac.eval y = _ := RepI.lit_eq e2
    generalize hz : AC.list len flat = z at e1
    generalize hv : ac.eval x = v at e1
    cases e1 <;> cases hz
    rename_i a cap blk off c hcap ha hc hr'
    have hne : flat ≠ [] := fun e => by simp [e] at hf
    have ha := ha hne
    subst ha
    have hu : C.P.underlying T = some (.slice E) := by
      unfold tySlice at h
      cases hu : C.P.underlying T with
      | none => simp [hu] at h
      | some d => cases d <;> simp [hu] at h; rw [h]
    refine ⟨.pointer (some ⟨blk, off + i.toNat * n, none⟩), ?_, RepI.drop (.iptr flat blk off c hc hr') _⟩
    simp [execOp, hv, e2, Instr.indexAt, asIntOf, run_underlying hu, h0, h1, run_sizeOf hn, addr_add]

/-- The i-th element of a slice of our own: its address. -/
theorem ok_ix_sl {T E : TypeId} {x y : Operand} {b len n : Nat} {k : IntKind} {i : Int} (hx : ρ x = .c (.sl b len n false)) (hy : ρ y = .c (.lit (.int k i))) (h : tySlice C.P T = some E)
    (hn : tySize C.P E = some n) (h0 : 0 ≤ i) (h1 : i < len) :
    OpOk C ⟨dst, .indexAddr T x y, ty, pos, after, guard⟩ ρ [] pre (.c (.ptr b (i.toNat * n))) [] :=
  opOk_pure fun μ M ac _ hr => by
    have e1 := hr x (by simp [Op.operands]); rw [hx] at e1
    obtain ⟨cap, c, Tb, fz, hv, hcap, hb, hz, hs⟩ := (e1 : RepC C μ M (.sl b len n false) (ac.eval x))
    have e2 := hr y (by simp [Op.operands]); rw [hy] at e2
    have e2 : ac.eval y = _ := RepI.lit_eq e2
    have hu : C.P.underlying T = some (.slice E) := by
      unfold tySlice at h
      cases hu : C.P.underlying T with
      | none => simp [hu] at h
      | some d => cases d <;> simp [hu] at h; rw [h]
    refine ⟨.pointer (some ⟨μ b, i.toNat * n, none⟩), ?_, rfl⟩
    simp [execOp, hv, e2, Instr.indexAt, asIntOf, run_underlying hu, h0, h1, run_sizeOf hn, addr_add]

/-! ### reading -/

def loadA (P : Program) (T : TypeId) (cells : List AC) (off : Nat) : Option AV :=
  match tyAgg P T with
  | some true => match tySize P T with
    | some n => if off + n ≤ cells.length then some (.agg ((cells.drop off).take n)) else none
    | none => none
  | some false => (cells[off]?).map .c
  | none => none

theorem loadA_or {P : Program} {T : TypeId} {cells : List AC} {off : Nat} {r : AV} (h : loadA P T cells off = some r) :
    (∃ x, (∀ w : World, (isAgg T).run P w = .ok false w) ∧ cells[off]? = some x ∧ r = .c x) ∨
       (∃ n, (∀ w : World, (isAgg T).run P w = .ok true w) ∧ (∀ w : World, (sizeOf T).run P w = .ok n w) ∧ off + n ≤ cells.length ∧ r = .agg ((cells.drop off).take n)) := by
  unfold loadA at h
  split at h
  · rename_i ha
    split at h
    · rename_i n hn
      split at h
      · rename_i hle; cases h; exact .inr ⟨n, run_isAgg ha, run_sizeOf hn, hle, rfl⟩
      · cases h
    · cases h
  · rename_i ha
    cases hc : cells[off]? with
    | none => simp [hc] at h
    | some x => simp [hc] at h; exact .inl ⟨x, run_isAgg ha, rfl, h.symm⟩
  · cases h

theorem Rep1.V {C : Cfg} {μ : Nat → Nat} {M : Mem} {a : AV} {v : Value} (h : Rep1 C μ M a v) : RepV C μ M a v := by
  cases a with
  | tup _ => exact h.elim
  | c _ => exact h
  | agg _ => exact h

theorem ok_load {T : TypeId} {x : Operand} {b off : Nat} {bx : Box} {r : AV} (hx : ρ x = .c (.ptr b off)) (hb : pre b = some bx) (hn : bx.nl = false) (hr : loadA C.P T bx.cells off = some r) :
    OpOk C ⟨dst, .load T x, ty, pos, after, guard⟩ ρ [b] pre r [] := by
  intro μ M a next Q wf hrep hbx _ k
  have h1 := hrep x (by simp [Op.operands]); rw [hx] at h1
  have h1 : a.eval x = .pointer (some ⟨μ b, off, none⟩) := h1
  obtain ⟨v, e, hv⟩ := run_loadVar (hbx b (by simp) bx hb) hn (loadA_or hr)
  have e' : (execOp a.eval ⟨dst, .load T x, ty, pos, after, guard⟩).run C.P M.w = .ok (.value v) M.w := by
    simp [execOp, h1, Instr.loadAt, Instr.sureAddr, e]
  unfold Oper.wp
  rw [e']
  exact k v μ M hv.V (Trans.refl C pre μ M wf) (by simp [wrOf]) (by simp [wrOf]) (by simp [wrOf])

theorem ok_load_i {T : TypeId} {x : Operand} {flat : List AC} {r : AV} (hx : ρ x = .c (.iptr flat)) (hr : loadA C.P T flat 0 = some r) :
    OpOk C ⟨dst, .load T x, ty, pos, after, guard⟩ ρ [] pre r [] :=
  opOk_pure fun μ M ac _ hrep => by
    have e1 := hrep x (by simp [Op.operands]); rw [hx] at e1
    have e1 : RepI C M (.iptr flat) (ac.eval x) := e1
    generalize hz : AC.iptr flat = z at e1
    generalize hv : ac.eval x = v at e1
    cases e1 <;> cases hz
    rename_i blk off c hc hr'
    rcases loadA_or hr with ⟨y, ha, hy, rfl⟩ | ⟨n, ha, hs, hle, rfl⟩
    · have hlt : 0 < flat.length := by
        rcases Nat.lt_or_ge 0 flat.length with h | h
        · exact h
        · rw [List.getElem?_eq_none h] at hy; cases hy
      have hy' : y = flat[0] := by rw [List.getElem?_eq_getElem hlt] at hy; exact (Option.some.inj hy).symm
      have h0 := (hc 0 hlt).2
      refine ⟨c 0, ?_, ?_⟩
      · simp only [Nat.add_zero] at h0
        simp [execOp, hv, Instr.loadAt, Instr.sureAddr, loadVar, ha, h0]
      · rw [hy']; exact RepC.of_I (hr' 0 hlt)
    · refine ⟨.agg ((Array.range n).map c), ?_, ⟨_, rfl, by simp; omega, fun i h1 h2 => ?_⟩⟩
      · have := run_loadCells (P := C.P) (w := M.w) blk off n 0 #[] c (fun j hj => by rw [Nat.zero_add]; exact (hc j (by omega)).2)
        simp [execOp, hv, Instr.loadAt, Instr.sureAddr, loadVar, ha, hs, loadCells, this]
      · have hi : i < n := by simpa using h2
        have := hr' i (by omega)
        simpa [List.getElem_take] using RepC.of_I (μ := μ) this

/-! ### what makes or writes boxes -/

def upd (μ : Nat → Nat) (d n : Nat) : Nat → Nat := fun b => if b = d then n else μ b

/-- A new block, as box d. -/
theorem new_trans {μ : Nat → Nat} {M : Mem} {d : Nat} (wf : Wf C M) (hd : pre d = none) (o : Obj) :
    Trans C [d] pre μ M (upd μ d M.w.heap.size) { M with w := { M.w with heap := M.w.heap.push o } } := by
  have hc : ∀ b off, b < M.w.heap.size → ({ M.w with heap := M.w.heap.push o } : World).cell? ⟨b, off, none⟩ = M.w.cell? ⟨b, off, none⟩ := by
    intro b off h
    simp [World.cell?, Array.getElem?_push, Nat.ne_of_lt h]
  have hb : ∀ b, b < M.w.heap.size → (M.w.heap.push o)[b]? = M.w.heap[b]? := fun b h => by simp [Array.getElem?_push, Nat.ne_of_lt h]
  have g : Grow C M { M with w := { M.w with heap := M.w.heap.push o } } :=
    ⟨by simp, fun b off i => ⟨i, hc b off (wf.imm b off i).1⟩, fun _ s => s, fun b x s e => ⟨x, by rw [← e]; exact hb b (wf.sp b s), C.refl x⟩⟩
  refine ⟨g, ⟨fun b off i => ⟨by have := (wf.imm b off i).1; simp; omega, (wf.imm b off i).2⟩, fun b s => by have := wf.sp b s; simp; omega, fun g' flat hg => (wf.glob g' flat hg).mono g⟩, rfl, rfl, rfl,
    fun blk h1 _ _ => ⟨hb blk h1, fun _ i => i⟩, fun _ _ s => s, fun blk c T fz e _ => ?_, fun b hb' => ?_⟩
  · have hlt : blk < M.w.heap.size := by
      rcases Nat.lt_or_ge blk M.w.heap.size with h | h
      · exact h
      · simp [Array.getElem?_eq_none h] at e
    exact ⟨c, T, fz, by rw [← e]; exact hb blk hlt, Nat.le_refl _⟩
  · have : b ≠ d := fun e => by subst e; exact hb' (by simp) hd
    simp [upd, this]

def menL (d : Nat) (cs : List AC) : Bool := cs.any (·.men d)

theorem rep_new {μ : Nat → Nat} {M : Mem} {d : Nat} (wf : Wf C M) (hd : pre d = none) {cs : List AC} {vs : Array Value} (T : TypeId) (hm : menL d cs = false) (h : RepCs C μ M cs vs) :
    RepB C (upd μ d M.w.heap.size) { M with w := { M.w with heap := M.w.heap.push (.cells vs T) } } d { cells := cs } := by
  have t := new_trans (C := C) (μ := μ) wf hd (.cells vs T)
  have h' := h.trans t (fun b hb => by
    have : b ≠ d := fun e => by subst e; simp [menL] at hm; simp at hb; obtain ⟨x, hx, hx'⟩ := hb; have := hm x hx; simp [this] at hx'
    simp [upd, this])
  refine ⟨by simp, fun _ => ⟨⟨vs, T, (0, 0), by simp [upd], .inl rfl, by simp [h.1], fun i h1 h2 => ⟨h'.2 i h1 h2, by simp⟩⟩, fun o => ?_, by simp, ?_⟩⟩
  · simp only [upd, if_true]
    intro i; exact absurd (wf.imm _ _ i).1 (Nat.lt_irrefl _)
  · simp only [upd, if_true]
    intro s; exact absurd (wf.sp _ s) (Nat.lt_irrefl _)

/-- A new variable. -/
theorem ok_new {op : Op} {d : Nat} {cs : List AC} (hd : pre d = none) (hm : menL d cs = false)
    (h : ∀ μ M (a : Act), Wf C M → (∀ x ∈ op.operands, RepV C μ M (ρ x) (a.eval x)) → ∃ vs T, RepCs C μ M cs vs ∧
      (execOp a.eval ⟨some d, op, ty, pos, after, guard⟩).run C.P M.w = .ok (.value (.pointer (some ⟨M.w.heap.size, 0, none⟩))) { M.w with heap := M.w.heap.push (.cells vs T) }) :
    OpOk C ⟨some d, op, ty, pos, after, guard⟩ ρ [] pre (.c (.ptr d 0)) [(d, some { cells := cs })] := by
  intro μ M a next Q wf hr _ _ k
  obtain ⟨vs, T, hvs, e⟩ := h μ M a wf hr
  unfold Oper.wp
  rw [e]
  have t := new_trans (C := C) (μ := μ) wf hd (.cells vs T)
  refine k (.pointer (some ⟨M.w.heap.size, 0, none⟩)) (upd μ d M.w.heap.size) _ (by simp [RepV, Rep1, RepC, upd]) t ?_ ?_ ?_
  · intro b hb bx hbx
    simp [wrOf] at hb
    subst hb
    simp [postOf] at hbx
    subst hbx
    exact rep_new wf hd T hm hvs
  · intro x hx _
    simp [wrOf] at hx
    subst hx
    left; simp [upd]
  · intro x hx y hy _ _ _
    simp [wrOf] at hx hy
    rw [hx, hy]

theorem ok_box {T : TypeId} {x : Operand} {d : Nat} {cs : List AC} (hd : pre d = none) (hc : cellsOf (ρ x) = some cs) (hm : menL d cs = false) :
    OpOk C ⟨some d, .box T x, ty, pos, after, guard⟩ ρ [] pre (.c (.ptr d 0)) [(d, some { cells := cs })] :=
  ok_new hd hm fun μ M a _ hr => ⟨(a.eval x).cells, T, (rep_cells hc (hr x (by simp [Op.operands]))).1, by simp [execOp, Instr.box, newVar, newRow]⟩

theorem ok_alloc {T : TypeId} {d : Nat} {z : Value} (hd : pre d = none) (hz : tyZero C.P T = some z) :
    OpOk C ⟨some d, .alloc T, ty, pos, after, guard⟩ ρ [] pre (.c (.ptr d 0)) [(d, some { cells := z.cells.toList.map .lit })] :=
  ok_new hd (by simp [menL, AC.men]) fun μ M a _ _ => ⟨z.cells, T, ⟨by simp, fun i h1 h2 => by simp only [List.getElem_map, Array.getElem_toList]; exact RepI.lit _⟩, by simp [execOp, Instr.alloc, newVar, newRow, run_zero hz]⟩

/-! ### parts of values -/

theorem ok_extract {x : Operand} {i : Nat} {vs : List AV} {r : AV} (hx : ρ x = .tup vs) (hi : vs[i]? = some r) : OpOk C ⟨dst, .extract x i, ty, pos, after, guard⟩ ρ [] pre r [] :=
  opOk_pure fun μ M ac _ hr => by
    have h1 := hr x (by simp [Op.operands]); rw [hx] at h1
    obtain ⟨ws, e, hl, h⟩ := h1
    have hlt : i < vs.length := by
      rcases Nat.lt_or_ge i vs.length with h | h
      · exact h
      · rw [List.getElem?_eq_none h] at hi; cases hi
    have hr' : r = vs[i] := by rw [List.getElem?_eq_getElem hlt] at hi; exact (Option.some.inj hi).symm
    refine ⟨ws[i]'(by omega), ?_, ?_⟩
    · have : i < ws.size := by omega
      simp [execOp, e, Instr.extract, this]
    · rw [hr']; exact (h i hlt (by omega)).V

/-- Parts are laid into zero's cells. -/
def fillA (place : Nat → Option (Nat × Nat)) (cells : List AC) : List (Nat × AV) → Option (List AC)
  | [] => some cells
  | (i, v) :: rest => match place i, cellsOf v with
    | some (off, size), some cs => if cs.length ≠ size ∨ off + cs.length > cells.length then none else fillA place (cells.take off ++ cs ++ cells.drop (off + cs.length)) rest
    | _, _ => none

theorem zip_set (l : List Value) : ∀ (cs : Array Value) (off k : Nat), off + (k + l.length) ≤ cs.size →
    (((l.zipIdx k).foldl (fun cs (x : Value × Nat) => cs.setIfInBounds (off + x.2) x.1) cs).toList) = cs.toList.take (off + k) ++ l ++ cs.toList.drop (off + k + l.length) := by
  induction l with
  | nil => intro cs off k _; simp
  | cons v l ih =>
    intro cs off k h
    simp only [List.length_cons] at h
    simp only [List.zipIdx_cons, List.foldl_cons]
    rw [ih (cs.setIfInBounds (off + k) v) off (k + 1) (by simp; omega)]
    have hlt : off + k < cs.toList.length := by simp; omega
    simp only [Array.toList_setIfInBounds, List.length_cons]
    rw [show off + (k + 1) = off + k + 1 by omega]
    apply List.ext_getElem?
    intro n
    simp only [List.getElem?_append, List.length_append, List.length_take, List.length_set, List.getElem?_take, List.getElem?_set, List.getElem?_drop, List.getElem?_cons, List.length_cons]
    have hmin : min (off + k + 1) cs.toList.length = off + k + 1 := by omega
    have hmin' : min (off + k) cs.toList.length = off + k := by omega
    simp only [hmin, hmin']
    by_cases h1 : n < off + k
    · have : n < off + k + 1 := by omega
      have h3 : n < off + k + 1 + l.length := by omega
      have h4 : n < off + k + (l.length + 1) := by omega
      have h5 : off + k ≠ n := by omega
      simp [h1, this, h3, h4, h5]
    · by_cases h2 : n = off + k
      · subst h2
        have h3 : off + k < off + k + 1 + l.length := by omega
        have hs : off + k < cs.size := by simpa using hlt
        simp [h3, hs]
      · have a1 : ¬ n < off + k + 1 := by omega
        by_cases h3 : n < off + k + 1 + l.length
        · have h4 : n < off + k + (l.length + 1) := by omega
          have h6 : n - (off + k) ≠ 0 := by omega
          have h7 : n - (off + k + 1) = n - (off + k) - 1 := by omega
          simp [h1, a1, h3, h4, h6, h7]
        · have h4 : ¬ n < off + k + (l.length + 1) := by omega
          have h5 : off + k ≠ off + k + 1 + l.length + (n - (off + k + 1 + l.length)) := by omega
          have h8 : off + k + 1 + l.length + (n - (off + k + 1 + l.length)) = off + k + (l.length + 1) + (n - (off + k + (l.length + 1))) := by omega
          simp [h1, a1, h3, h4, h5, h8]
          intro e; omega

theorem RepCs.splice {μ : Nat → Nat} {M : Mem} {cells cs : List AC} {ws vs : Array Value} {off : Nat} (h : RepCs C μ M cells ws) (h' : RepCs C μ M cs vs) (hle : off + cs.length ≤ cells.length)
    {us : Array Value} (hu : us.toList = ws.toList.take off ++ vs.toList ++ ws.toList.drop (off + vs.size)) : RepCs C μ M (cells.take off ++ cs ++ cells.drop (off + cs.length)) us := by
  have e1 := h.1
  have e2 := h'.1
  have hsz : us.size = cells.length := by
    have := congrArg List.length hu
    simp at this; omega
  refine ⟨by simp; omega, fun i hi hi' => ?_⟩
  have gu : us[i] = (ws.toList.take off ++ vs.toList ++ ws.toList.drop (off + vs.size))[i]'(by rw [← hu]; simpa using hi') := by
    rw [List.getElem_of_eq hu.symm (by rw [← hu]; simpa using hi')]; simp
  rw [gu]
  by_cases a : i < off
  · have : i < cells.length := by omega
    have key := h.2 i this (by omega)
    rw [List.getElem_append_left (by simp; omega), List.getElem_append_left (by simp; omega), List.getElem_take]
    rw [List.getElem_append_left (by simp; omega), List.getElem_append_left (by simp; omega), List.getElem_take]
    simpa using key
  · by_cases b : i < off + cs.length
    · have key := h'.2 (i - off) (by omega) (by omega)
      have l1 : (cells.take off).length = off := by simp; omega
      have l2 : (ws.toList.take off).length = off := by simp; omega
      rw [List.getElem_append_left (by simp; omega), List.getElem_append_right (by omega)]
      rw [List.getElem_append_left (by simp; omega), List.getElem_append_right (by omega)]
      simp only [l1, l2]
      simpa using key
    · have key := h.2 i (by simp at hi; omega) (by omega)
      have l1 : (cells.take off ++ cs).length = off + cs.length := by simp; omega
      have l2 : (ws.toList.take off ++ vs.toList).length = off + cs.length := by simp; omega
      rw [List.getElem_append_right (by omega), List.getElem_append_right (by omega)]
      simp only [l1, l2, List.getElem_drop, e2]
      have e3 : off + cs.length + (i - (off + cs.length)) = i := by omega
      simpa [e3] using key

theorem fill_rep {μ : Nat → Nat} {M : Mem} {place : Nat → Option (Nat × Nat)} : ∀ (parts : List (Nat × AV)) (ps : List (Nat × Value)) (cells : List AC) (ws : Array Value) (r : List AC),
    parts.length = ps.length → (∀ i (h : i < parts.length) (h' : i < ps.length), parts[i].1 = ps[i].1 ∧ RepV C μ M parts[i].2 ps[i].2) → RepCs C μ M cells ws →
    fillA place cells parts = some r → ∃ us, Instr.fill place ws ps = some us ∧ RepCs C μ M r us := by
  intro parts
  induction parts with
  | nil => intro ps cells ws r hl _ hc hf
           cases ps with
           | nil => simp [fillA] at hf; subst hf; exact ⟨ws, rfl, hc⟩
           | cons _ _ => simp at hl
  | cons p parts ih =>
    intro ps cells ws r hl hp hc hf
    cases ps with
    | nil => simp at hl
    | cons q ps =>
      obtain ⟨i, v⟩ := p
      obtain ⟨j, u⟩ := q
      have h0 := hp 0 (by simp) (by simp)
      simp only [List.getElem_cons_zero] at h0
      obtain ⟨rfl, hv⟩ := h0
      simp only [fillA] at hf
      cases hpl : place i with
      | none => simp [hpl] at hf
      | some os =>
        obtain ⟨off, size⟩ := os
        cases hcs : cellsOf v with
        | none => simp [hpl, hcs] at hf
        | some cs =>
          simp only [hpl, hcs] at hf
          split at hf
          · cases hf
          · rename_i hne
            simp only [not_or, Nat.not_lt, gt_iff_lt, Decidable.not_not] at hne
            obtain ⟨h1, h2⟩ := hne
            have hr := (rep_cells hcs hv).1
            have hz := zip_set u.cells.toList ws off 0 (by have := hc.1; have := hr.1; simp; omega)
            simp only [Nat.add_zero] at hz
            have hsp := hc.splice hr h2 (us := (u.cells.zipIdx.foldl (fun cs (c, j) => cs.setIfInBounds (off + j) c) ws)) (by
              rw [← Array.foldl_toList, Array.toList_zipIdx]; simpa using hz)
            obtain ⟨us, e, hu⟩ := ih ps _ _ r (by simpa using hl) (fun n a b => by have := hp (n + 1) (by simpa using a) (by simpa using b); simpa using this) hsp hf
            refine ⟨us, ?_, hu⟩
            have e1 := hr.1
            have e2 := hc.1
            simp only [Instr.fill, hpl]
            rw [if_neg (by simp; omega)]
            exact e

def buildPlace (P : Program) (T : TypeId) (i : Nat) : Option (Nat × Nat) :=
  match P.underlying T with
  | some (.array _ E) => (tySize P E).map fun n => (i * n, n)
  | _ => match tyField P T i with
    | some (o, U) => (tySize P U).map fun n => (o, n)
    | none => none

def buildA (P : Program) (T : TypeId) (parts : List (Nat × AV)) : Option (List AC) :=
  match tyZero P T with
  | some z => fillA (buildPlace P T) (z.cells.toList.map .lit) parts
  | none => none

theorem mapM_fields {P : Program} {w : World} : ∀ (fs : List Field) , (∀ x ∈ fs, (tySize P x.type).isSome = true) →
    (fs.mapM (fun f => Prod.mk f.offset <$> sizeOf f.type)).run P w = .ok (fs.map fun f => (f.offset, (tySize P f.type).getD 0)) w := by
  intro fs
  induction fs with
  | nil => intro _; simp
  | cons x fs ih =>
    intro h
    have h1 := h x (by simp)
    cases hn : tySize P x.type with
    | none => simp [hn] at h1
    | some n => simp [List.mapM_cons, run_sizeOf hn, ih fun y hy => h y (by simp [hy]), hn]

theorem ok_build {T : TypeId} {parts : Array (Nat × Operand)} {fs : Array Field} {cs : List AC} (hu : C.P.underlying T = some (.struct fs)) (hs : ∀ x ∈ fs.toList, (tySize C.P x.type).isSome = true)
    (hb : buildA C.P T (parts.toList.map fun p => (p.1, ρ p.2)) = some cs) : OpOk C ⟨dst, .build T parts, ty, pos, after, guard⟩ ρ [] pre (.agg cs) [] :=
  opOk_pure fun μ M a _ hr => by
    unfold buildA at hb
    cases hz : tyZero C.P T with
    | none => simp [hz] at hb
    | some z =>
      simp only [hz] at hb
      have hplace : (fun i => (fs.toList.map fun f => (f.offset, (tySize C.P f.type).getD 0))[i]?) = buildPlace C.P T := by
        funext i
        simp only [buildPlace, tyField, hu, List.getElem?_map, Array.getElem?_toList]
        cases hi : fs[i]? with
        | none => simp
        | some x =>
          have := hs x (by rw [← Array.getElem?_toList] at hi; exact List.mem_of_getElem? hi)
          cases hn : tySize C.P x.type with
          | none => simp [hn] at this
          | some n => simp [hn]
      obtain ⟨us, e, hus⟩ := fill_rep (C := C) (μ := μ) (M := M) (parts.toList.map fun p => (p.1, ρ p.2)) (parts.toList.map fun p => (p.1, a.eval p.2)) (z.cells.toList.map .lit) z.cells cs (by simp)
        (fun i h h' => ⟨by simp, by
          have hi : i < parts.size := by simpa using h
          have := hr parts[i].2 (by simp only [Op.operands, List.mem_toArray, List.mem_map]; exact ⟨parts[i], by simp [Array.getElem_mem], rfl⟩)
          simpa using this⟩)
        ⟨by simp, fun i h1 h2 => by simp only [List.getElem_map, Array.getElem_toList]; exact RepI.lit _⟩ hb
      refine ⟨.agg us, ?_, ⟨us, rfl, hus⟩⟩
      rw [← hplace] at e
      have hm := mapM_fields (P := C.P) (w := M.w) fs.toList hs
      have hm' : (fs.mapM (fun f => (do pure (f.offset, ← sizeOf f.type) : Sem (Nat × Nat)))).run C.P M.w = .ok (fs.toList.map fun f => (f.offset, (tySize C.P f.type).getD 0)).toArray M.w := by
        have hfun : (fun (f : Field) => (do pure (f.offset, ← sizeOf f.type) : Sem (Nat × Nat))) = fun f => Prod.mk f.offset <$> sizeOf f.type := rfl
        rw [hfun, Array.mapM_eq_mapM_toList]; simp [hm]
      have hparts : (parts.map fun (x : Nat × Operand) => (x.1, a.eval x.2)).toList = parts.toList.map fun p => (p.1, a.eval p.2) := by simp
      simp only [execOp, Instr.build, Sem.run_bind', bind, run_zero hz, Result.andThen_ok, run_underlying hu]
      simp only [bind] at hm'
      rw [hm']
      simp only [Result.andThen_ok]
      have e' : Instr.fill (fun x => (fs.toList.map fun f => (f.offset, (tySize C.P f.type).getD 0)).toArray[x]?) z.cells (parts.map fun (x : Nat × Operand) => (x.1, a.eval x.2)).toList = some us := by
        rw [hparts]; simpa using e
      simp only [e']
      rfl

/-! ### writing -/

def spliceA (cells cs : List AC) (off : Nat) : List AC := cells.take off ++ cs ++ cells.drop (off + cs.length)

theorem run_storeCells {P : Program} : ∀ (vs : List Value) (w : World) (b off i : Nat) (c : Array Value) (T : TypeId) (fz : Nat × Nat),
    w.heap[b]? = some (.cells c T fz) → (∀ o, o < c.size → ¬ (fz.1 ≤ o ∧ o < fz.2)) → off + i + vs.length ≤ c.size → (∀ v ∈ vs, Ev.single v = true) →
    ∃ c' : Array Value, (storeCells ⟨b, off, none⟩ vs i).run P w = .ok () { w with heap := w.heap.setIfInBounds b (.cells c' T fz) } ∧
      c'.toList = c.toList.take (off + i) ++ vs ++ c.toList.drop (off + i + vs.length) := by
  intro vs
  induction vs with
  | nil =>
    intro w b off i c T fz hh _ _ _
    refine ⟨c, ?_, by simp⟩
    have : w.heap.setIfInBounds b (.cells c T fz) = w.heap := by
      apply Array.ext_getElem?
      intro j
      rw [Array.getElem?_setIfInBounds]
      split
      · rename_i e; subst e
        have hlt : b < w.heap.size := by
          rcases Nat.lt_or_ge b w.heap.size with h | h
          · exact h
          · simp [Array.getElem?_eq_none h] at hh
        have hg := hh
        rw [Array.getElem?_eq_getElem hlt] at hg
        simp [hlt, Option.some.inj hg]
      · rfl
    simp [storeCells, this]
  | cons v vs ih =>
    intro w b off i c T fz hh hz hle hs
    simp only [List.length_cons] at hle
    have hlt : off + i < c.size := by omega
    have hblt : b < w.heap.size := by
      rcases Nat.lt_or_ge b w.heap.size with h | h
      · exact h
      · simp [Array.getElem?_eq_none h] at hh
    have hcell : w.cell? ⟨b, off + i, none⟩ = some c[off + i] := by simp [World.cell?, hh, hlt]
    have hfz : w.frozen? ⟨b, off + i, none⟩ = false := by
      have := hz (off + i) hlt
      simp only [World.frozen?, hh]
      simp only [not_and, Nat.not_lt] at this
      simp; exact this
    have h1 : (store (Addr.mk b (off + i) none) v).run P w = .ok () (w.setCell ⟨b, off + i, none⟩ v) := by
      have hv := hs v (by simp)
      cases v <;> first | (simp [Ev.single] at hv; done) | simp [store, Sem.run, hcell, hfz]
    have hset : w.setCell ⟨b, off + i, none⟩ v = { w with heap := w.heap.setIfInBounds b (.cells (c.setIfInBounds (off + i) v) T fz) } := by
      simp only [World.setCell]
      congr 1
      apply Array.ext_getElem?
      intro j
      rw [Array.getElem?_modify, Array.getElem?_setIfInBounds]
      by_cases e : b = j
      · subst e
        have hg := hh
        rw [Array.getElem?_eq_getElem hblt] at hg
        simp [hblt, Option.some.inj hg]
      · simp [e]
    obtain ⟨c', e, hc'⟩ := ih { w with heap := w.heap.setIfInBounds b (.cells (c.setIfInBounds (off + i) v) T fz) } b off (i + 1) (c.setIfInBounds (off + i) v) T fz
      (by simp [hblt]) (by simpa using hz) (by simp; omega) (fun x hx => hs x (by simp [hx]))
    refine ⟨c', ?_, ?_⟩
    · simp only [storeCells, addr_add, bind, Sem.run_bind', h1, Result.andThen_ok, hset, e]
      simp [Array.setIfInBounds_setIfInBounds]
    · rw [hc']
      simp only [Array.toList_setIfInBounds, List.length_cons]
      apply List.ext_getElem?
      intro n
      have hl : c.toList.length = c.size := by simp
      have m1 : min (off + (i + 1)) c.size = off + i + 1 := by omega
      have m2 : min (off + i) c.size = off + i := by omega
      simp only [List.getElem?_append, List.length_append, List.length_take, List.length_set, List.getElem?_take, List.getElem?_set, List.getElem?_drop, List.getElem?_cons, List.length_cons, hl, m1, m2]
      by_cases a1 : n < off + i
      · have a2 : n < off + i + 1 := by omega
        have a3 : n < off + i + 1 + vs.length := by omega
        have a4 : n < off + i + (vs.length + 1) := by omega
        have a5 : n < off + (i + 1) := by omega
        have a6 : off + i ≠ n := by omega
        simp [a1, a2, a3, a4, a5, a6]
      · by_cases a2 : n = off + i
        · subst a2
          have a5 : off + i < off + (i + 1) := by omega
          have a3 : off + i < off + i + 1 + vs.length := by omega
          simp [a3, a5, hlt]
        · have b1 : ¬ n < off + i + 1 := by omega
          by_cases a3 : n < off + i + 1 + vs.length
          · have a4 : n < off + i + (vs.length + 1) := by omega
            have a6 : n - (off + i) ≠ 0 := by omega
            have a7 : n - (off + i + 1) = n - (off + i) - 1 := by omega
            simp [a1, b1, a3, a4, a6, a7]
          · have a4 : ¬ n < off + i + (vs.length + 1) := by omega
            have a8 : off + (i + 1) + vs.length + (n - (off + i + 1 + vs.length)) = off + i + (vs.length + 1) + (n - (off + i + (vs.length + 1))) := by omega
            have a9 : off + i ≠ off + i + (vs.length + 1) + (n - (off + i + (vs.length + 1))) := by omega
            simp [a1, b1, a3, a4, a8, a9]


/-- A box is written, beyond what nobody writes any more. -/
theorem write_trans {μ : Nat → Nat} {M : Mem} {b : Nat} {bx : Box} (wf : Wf C M) (hb : pre b = some bx) (hn : bx.nl = false) (h : RepR C μ M b bx)
    {c c' : Array Value} {T : TypeId} {fz : Nat × Nat} (hh : M.w.heap[μ b]? = some (.cells c T fz)) (hs : c.size ≤ c'.size) (hk : ∀ o, o < bx.pub → c'[o]? = c[o]?) :
    Trans C [b] pre μ M μ { M with w := { M.w with heap := M.w.heap.setIfInBounds (μ b) (.cells c' T fz) } } := by
  have hlt : μ b < M.w.heap.size := by
    rcases Nat.lt_or_ge (μ b) M.w.heap.size with h | h
    · exact h
    · simp [Array.getElem?_eq_none h] at hh
  have hne : ∀ blk, blk ≠ μ b → (M.w.heap.setIfInBounds (μ b) (.cells c' T fz))[blk]? = M.w.heap[blk]? := fun blk e => by
    rw [Array.getElem?_setIfInBounds, if_neg fun e' => e e'.symm]
  have heq : (M.w.heap.setIfInBounds (μ b) (.cells c' T fz))[μ b]? = some (.cells c' T fz) := by simp [hlt]
  have hcell : ∀ blk o, M.I blk o → ({ M.w with heap := M.w.heap.setIfInBounds (μ b) (.cells c' T fz) } : World).cell? ⟨blk, o, none⟩ = M.w.cell? ⟨blk, o, none⟩ := by
    intro blk o i
    by_cases e : blk = μ b
    · subst e
      have := hk o (h.imm o i)
      simp [World.cell?, heq, hh, this]
    · simp [World.cell?, hne blk e]
  have g : Grow C M { M with w := { M.w with heap := M.w.heap.setIfInBounds (μ b) (.cells c' T fz) } } :=
    ⟨by simp, fun blk o i => ⟨i, hcell blk o i⟩, fun _ s => s, fun blk x s e => by
      have : blk ≠ μ b := fun e' => h.sp (e' ▸ s)
      exact ⟨x, by rw [← e]; exact hne blk this, C.refl x⟩⟩
  refine ⟨g, ⟨fun blk o i => by simpa using wf.imm blk o i, fun blk s => by simpa using wf.sp blk s, fun g' flat hg => (wf.glob g' flat hg).mono g⟩, rfl, rfl, rfl,
    fun blk h1 _ h3 => ⟨hne blk (h3 b (by simp) (by simp [hb, liveB, hn])), fun _ i => i⟩, fun _ _ s => s, fun blk c1 T1 fz1 e _ => ?_, fun _ _ => rfl⟩
  by_cases e' : blk = μ b
  · subst e'
    rw [hh] at e
    cases e
    exact ⟨c', T, fz, heq, hs⟩
  · exact ⟨c1, T1, fz1, by rw [← e]; exact hne blk e', Nat.le_refl _⟩

/-- The same, where what is frozen behind it may change. -/
theorem write_trans' {μ : Nat → Nat} {M : Mem} {b : Nat} {bx : Box} (wf : Wf C M) (hb : pre b = some bx) (hn : bx.nl = false) (h : RepR C μ M b bx)
    {c c' : Array Value} {T : TypeId} {fz fz' : Nat × Nat} (hh : M.w.heap[μ b]? = some (.cells c T fz)) (hs : c.size ≤ c'.size) (hk : ∀ o, o < bx.pub → c'[o]? = c[o]?) :
    Trans C [b] pre μ M μ { M with w := { M.w with heap := M.w.heap.setIfInBounds (μ b) (.cells c' T fz') } } := by
  have hlt : μ b < M.w.heap.size := by
    rcases Nat.lt_or_ge (μ b) M.w.heap.size with h | h
    · exact h
    · simp [Array.getElem?_eq_none h] at hh
  have hne : ∀ blk, blk ≠ μ b → (M.w.heap.setIfInBounds (μ b) (.cells c' T fz'))[blk]? = M.w.heap[blk]? := fun blk e => by
    rw [Array.getElem?_setIfInBounds, if_neg fun e' => e e'.symm]
  have heq : (M.w.heap.setIfInBounds (μ b) (.cells c' T fz'))[μ b]? = some (.cells c' T fz') := by simp [hlt]
  have hcell : ∀ blk o, M.I blk o → ({ M.w with heap := M.w.heap.setIfInBounds (μ b) (.cells c' T fz') } : World).cell? ⟨blk, o, none⟩ = M.w.cell? ⟨blk, o, none⟩ := by
    intro blk o i
    by_cases e : blk = μ b
    · subst e
      have := hk o (h.imm o i)
      simp [World.cell?, heq, hh, this]
    · simp [World.cell?, hne blk e]
  have g : Grow C M { M with w := { M.w with heap := M.w.heap.setIfInBounds (μ b) (.cells c' T fz') } } :=
    ⟨by simp, fun blk o i => ⟨i, hcell blk o i⟩, fun _ s => s, fun blk x s e => by
      have : blk ≠ μ b := fun e' => h.sp (e' ▸ s)
      exact ⟨x, by rw [← e]; exact hne blk this, C.refl x⟩⟩
  refine ⟨g, ⟨fun blk o i => by simpa using wf.imm blk o i, fun blk s => by simpa using wf.sp blk s, fun g' flat hg => (wf.glob g' flat hg).mono g⟩, rfl, rfl, rfl,
    fun blk h1 _ h3 => ⟨hne blk (h3 b (by simp) (by simp [hb, liveB, hn])), fun _ i => i⟩, fun _ _ s => s, fun blk c1 T1 fz1 e _ => ?_, fun _ _ => rfl⟩
  by_cases e' : blk = μ b
  · subst e'
    rw [hh] at e
    cases e
    exact ⟨c', T, fz', heq, hs⟩
  · exact ⟨c1, T1, fz1, by rw [← e]; exact hne blk e', Nat.le_refl _⟩

theorem pure_I {μ : Nat → Nat} {M : Mem} {a : AC} {v : Value} (hp : a.pure = true) (h : RepC C μ M a v) : RepI C M a v := by
  cases a with
  | ptr _ _ => simp [AC.pure] at hp
  | sl _ _ _ _ => simp [AC.pure] at hp
  | junk => exact .junk v
  | lit _ => exact h
  | list _ _ => exact h
  | iptr _ => exact h
  | opq _ => exact h
  | clo _ _ _ => exact h

theorem ok_store {T : TypeId} {x y : Operand} {b off : Nat} {bx : Box} {cs : List AC} (hx : ρ x = .c (.ptr b off)) (hb : pre b = some bx) (hn : bx.nl = false) (hc : cellsOf (ρ y) = some cs)
    (hT : tySize C.P T = some cs.length) (hp : bx.pub ≤ off) (hle : off + cs.length ≤ bx.cells.length) (hrow : bx.row = true → cs.all (·.pure) = true) :
    OpOk C ⟨none, .store T x y, ty, pos, after, guard⟩ ρ [] pre (.c .junk) [(b, some { bx with cells := spliceA bx.cells cs off })] := by
  intro μ M a next Q wf hrep hbx _ k
  have h1 := hrep x (by simp [Op.operands]); rw [hx] at h1
  have h1 : a.eval x = .pointer (some ⟨μ b, off, none⟩) := h1
  obtain ⟨hr, hone⟩ := rep_cells hc (hrep y (by simp [Op.operands]))
  have hB := (hbx b (by simp [wrOf]) bx hb).2 hn
  obtain ⟨⟨c, Tb, fz, hh, hz, hl, hcell⟩, himm, hpl, hsp⟩ := hB
  have hsz := hr.1
  obtain ⟨c', e, hc'⟩ := run_storeCells (P := C.P) (a.eval y).cells.toList M.w (μ b) off 0 c Tb fz hh hz.no (by simp; omega) hone
  simp only [Nat.add_zero, Array.length_toList] at hc'
  have hsize : c'.size = c.size := by
    have := congrArg List.length hc'
    simp at this; omega
  have e' : (execOp a.eval ⟨none, .store T x y, ty, pos, after, guard⟩).run C.P M.w = .ok .skip { M.w with heap := M.w.heap.setIfInBounds (μ b) (.cells c' Tb fz) } := by
    have hsz' : (a.eval y).cells.size = cs.length := hsz
    simp [execOp, h1, Instr.storeAt, Instr.sureAddr, storeVar, run_sizeOf hT, hsz', e]
  have hpre : ∀ o, o < off → c'[o]? = c[o]? := fun o ho => by
    rw [← Array.getElem?_toList, hc', List.append_assoc, List.getElem?_append_left (by simp; omega), List.getElem?_take]
    simp [ho]
  have t := write_trans wf hb hn ⟨⟨c, Tb, fz, hh, hz, hl, hcell⟩, himm, hpl, hsp⟩ hh (c' := c') (by omega) (fun o ho => hpre o (by omega))
  have hlt : μ b < M.w.heap.size := by
    rcases Nat.lt_or_ge (μ b) M.w.heap.size with h | h
    · exact h
    · simp [Array.getElem?_eq_none h] at hh
  unfold Oper.wp
  rw [e']
  refine k undef μ _ trivial t ?_ ?_ ?_
  · intro b' hb' bx' hbx'
    simp [wrOf] at hb'
    subst hb'
    simp [postOf] at hbx'
    subst hbx'
    refine ⟨by simp [hn], fun _ => ⟨⟨c', Tb, fz, by simp [hlt], by rw [hsize]; exact hz, by simp [spliceA]; omega, fun i i1 i2 => ?_⟩, by simpa using himm, by simp [spliceA]; omega, hsp⟩⟩
    -- the cells: those of the box that stay, and the new ones
    have hcs : RepCs C μ M bx.cells (c.extract 0 bx.cells.length) := ⟨by simp; omega, fun j j1 j2 => by
      have := (hcell j j1 (by omega)).1
      simpa using this⟩
    have hg : c'[i] = (c'.toList)[i]'(by simpa using i2) := by simp
    have hi : i < (bx.cells.take off ++ cs ++ bx.cells.drop (off + cs.length)).length := i1
    have huo : (c'.extract 0 bx.cells.length).toList = (c.extract 0 bx.cells.length).toList.take off ++ (a.eval y).cells.toList ++ (c.extract 0 bx.cells.length).toList.drop (off + (a.eval y).cells.size) := by
      simp only [Array.toList_extract, hc', List.extract_eq_take_drop, Nat.sub_zero, List.drop_zero]
      apply List.ext_getElem?
      intro n
      have hcl : c.toList.length = c.size := by simp
      have m1 : min off c.size = off := by omega
      have m2 : min bx.cells.length c.size = bx.cells.length := by omega
      have m3 : min off bx.cells.length = off := by omega
      simp only [List.getElem?_take, List.getElem?_append, List.length_append, List.length_take, List.getElem?_drop, hcl, m1, m2, m3, Array.length_toList]
      by_cases a0 : n < bx.cells.length
      · by_cases a1 : n < off
        · have a2 : n < off + (a.eval y).cells.size := by omega
          simp [a0, a1, a2]
        · by_cases a2 : n < off + (a.eval y).cells.size
          · simp [a0, a1, a2]
          · have a3 : off + (a.eval y).cells.size + (n - (off + (a.eval y).cells.size)) = n := by omega
            have a4 : ¬ n - (off + (a.eval y).cells.size) + (off + (a.eval y).cells.size) ≥ bx.cells.length ∨ True := .inr trivial
            simp [a0, a1, a2, a3]
      · have a1 : ¬ n < off := by omega
        have a2 : ¬ n < off + (a.eval y).cells.size := by omega
        have a3 : ¬ off + (a.eval y).cells.size + (n - (off + (a.eval y).cells.size)) < bx.cells.length := by omega
        simp [a0, a1, a2, a3]
    have hsp' := hcs.splice hr hle huo
    have hib : i < bx.cells.length := by
      have : (bx.cells.take off ++ cs ++ bx.cells.drop (off + cs.length)).length = bx.cells.length := by simp; omega
      omega
    have hrep1 := hsp'.2 i hi (by simp; omega)
    have hrep2 : RepC C μ M (bx.cells.take off ++ cs ++ bx.cells.drop (off + cs.length))[i] c'[i] := by simpa using hrep1
    refine ⟨RepC.trans t (fun _ _ => rfl) hrep2, fun hrw => ?_⟩
    refine RepI.mono t.grow ?_
    have hall := hrow hrw
    -- each cell of the row is of that kind
    by_cases a1 : i < off
    · have e1 : (bx.cells.take off ++ cs ++ bx.cells.drop (off + cs.length))[i] = bx.cells[i] := by
        rw [List.getElem_append_left (by simp; omega), List.getElem_append_left (by simp; omega), List.getElem_take]
      have e2 : c'[i] = c[i]'(by omega) := by
        have := hpre i a1
        rw [Array.getElem?_eq_getElem i2, Array.getElem?_eq_getElem (by omega)] at this
        exact Option.some.inj this
      show RepI C M (bx.cells.take off ++ cs ++ bx.cells.drop (off + cs.length))[i] c'[i]
      rw [e1, e2]; exact (hcell i hib (by omega)).2 hrw
    · by_cases a2 : i < off + cs.length
      · have l1 : (bx.cells.take off).length = off := by simp; omega
        have e1 : (bx.cells.take off ++ cs ++ bx.cells.drop (off + cs.length))[i] = cs[i - off]'(by omega) := by
          rw [List.getElem_append_left (by simp; omega), List.getElem_append_right (by omega)]
          simp only [l1]
        refine pure_I (μ := μ) ?_ hrep2
        show (bx.cells.take off ++ cs ++ bx.cells.drop (off + cs.length))[i].pure = true
        rw [e1]; exact List.all_eq_true.1 hall _ (List.getElem_mem _)
      · have l1 : (bx.cells.take off ++ cs).length = off + cs.length := by simp; omega
        have e1 : (bx.cells.take off ++ cs ++ bx.cells.drop (off + cs.length))[i] = bx.cells[i] := by
          rw [List.getElem_append_right (by omega)]
          simp only [l1, List.getElem_drop]
          congr 1; omega
        have e2 : c'[i] = c[i]'(by omega) := by
          have : c'.toList[i]? = c.toList[i]? := by
            rw [hc', List.getElem?_append_right (by simp; omega), List.getElem?_drop]
            congr 1; simp; omega
          rw [Array.getElem?_toList, Array.getElem?_toList, Array.getElem?_eq_getElem i2, Array.getElem?_eq_getElem (by omega)] at this
          exact Option.some.inj this
        show RepI C M (bx.cells.take off ++ cs ++ bx.cells.drop (off + cs.length))[i] c'[i]
        rw [e1, e2]; exact (hcell i hib (by omega)).2 hrw
  · intro x hx _
    simp [wrOf] at hx
    subst hx
    exact .inr ⟨x, by simp [wrOf], by simp [hb, liveB, hn], rfl⟩
  · intro x hx y hy _ _ _
    simp [wrOf] at hx hy
    rw [hx, hy]

end
end Go.Ev
