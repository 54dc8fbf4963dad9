/-
  Symbolic values, part 2: what an operation does to them.
-/
import Derived.Test.YtnhdfmnmciminaaSyBase
namespace Go.Sy
open Go.Ev
set_option linter.unusedVariables false
set_option linter.unusedSimpArgs false

/-- What an operation does, if the guard holds: the boxes that it reads; its slot's value; the boxes that it writes. -/
structure Res where
  g : Bool
  rd : List Nat
  r : SV
  ups : List (Nat × Option SB)
abbrev c1 (x : Cl) : SV := .one (.c x)
def inB (i : Int) (n : Nat) : Bool := decide (0 ≤ i) && decide (i < n)
theorem inB_iff (i : Int) (n : Nat) : inB i n = true ↔ 0 ≤ i ∧ i < n := by simp [inB]

theorem OpOk.weak {C : Cfg} {o : Oper} {ρ : Operand → AV} {rd : List Nat} {pre : Nat → Option Box} {r r' : AV} {ups : List (Nat × Option Box)} (h : OpOk C o ρ rd pre r ups)
    (hw : ∀ μ M v, RepV C μ M r v → RepV C μ M r' v) : OpOk C o ρ rd pre r' ups := by
  intro μ M a next Q wf hr hb hd k
  exact h μ M a next Q wf hr hb hd fun v μ' M' hv t h1 h2 h3 => k v μ' M' (hw _ _ _ hv) t h1 h2 h3
theorem RepV.iptr_take {C : Cfg} {μ : Nat → Nat} {M : Mem} {a b : List AC} {v : Value} (h : RepV C μ M (.c (.iptr (a ++ b))) v) : RepV C μ M (.c (.iptr a)) v := by
  have h : RepI C M (.iptr (a ++ b)) v := h
  show RepI C M (.iptr a) v
  generalize hx : AC.iptr (a ++ b) = x at h
  cases h with
  | iptr flat blk off c hc hr =>
    cases hx
    refine .iptr a blk off c (fun i hi => hc i (by simp; omega)) (fun i hi => ?_)
    have := hr i (by simp; omega)
    rwa [List.getElem_append_left hi] at this
  | _ => cases hx

/-! ### whole numbers, texts, truth values -/

def andI (k : IntKind) (a b : Int) : Int := k.wrap (BitVec.ofInt k.bits a &&& BitVec.ofInt k.bits b).toNat
def orI (k : IntKind) (a b : Int) : Int := k.wrap (BitVec.ofInt k.bits a ||| BitVec.ofInt k.bits b).toNat
def xorI (k : IntKind) (a b : Int) : Int := k.wrap (BitVec.ofInt k.bits a ^^^ BitVec.ofInt k.bits b).toNat
def andNotI (k : IntKind) (a b : Int) : Int := k.wrap (BitVec.ofInt k.bits a &&& ~~~BitVec.ofInt k.bits b).toNat
def shlI (k : IntKind) (a b : Int) : Int := k.wrap (a * 2 ^ (min b.toNat k.bits))
def shrI (k : IntKind) (a b : Int) : Int := a.fdiv (2 ^ (min b.toNat k.bits))
def notI (k : IntKind) (n : Int) : Int := k.wrap (BitVec.ofInt k.bits (if k.signed then -1 else k.max) ^^^ BitVec.ofInt k.bits n).toNat
def intS (op : BinOp) (k : IntKind) (a b : Int) : Bool × Cl :=
  match op with
  | .add => (true, .int k (k.wrap (a + b)))
  | .sub => (true, .int k (k.wrap (a - b)))
  | .mul => (true, .int k (k.wrap (a * b)))
  | .quo => (!decide (b = 0), .int k (k.wrap (a.tdiv b)))
  | .rem => (!decide (b = 0), .int k (a.tmod b))
  | .and => (true, .int k (andI k a b))
  | .or => (true, .int k (orI k a b))
  | .xor => (true, .int k (xorI k a b))
  | .andNot => (true, .int k (andNotI k a b))
  | .eql => (true, .bool (decide (a = b)))
  | .neq => (true, .bool (!decide (a = b)))
  | .lss => (true, .bool (decide (a < b)))
  | .leq => (true, .bool (decide (a ≤ b)))
  | .gtr => (true, .bool (decide (b < a)))
  | .geq => (true, .bool (decide (b ≤ a)))
  | .shl => (decide (0 ≤ b), .int k (shlI k a b))
  | .shr => (decide (0 ≤ b), .int k (shrI k a b))
theorem beq_int (a b : Int) : (a == b) = decide (a = b) := by rw [Bool.eq_iff_iff]; simp
theorem intS_ok {op : BinOp} {k : IntKind} {a b : Int} (h : (intS op k a b).1 = true) : ∃ r, (intS op k a b).2.den = .lit r ∧ intBin op k a b = some r := by
  cases op <;> simp only [intS, intBin, Bool.not_eq_true', decide_eq_false_iff_not, decide_eq_true_eq] at h ⊢ <;>
    first
    | exact ⟨_, rfl, rfl⟩
    | exact ⟨_, rfl, by rw [if_neg h]⟩
    | exact ⟨_, rfl, by rw [if_pos h]; rfl⟩
    | exact ⟨_, rfl, by rw [beq_int]⟩
    | exact ⟨_, rfl, by rw [bne, beq_int]⟩
def eqB (x y : ByteArray) : Bool := x.data.toList == y.data.toList
def ltB (x y : ByteArray) : Bool := Op.bytesLess x.data.toList y.data.toList
def strS (op : BinOp) (x y : ByteArray) : Option (Bool × Cl) :=
  match op with
  | .add => some (decide (((x.size + y.size : Nat) : Int) ≤ 9223372036854775807), .str (x ++ y))
  | .eql => some (true, .bool (eqB x y))
  | .neq => some (true, .bool (!eqB x y))
  | .lss => some (true, .bool (ltB x y))
  | .leq => some (true, .bool (ltB x y || eqB x y))
  | .gtr => some (true, .bool (!(ltB x y || eqB x y)))
  | .geq => some (true, .bool (!ltB x y))
  | _ => none
theorem strS_ok {op : BinOp} {x y : ByteArray} {g : Bool} {z : Cl} (h : strS op x y = some (g, z)) (hg : g = true) : ∃ r, z.den = .lit r ∧ strBin op x y = some r := by
  cases op <;> simp only [strS, Option.some.injEq, Prod.mk.injEq, reduceCtorEq] at h <;> obtain ⟨rfl, rfl⟩ := h <;> simp only [strBin, ByteArray.toList_eq]
  all_goals first
    | exact ⟨_, rfl, rfl⟩
    | (refine ⟨_, rfl, ?_⟩; rw [if_pos (of_decide_eq_true hg)])
def isShift : BinOp → Bool
  | .shl => true
  | .shr => true
  | _ => false
def binS (P : Program) (op : BinOp) (T : TypeId) : Cl → Cl → Option (Bool × Cl)
  | .int k a, .int k' b => bif isShift op || decide (k = k') then some (intS op k a b) else none
  | .str a, .str b => strS op a b
  | .bool a, .bool b => bif tyIs P T (· matches .bool) then (match op with
    | .eql => some (true, .bool (a == b))
    | .neq => some (true, .bool (a != b))
    | _ => none) else none
  | _, _ => none
theorem bif_some {α : Type} {c : Bool} {x : Option α} {y : α} (h : (bif c then x else none) = some y) : c = true ∧ x = some y := by
  cases c with
  | false => cases h
  | true => exact ⟨rfl, h⟩
theorem binS_ok {P : Program} {op : BinOp} {T : TypeId} {x y z : Cl} {g : Bool} (h : binS P op T x y = some (g, z)) (hg : g = true) : ∃ a b r, x.den = .lit a ∧ y.den = .lit b ∧ z.den = .lit r ∧ binA P op T a b = some r := by
  unfold binS at h
  split at h
  · rename_i k a k' b
    obtain ⟨hc, he⟩ := bif_some h
    simp only [Option.some.injEq] at he
    have h1 : (intS op k a b).1 = true := by rw [he]; exact hg
    obtain ⟨r, h2, h3⟩ := intS_ok h1
    rw [he] at h2
    refine ⟨_, _, r, rfl, rfl, h2, ?_⟩
    simp only [binA]
    rw [if_pos, h3]
    cases op <;> simp_all [isShift]
  · rename_i a b
    obtain ⟨r, h1, h2⟩ := strS_ok h hg
    exact ⟨_, _, r, rfl, rfl, h1, h2⟩
  · rename_i a b
    obtain ⟨hc, he⟩ := bif_some h
    cases op <;> simp only [Option.some.injEq, Prod.mk.injEq, reduceCtorEq] at he <;> obtain ⟨rfl, rfl⟩ := he <;> exact ⟨_, _, _, rfl, rfl, rfl, if_pos hc⟩
  · cases h
def unS (op : UnOp) : Cl → Option Cl
  | .int k n => match op with
    | .neg => some (.int k (k.wrap (0 - n)))
    | .xor => some (.int k (notI k n))
    | _ => none
  | .bool b => match op with
    | .not => some (.bool (!b))
    | _ => none
  | _ => none
theorem unS_ok {op : UnOp} {x z : Cl} (h : unS op x = some z) : ∃ a r, x.den = .lit a ∧ z.den = .lit r ∧ unA op a = some r := by
  unfold unS at h
  split at h
  · cases op <;> simp only [Option.some.injEq, reduceCtorEq] at h <;> subst h <;> exact ⟨_, _, rfl, rfl, rfl⟩
  · cases op <;> simp only [Option.some.injEq, reduceCtorEq] at h <;> subst h <;> exact ⟨_, _, rfl, rfl, rfl⟩
  · cases h

/-! ### literals -/

def litC : Value → Cl
  | .int k n => .int k n
  | .bool b => .bool b
  | .string s => .str s
  | v => .val v
theorem litC_den (v : Value) : (litC v).den = .lit v := by cases v <;> rfl
def litS : List Value → List Sg
  | [] => []
  | v :: vs => .c (litC v) :: litS vs
theorem litS_den (vs : List Value) : denS (litS vs) = vs.map .lit := by
  induction vs with
  | nil => rfl
  | cons v vs ih => rw [litS, denS_cons, ih]; simp [Sg.den, litC_den]
def constS : Value → SV
  | .agg cs => .one (.agg (litS cs.toList))
  | .tuple _ => .one (.c .junk)
  | v => .one (.c (litC v))
theorem constS_den (v : Value) : (constS v).den = constAV v := by
  cases v with
  | agg cs => show AV.agg _ = _; rw [litS_den]; rfl
  | tuple _ => rfl
  | _ => rfl
/-- The zero of a type, by parts. -/
def mapE {α β : Type} (f : α → Option β) : List α → Option (List β)
  | [] => some []
  | a :: l => match f a, mapE f l with
    | some b, some m => some (b :: m)
    | _, _ => none
def intsOf (k : IntKind) : List Value → Option (List Int)
  | [] => some []
  | .int k' n :: l => bif decide (k = k') then (intsOf k l).map (n :: ·) else none
  | _ :: _ => none
theorem intsOf_ok {k : IntKind} : ∀ {l : List Value} {m : List Int}, intsOf k l = some m → l.map AC.lit = IL k m
  | [], m, h => by cases h; rfl
  | .int k' n :: l, m, h => by
    obtain ⟨h1, h2⟩ := bif_some h
    obtain ⟨m', h3, rfl⟩ := Option.map_eq_some_iff.1 h2
    have := of_decide_eq_true h1
    subst this
    rw [List.map_cons, intsOf_ok h3]; rfl
theorem arrL_full (k : IntKind) (l : List Int) : arrL k l.length l = IL k l := by
  simp only [arrL, IL]
  apply List.ext_getElem
  · simp
  · intro i h1 h2
    simp at h1
    simp [List.getD_eq_getElem?_getD, h1]
/-- A type's parts: of how many cells each is, and which are arrays of whole numbers. -/
def partsOf (P : Program) : Nat → TypeId → List (Nat × Option IntKind)
  | 0, _ => []
  | d + 1, T => match P.underlying T with
    | some (.struct fs) => fs.toList.flatMap fun f => partsOf P d f.type
    | some (.array n E) => match P.underlying E with
      | some (.int k) => [(n, some k)]
      | _ => (List.replicate n (partsOf P d E)).flatten
    | _ => [(1, none)]
/-- Values by parts. -/
def layS : List (Nat × Option IntKind) → List Value → Option (List Sg)
  | [], [] => some []
  | [], _ :: _ => none
  | (_, none) :: ps, v :: vs => (layS ps vs).map (.c (litC v) :: ·)
  | (_, none) :: _, [] => none
  | (n, some k) :: ps, vs => match intsOf k (vs.take n), layS ps (vs.drop n) with
    | some m, some r => bif Nat.beq m.length n then some (.arr k n m :: r) else none
    | _, _ => none
theorem layS_ok : ∀ {ps : List (Nat × Option IntKind)} {vs : List Value} {r : List Sg}, layS ps vs = some r → denS r = vs.map .lit
  | [], [], r, h => by cases h; rfl
  | [], _ :: _, r, h => by cases h
  | (_, none) :: ps, v :: vs, r, h => by
    obtain ⟨r', h1, rfl⟩ := Option.map_eq_some_iff.1 h
    rw [denS_cons, layS_ok h1]; simp [Sg.den, litC_den]
  | (_, none) :: ps, [], r, h => by cases h
  | (n, some k) :: ps, vs, r, h => by
    unfold layS at h
    split at h
    · rename_i m r' h1 h2
      obtain ⟨h3, h4⟩ := bif_some h
      cases h4
      have := Nat.eq_of_beq_eq_true h3
      subst this
      have e := layS_ok h2
      have e2 := intsOf_ok h1
      rw [denS_cons, e]
      show arrL k m.length m ++ _ = _
      rw [arrL_full, ← e2, ← List.map_append, List.take_append_drop]
    · cases h
def zeroS (P : Program) (T : TypeId) : Option (List Sg) :=
  match tyZero P T with
  | some z => layS (partsOf P 8 T) z.cells.toList
  | none => none
theorem zeroS_ok {P : Program} {T : TypeId} {r : List Sg} (h : zeroS P T = some r) : ∃ z, tyZero P T = some z ∧ denS r = z.cells.toList.map .lit := by
  unfold zeroS at h
  split at h
  · rename_i z hz; exact ⟨z, hz, layS_ok h⟩
  · cases h

/-! ### reading by place -/

def loadS (P : Program) (T : TypeId) (l : List Sg) (off : Nat) : Option S1 :=
  match tyAgg P T with
  | some true => match tySize P T, dropS l off with
    | some n, some m => (takeS m n).map .agg
    | _, _ => none
  | some false => (cellAt l off).map .c
  | none => none
theorem loadS_ok {P : Program} {T : TypeId} {l : List Sg} {off : Nat} {r : S1} (h : loadS P T l off = some r) : loadA P T (denS l) off = some r.den := by
  unfold loadS at h
  unfold loadA
  cases ha : tyAgg P T with
  | none => simp [ha] at h
  | some b =>
    cases b with
    | false =>
      simp only [ha] at h ⊢
      obtain ⟨x, hx, rfl⟩ := Option.map_eq_some_iff.1 h
      rw [cellAt_ok hx]; rfl
    | true =>
      simp only [ha] at h ⊢
      split at h
      · rename_i n m hn hm
        obtain ⟨x, hx, rfl⟩ := Option.map_eq_some_iff.1 h
        obtain ⟨h1, h2⟩ := dropS_ok hm
        obtain ⟨h3, h4⟩ := takeS_ok hx
        simp only [hn]
        rw [← h1, List.length_drop] at h4
        rw [if_pos (by omega), h1, h3]; rfl
      · cases h
/-- What a cell's number at a place that is not known is. -/
def loadI (P : Program) (T : TypeId) (off : Nat) (i : Int) (z : Nat) : Ct → Option (Bool × S1)
  | .sg l => match dropS l off, tyAgg P T with
    | some (.arr k n xs :: _), some false => bif Nat.beq z 1 then some (decide (i.toNat < n), .c (.int k (xs.getD i.toNat 0))) else none
    | _, _ => none
  | .ints k l => bif Nat.beq off 0 && Nat.beq z 1 && (match tyAgg P T with | some false => true | _ => false) then some (decide (i.toNat < l.length), .c (.int k (l.getD i.toNat 0))) else none
  | .rows ks l => bif Nat.beq z ks.length then (match loadS P T (sgE (rowE (l.getD i.toNat []) ks 0)) off with
    | some r => some (decide (i.toNat < l.length), r)
    | none => none) else none
theorem loadA_prefix {P : Program} {T : TypeId} {a b : List AC} {off : Nat} {r : AV} (h : loadA P T a off = some r) : loadA P T (a ++ b) off = some r := by
  unfold loadA at h ⊢
  cases ha : tyAgg P T with
  | none => simp [ha] at h
  | some c =>
    cases c with
    | false =>
      simp only [ha] at h ⊢
      obtain ⟨x, hx, rfl⟩ := Option.map_eq_some_iff.1 h
      obtain ⟨hl, hx⟩ := List.getElem?_eq_some_iff.1 hx
      rw [List.getElem?_append_left hl, List.getElem?_eq_getElem hl, hx]; rfl
    | true =>
      simp only [ha] at h ⊢
      split at h
      · rename_i n hn
        split at h
        · rename_i hle
          rw [if_pos (by rw [List.length_append]; omega), List.drop_append_of_le_length (by omega), List.take_append_of_le_length (by rw [List.length_drop]; omega)]
          exact h
        · cases h
      · cases h
theorem loadA_drop {P : Program} {T : TypeId} {a : List AC} {m off : Nat} {r : AV} (hm : m ≤ a.length) (h : loadA P T (a.drop m) off = some r) : loadA P T a (off + m) = some r := by
  unfold loadA at h ⊢
  cases ha : tyAgg P T with
  | none => simp [ha] at h
  | some c =>
    cases c with
    | false =>
      simp only [ha] at h ⊢
      rw [List.getElem?_drop, Nat.add_comm] at h; exact h
    | true =>
      simp only [ha] at h ⊢
      split at h
      · rename_i n hn
        split at h
        · rename_i hle
          rw [List.length_drop] at hle
          rw [List.drop_drop, Nat.add_comm m off] at h
          rw [if_pos (by omega)]; exact h
        · cases h
      · cases h
theorem loadI_ok {P : Program} {T : TypeId} {off : Nat} {i : Int} {z : Nat} {ct : Ct} {g : Bool} {r : S1} (h : loadI P T off i z ct = some (g, r)) (hg : g = true) : loadA P T ct.den (off + i.toNat * z) = some r.den := by
  cases ct with
  | sg l =>
    simp only [loadI] at h
    split at h
    · rename_i k n xs m hd ha
      obtain ⟨h1, h2⟩ := bif_some h
      cases h2
      have := Nat.eq_of_beq_eq_true h1
      subst this
      have hlt := of_decide_eq_true hg
      obtain ⟨d1, d2⟩ := dropS_ok hd
      rw [Nat.add_comm]
      refine loadA_drop (a := denS l) d2 ?_
      rw [d1, denS_cons, Nat.mul_one]
      refine loadA_prefix ?_
      simp only [loadA, ha, Sg.den]
      rw [arrL_get _ _ _ _ hlt]; rfl
    · cases h
  | ints k l =>
    simp only [loadI] at h
    obtain ⟨h1, h2⟩ := bif_some h
    cases h2
    simp only [Bool.and_eq_true] at h1
    obtain ⟨⟨h1, h2⟩, h3⟩ := h1
    have := Nat.eq_of_beq_eq_true h1
    subst this
    have := Nat.eq_of_beq_eq_true h2
    subst this
    have ha : tyAgg P T = some false := by
      cases ha : tyAgg P T with
      | none => simp [ha] at h3
      | some c => cases c with
        | false => rfl
        | true => simp [ha] at h3
    have hlt := of_decide_eq_true hg
    simp only [loadA, ha, Ct.den, Nat.zero_add, Nat.mul_one]
    rw [IL_get k l hlt]; rfl
  | rows ks l =>
    simp only [loadI] at h
    obtain ⟨h1, h2⟩ := bif_some h
    have := Nat.eq_of_beq_eq_true h1
    subst this
    split at h2
    · rename_i r' h3
      cases h2
      have hlt := of_decide_eq_true hg
      have e := loadS_ok h3
      rw [sgE_den, rowE_den] at e
      refine loadA_drop (a := (Ct.rows ks l).den) ?_ ?_
      · show _ ≤ (rowsL ks l).length
        rw [rowsL_length]; exact Nat.mul_le_mul_right _ (by omega)
      · show loadA P T ((rowsL ks l).drop _) off = _
        rw [rowsL_at ks hlt]; exact loadA_prefix e
    · cases h2

/-! ### writing by place -/

def segsOf : SV → Option (List Sg)
  | .one (.c x) => bif x.single then some [.c x] else none
  | .one (.agg l) => bif allB Sg.single l then some l else none
  | .tup _ => none
theorem segsOf_ok {x : SV} {l : List Sg} (h : segsOf x = some l) : cellsOf x.den = some (denS l) := by
  cases x with
  | one x =>
    cases x with
    | c x =>
      obtain ⟨h1, h2⟩ := bif_some h
      cases h2
      simp only [SV.den, S1.den, cellsOf, Cl.single_den, h1, if_true]; simp [denS, Sg.den]
    | agg m =>
      obtain ⟨h1, h2⟩ := bif_some h
      cases h2
      show (if (denS l).all (·.single) = true then some (denS l) else none) = _
      rw [denS_single, h1, if_pos rfl]
  | tup _ => cases h
/-- How many cells. -/
def lenS : List Sg → Nat
  | [] => 0
  | .c _ :: l => lenS l + 1
  | .arr _ n _ :: l => n + lenS l
theorem lenS_ok (l : List Sg) : lenS l = (denS l).length := by
  induction l with
  | nil => rfl
  | cons x l ih => cases x with
    | c x => rw [lenS, ih, denS_cons, List.length_append]; simp [Sg.den]; omega
    | arr k n xs => rw [lenS, ih, denS_cons, List.length_append]; simp [Sg.den, arrL_length]
def setD (n : Nat) (l : List Int) (i : Nat) (x : Int) : List Int := (l ++ List.replicate (n - l.length) 0).set i x
theorem setD_eq {n : Nat} {l : List Int} (h : l.length = n) (i : Nat) (x : Int) : setD n l i x = l.set i x := by simp [setD, h]
theorem arrL_set (k : IntKind) (n : Nat) (l : List Int) (i : Nat) (x : Int) (h : i < n) : arrL k n (setD n l i x) = (arrL k n l).take i ++ [.lit (.int k x)] ++ (arrL k n l).drop (i + 1) := by
  have e : (arrL k n l).take i ++ [AC.lit (.int k x)] ++ (arrL k n l).drop (i + 1) = (arrL k n l).set i (.lit (.int k x)) := by
    rw [List.set_eq_take_append_cons_drop, if_pos (by rw [arrL_length]; exact h)]; simp
  rw [e]
  apply List.ext_getElem?
  intro j
  rw [List.getElem?_set]
  by_cases hj : j < n
  · rw [arrL_get _ _ _ _ hj, arrL_get _ _ _ _ hj]
    have hl : i < (l ++ List.replicate (n - l.length) (0 : Int)).length := by simp; omega
    by_cases e : i = j
    · subst e
      rw [if_pos rfl, if_pos (by rw [arrL_length]; exact h)]
      simp only [setD, List.getD_eq_getElem?_getD, List.getElem?_set_self hl, Option.getD_some]
    · rw [if_neg e]
      simp only [setD, List.getD_eq_getElem?_getD, List.getElem?_set_ne e]
      by_cases g : j < l.length
      · rw [List.getElem?_append_left g]
      · rw [List.getElem?_append_right (by omega), List.getElem?_eq_none (show l.length ≤ j by omega), List.getElem?_replicate]
        split <;> rfl
  · rw [List.getElem?_eq_none (by rw [arrL_length]; omega), List.getElem?_eq_none (by rw [arrL_length]; omega), if_neg (by omega)]
/-- A number into an array's cell: the array starts ahead of it. -/
def putA : List Sg → Nat → Cl → Option (List Sg)
  | .c y :: l, o + 1, x => (putA l o x).map (.c y :: ·)
  | .arr k n xs :: l, o, x => bif Nat.blt o n then (match x with
      | .int k' v => bif decide (k = k') then some (.arr k n (setD n xs o v) :: l) else none
      | _ => none) else (putA l (o - n) x).map (.arr k n xs :: ·)
  | _, _, _ => none
theorem spliceA_cons_ge (c : List AC) (l m : List AC) (o : Nat) (h : c.length ≤ o) : spliceA (c ++ l) m o = c ++ spliceA l m (o - c.length) := by
  simp only [spliceA]
  rw [List.take_append, List.take_of_length_le h, List.drop_append, List.drop_of_length_le (by omega), List.nil_append, show o + m.length - c.length = o - c.length + m.length by omega]
  simp
theorem putA_ok : ∀ {l : List Sg} {o : Nat} {x : Cl} {r : List Sg}, putA l o x = some r → denS r = spliceA (denS l) [x.den] o ∧ o + 1 ≤ (denS l).length
  | [], _, _, _, h => by simp [putA] at h
  | .c y :: l, 0, x, r, h => by simp [putA] at h
  | .c y :: l, o + 1, x, r, h => by
    obtain ⟨r', h1, rfl⟩ := Option.map_eq_some_iff.1 (show (putA l o x).map (Sg.c y :: ·) = some r from h)
    obtain ⟨h2, h3⟩ := putA_ok h1
    rw [denS_cons, denS_cons, h2, spliceA_cons_ge _ _ _ _ (by simp [Sg.den])]
    exact ⟨rfl, by simp [Sg.den]; omega⟩
  | .arr k n xs :: l, o, x, r, h => by
    unfold putA at h
    cases hb : Nat.blt o n with
    | true =>
      rw [hb] at h
      have hlt := (blt_iff _ _).1 hb
      simp only [cond_true] at h
      split at h
      · rename_i k' v
        obtain ⟨h1, h2⟩ := bif_some h
        cases h2
        have := of_decide_eq_true h1
        subst this
        rw [denS_cons, denS_cons]
        show arrL k n (setD n xs o v) ++ denS l = spliceA (arrL k n xs ++ denS l) [AC.lit (.int k v)] o ∧ o + 1 ≤ (arrL k n xs ++ denS l).length
        rw [arrL_set k n xs o v hlt]
        have e1 : (arrL k n xs).length = n := arrL_length k n xs
        refine ⟨?_, by rw [List.length_append]; omega⟩
        simp only [spliceA, List.length_singleton]
        rw [List.take_append_of_le_length (by omega), List.drop_append_of_le_length (by omega)]
        simp
      · cases h
    | false =>
      rw [hb] at h
      have hge := (blt_not _ _).1 hb
      obtain ⟨r', h1, rfl⟩ := Option.map_eq_some_iff.1 (show (putA l (o - n) x).map (Sg.arr k n xs :: ·) = some r from h)
      obtain ⟨h2, h3⟩ := putA_ok h1
      rw [denS_cons, denS_cons, h2]
      show arrL k n xs ++ _ = spliceA (arrL k n xs ++ denS l) _ _ ∧ _
      rw [spliceA_cons_ge _ _ _ _ (by rw [arrL_length]; exact hge), arrL_length]
      exact ⟨rfl, by show _ ≤ (arrL k n xs ++ denS l).length; rw [List.length_append, arrL_length]; omega⟩
/-- Parts are put into others' place. -/
def putS (l : List Sg) (o : Nat) (m : List Sg) : Option (List Sg) :=
  match takeS l o, dropS l (o + lenS m) with
  | some a, some b => some (a ++ (m ++ b))
  | _, _ => match m with
    | [.c x] => putA l o x
    | _ => none
theorem putS_ok {l : List Sg} {o : Nat} {m r : List Sg} (h : putS l o m = some r) : denS r = spliceA (denS l) (denS m) o ∧ o + (denS m).length ≤ (denS l).length := by
  unfold putS at h
  split at h
  · rename_i a b ha hb
    cases h
    obtain ⟨a1, a2⟩ := takeS_ok ha
    obtain ⟨b1, b2⟩ := dropS_ok hb
    rw [lenS_ok] at b1 b2
    rw [denS_append, denS_append, ← a1, ← b1]
    exact ⟨by simp [spliceA], b2⟩
  · split at h
    · have := putA_ok h
      simpa [denS, Sg.den] using this
    · cases h
/-- A row with another datum at a place. -/
def datum : Kd → Cl → Option D
  | .int k, .int k' n => bif decide (k = k') then some (.i n) else none
  | .bool, .bool b => some (.b b)
  | .str, .str s => some (.s s)
  | .ints k, .ints k' l => bif decide (k = k') then some (.l l) else none
  | .ints k, .val (.slice none 0 0) => none
  | _, _ => none
theorem datum_ok {k : Kd} {x : Cl} {d : D} (h : datum k x = some d) : k.den d = x.den := by
  unfold datum at h
  split at h
  · obtain ⟨h1, h2⟩ := bif_some h; cases h2; have := of_decide_eq_true h1; subst this; rfl
  · cases h; rfl
  · cases h; rfl
  · obtain ⟨h1, h2⟩ := bif_some h; cases h2; have := of_decide_eq_true h1; subst this; rfl
  · cases h
  · cases h
/-- Cells as an element's data. -/
def rowOf : List Kd → List Sg → Option (List D)
  | [], [] => some []
  | k :: ks, .c x :: l => match datum k x, rowOf ks l with
    | some d, some r => some (d :: r)
    | _, _ => none
  | _, _ => none
theorem cellsK_shift (d : D) (row : List D) : ∀ (ks : List Kd) (j : Nat), cellsK (d :: row) ks (j + 1) = cellsK row ks j
  | [], _ => rfl
  | k :: ks, j => by
    rw [cellsK, cellsK, cellsK_shift d row ks (j + 1)]; rfl
theorem rowOf_ok : ∀ {ks : List Kd} {l : List Sg} {r : List D}, rowOf ks l = some r → denS l = cellsK r ks 0
  | [], [], r, h => by cases h; rfl
  | k :: ks, .c x :: l, r, h => by
    unfold rowOf at h
    split at h
    · rename_i d r' h1 h2
      cases h
      rw [denS_cons, rowOf_ok h2, cellsK, cellsK_shift]
      show [x.den] ++ _ = k.den d :: _
      rw [datum_ok h1]; rfl
    · cases h
  | [], _ :: _, r, h => by simp [rowOf] at h
  | k :: ks, [], r, h => by simp [rowOf] at h
  | k :: ks, .arr .. :: l, r, h => by simp [rowOf] at h
def storeI (off : Nat) (i : Int) (z : Nat) (m : List Sg) : Ct → Option (Bool × Ct)
  | .sg l => match takeS l off, dropS l off, m with
    | some a, some (.arr k n xs :: b), [.c (.int k' v)] => bif Nat.beq z 1 && decide (k = k') then some (decide (i.toNat < n), .sg (a ++ (.arr k n (setD n xs i.toNat v) :: b))) else none
    | _, _, _ => none
  | .ints k l => match m with
    | [.c (.int k' v)] => bif Nat.beq off 0 && Nat.beq z 1 && decide (k = k') then some (decide (i.toNat < l.length), .ints k (l.set i.toNat v)) else none
    | _ => none
  | .rows ks l => bif Nat.beq z ks.length then (match putS (sgE (rowE (l.getD i.toNat []) ks 0)) off m with
      | some s => (match rowOf ks s with
        | some r => some (decide (i.toNat < l.length), .rows ks (l.set i.toNat r))
        | none => none)
      | none => none) else none
theorem spliceA_drop {l m : List AC} {o p : Nat} (h : p ≤ l.length) : spliceA l m (o + p) = l.take p ++ spliceA (l.drop p) m o := by
  simp only [spliceA, List.drop_drop]
  rw [show p + (o + m.length) = o + p + m.length by omega]
  have : l.take (o + p) = l.take p ++ (l.drop p).take o := by
    rw [Nat.add_comm, List.take_add]
  rw [this]; simp
theorem spliceA_prefix {a b m : List AC} {o : Nat} (h : o + m.length ≤ a.length) : spliceA (a ++ b) m o = spliceA a m o ++ b := by
  simp only [spliceA]
  rw [List.take_append_of_le_length (by omega), List.drop_append_of_le_length (by omega)]
  simp
theorem IL_set (k : IntKind) (l : List Int) (i : Nat) (v : Int) (h : i < l.length) : IL k (l.set i v) = spliceA (IL k l) [.lit (.int k v)] i := by
  simp only [spliceA, List.length_singleton, IL]
  rw [List.map_set, List.set_eq_take_append_cons_drop, if_pos (by simpa using h)]; simp
theorem rowsL_set (ks : List Kd) (l : List (List D)) (i : Nat) (r : List D) (h : i < l.length) : rowsL ks (l.set i r) = rowsL ks (l.take i) ++ cellsK r ks 0 ++ rowsL ks (l.drop (i + 1)) := by
  rw [List.set_eq_take_append_cons_drop, if_pos h, rowsL_append, rowsL_cons, List.append_assoc]
theorem storeI_ok {off : Nat} {i : Int} {z : Nat} {m : List Sg} {ct ct' : Ct} {g : Bool} (h : storeI off i z m ct = some (g, ct')) (hg : g = true) :
    ct'.den = spliceA ct.den (denS m) (off + i.toNat * z) ∧ off + i.toNat * z + (denS m).length ≤ ct.den.length := by
  cases ct with
  | sg l =>
    simp only [storeI] at h
    split at h
    · rename_i a k n xs b k' v ha hd
      obtain ⟨h1, h2⟩ := bif_some h
      cases h2
      simp only [Bool.and_eq_true, decide_eq_true_eq] at h1
      obtain ⟨hz, rfl⟩ := h1
      have := Nat.eq_of_beq_eq_true hz
      subst this
      have hlt := of_decide_eq_true hg
      obtain ⟨a1, a2⟩ := takeS_ok ha
      obtain ⟨d1, d2⟩ := dropS_ok hd
      show denS _ = spliceA (denS l) _ _ ∧ _ ≤ (denS l).length
      have hlen : (denS l).length = off + (n + (denS b).length) := by
        have := congrArg List.length d1
        rw [List.length_drop, denS_cons, List.length_append] at this
        simp only [Sg.den, arrL_length] at this
        omega
      refine ⟨?_, by rw [hlen]; simp [denS, Sg.den]; omega⟩
      rw [Nat.mul_one, Nat.add_comm off, spliceA_drop d2, d1, a1, denS_append, denS_cons, denS_cons]
      congr 1
      rw [show denS [Sg.c (.int k v)] = [AC.lit (.int k v)] by rfl]
      show arrL k n (setD n xs _ v) ++ _ = spliceA (arrL k n xs ++ _) _ _
      rw [spliceA_prefix (by rw [arrL_length]; simp; omega), arrL_set k n xs _ v hlt]; rfl
    · cases h
  | ints k l =>
    simp only [storeI] at h
    split at h
    · rename_i k' v
      obtain ⟨h1, h2⟩ := bif_some h
      cases h2
      simp only [Bool.and_eq_true, decide_eq_true_eq] at h1
      obtain ⟨⟨ho, hz⟩, rfl⟩ := h1
      have := Nat.eq_of_beq_eq_true ho
      subst this
      have := Nat.eq_of_beq_eq_true hz
      subst this
      have hlt := of_decide_eq_true hg
      show IL k _ = spliceA (IL k l) _ _ ∧ _ ≤ (IL k l).length
      rw [Nat.zero_add, Nat.mul_one, IL_length]
      exact ⟨IL_set k l _ v hlt, by simp [denS, Sg.den]; omega⟩
    · cases h
  | rows ks l =>
    simp only [storeI] at h
    obtain ⟨h1, h2⟩ := bif_some h
    have := Nat.eq_of_beq_eq_true h1
    subst this
    split at h2
    · rename_i s hs
      split at h2
      case h_2 => cases h2
      rename_i r h3
      cases h2
      have hlt := of_decide_eq_true hg
      obtain ⟨s1, s2⟩ := putS_ok hs
      rw [sgE_den, rowE_den] at s1 s2
      rw [cellsK_length] at s2
      show rowsL ks _ = spliceA (rowsL ks l) _ _ ∧ _ ≤ (rowsL ks l).length
      have hle : i.toNat * ks.length ≤ (rowsL ks l).length := by rw [rowsL_length]; exact Nat.mul_le_mul_right _ (by omega)
      refine ⟨?_, ?_⟩
      · rw [spliceA_drop hle, rowsL_at ks hlt, spliceA_prefix (by rw [cellsK_length]; exact s2), ← s1, rowOf_ok h3, rowsL_set ks l _ r hlt, rowsL_take, List.append_assoc]
      · rw [rowsL_length]
        have : (i.toNat + 1) * ks.length ≤ l.length * ks.length := Nat.mul_le_mul_right _ hlt
        rw [Nat.succ_mul] at this
        omega
    · cases h2
end Go.Sy
