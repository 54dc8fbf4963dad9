/-
  A symbolic executor over abstract states, part 9: the rules by which simp evaluates.
-/
import Derived.Test.YtnhdfmnmciminaaDoorEvEval
import Derived.Laws.Strings
namespace Go.Ev
set_option linter.unusedSimpArgs false
set_option linter.unusedVariables false

/-! ### what an operation does, constructor by constructor -/
section effs
variable {P : Program}

def pickE : AV → AV → AV → Option Eff
  | .c (.lit (.bool t)), a, b => some ([], bif t then a else b, [])
  | _, _, _ => none
@[go_sem high] theorem pickE_t (a b : AV) : pickE (.c (.lit (.bool true))) a b = some ([], a, []) := rfl
@[go_sem high] theorem pickE_f (a b : AV) : pickE (.c (.lit (.bool false))) a b = some ([], b, []) := rfl
@[go_sem] theorem pickE_bool (t x y : Bool) : pickE (.c (.lit (.bool t))) (.c (.lit (.bool x))) (.c (.lit (.bool y))) = some ([], .c (.lit (.bool (bif t then x else y))), []) := by cases t <;> rfl
@[go_sem] theorem pickE_int (t : Bool) (k : IntKind) (x y : Int) : pickE (.c (.lit (.bool t))) (.c (.lit (.int k x))) (.c (.lit (.int k y))) = some ([], .c (.lit (.int k (bif t then x else y))), []) := by cases t <;> rfl
@[go_sem] theorem pickE_string (t : Bool) (x y : ByteArray) : pickE (.c (.lit (.bool t))) (.c (.lit (.string x))) (.c (.lit (.string y))) = some ([], .c (.lit (.string (bif t then x else y))), []) := by cases t <;> rfl

theorem single_int (k : IntKind) (n : Int) : AC.single (.lit (.int k n)) = true := rfl
theorem single_bool (b : Bool) : AC.single (.lit (.bool b)) = true := rfl
theorem single_string (b : ByteArray) : AC.single (.lit (.string b)) = true := rfl
theorem single_pointer (p : Option Addr) : AC.single (.lit (.pointer p)) = true := rfl
theorem single_slice (p : Option Addr) (n c : Nat) : AC.single (.lit (.slice p n c)) = true := rfl
theorem single_ptr (b o : Nat) : AC.single (.ptr b o) = true := rfl
theorem single_sl (b n z : Nat) (l : Bool) : AC.single (.sl b n z l) = true := rfl
theorem single_list (n : Nat) (l : List AC) : AC.single (.list n l) = true := rfl
theorem single_iptr (l : List AC) : AC.single (.iptr l) = true := rfl
theorem single_opq (p : Mem → Value → Prop) : AC.single (.opq p) = true := rfl
def singles (cs : List AC) : Bool := cs.all (·.single)
theorem singles_nil : singles [] = true := rfl
theorem singles_cons (a : AC) (cs : List AC) : singles (a :: cs) = (a.single && singles cs) := rfl
theorem cellsOf_c (a : AC) : cellsOf (.c a) = bif a.single then some [a] else none := by
  simp only [cellsOf]; cases a.single <;> rfl
theorem cellsOf_agg (cs : List AC) : cellsOf (.agg cs) = bif singles cs then some cs else none := by
  simp only [cellsOf, singles]; cases (cs.all (·.single)) <;> rfl
attribute [go_sem] single_int single_bool single_string single_pointer single_slice single_ptr single_sl single_list single_iptr single_opq singles_nil singles_cons cellsOf_c cellsOf_agg

theorem menL_nil (d : Nat) : menL d [] = false := rfl
theorem menL_cons (d : Nat) (a : AC) (cs : List AC) : menL d (a :: cs) = (a.men d || menL d cs) := rfl
theorem men_lit (v : Value) (b : Nat) : (AC.lit v).men b = false := rfl
theorem men_list (n : Nat) (l : List AC) (b : Nat) : (AC.list n l).men b = false := rfl
theorem men_iptr (l : List AC) (b : Nat) : (AC.iptr l).men b = false := rfl
theorem men_opq (p : Mem → Value → Prop) (b : Nat) : (AC.opq p).men b = false := rfl
theorem men_junk (b : Nat) : AC.junk.men b = false := rfl
theorem men_ptr (b' o b : Nat) : (AC.ptr b' o).men b = (b' == b) := rfl
theorem men_sl (b' n z : Nat) (l : Bool) (b : Nat) : (AC.sl b' n z l).men b = (b' == b) := rfl
theorem menA_c (a : AC) (b : Nat) : (AV.c a).men b = a.men b := rfl
theorem menA_agg (cs : List AC) (b : Nat) : (AV.agg cs).men b = menL b cs := rfl
def menT (b : Nat) (xs : List AV) : Bool := xs.any (men1 b)
theorem menA_tup (xs : List AV) (b : Nat) : (AV.tup xs).men b = menT b xs := rfl
theorem menT_nil (b : Nat) : menT b [] = false := rfl
theorem menT_c (b : Nat) (a : AC) (xs : List AV) : menT b (.c a :: xs) = (a.men b || menT b xs) := rfl
theorem menT_agg (b : Nat) (cs : List AC) (xs : List AV) : menT b (.agg cs :: xs) = (menL b cs || menT b xs) := rfl
theorem boxmen (cs : List AC) (p : Nat) (n : Bool) (b : Nat) : (Box.mk cs p n false).men b = menL b cs := rfl
theorem boxmen_row (cs : List AC) (p : Nat) (n : Bool) (b : Nat) : (Box.mk cs p n true).men b = false := rfl
attribute [go_sem] menL_nil menL_cons men_lit men_list men_iptr men_opq men_junk men_ptr men_sl menA_c menA_agg menA_tup menT_nil menT_c menT_agg boxmen boxmen_row

theorem const_int (k : IntKind) (n : Int) : constAV (.int k n) = .c (.lit (.int k n)) := rfl
theorem const_bool (b : Bool) : constAV (.bool b) = .c (.lit (.bool b)) := rfl
theorem const_string (b : ByteArray) : constAV (.string b) = .c (.lit (.string b)) := rfl
theorem const_pointer (p : Option Addr) : constAV (.pointer p) = .c (.lit (.pointer p)) := rfl
theorem const_slice (p : Option Addr) (n c : Nat) : constAV (.slice p n c) = .c (.lit (.slice p n c)) := rfl
theorem const_agg (cs : List Value) : constAV (.agg cs.toArray) = .agg (cs.map .lit) := rfl
attribute [go_sem] const_int const_bool const_string const_pointer const_slice const_agg

def boxE (d : Nat) (pre : Option Box) : Option (List AC) → Option Eff
  | some cs => if pre = none ∧ menL d cs = false then some ([], .c (.ptr d 0), [(d, some ⟨cs, 0, false, false⟩)]) else none
  | none => none
@[go_sem] theorem boxE_some (d : Nat) (pre : Option Box) (cs : List AC) : boxE d pre (some cs) = if pre = none ∧ menL d cs = false then some ([], .c (.ptr d 0), [(d, some ⟨cs, 0, false, false⟩)]) else none := rfl
def zeroL (P : Program) (T : TypeId) : Option (List AC) := (tyZero P T).map fun z => z.cells.toList.map .lit
def allocE (d : Nat) (pre : Option Box) : Option (List AC) → Option Eff
  | some cs => if pre = none then some ([], .c (.ptr d 0), [(d, some ⟨cs, 0, false, false⟩)]) else none
  | none => none
@[go_sem] theorem allocE_some (d : Nat) (pre : Option Box) (cs : List AC) : allocE d pre (some cs) = if pre = none then some ([], .c (.ptr d 0), [(d, some ⟨cs, 0, false, false⟩)]) else none := rfl

def loadB (P : Program) (T : TypeId) (b off : Nat) : Option Box → Option Eff
  | some ⟨cs, _, false, _⟩ => (loadA P T cs off).map fun r => ([b], r, [])
  | _ => none
@[go_sem] theorem loadB_some (T : TypeId) (b off : Nat) (cs : List AC) (p : Nat) (r : Bool) : loadB P T b off (some ⟨cs, p, false, r⟩) = (loadA P T cs off).map fun r => ([b], r, []) := rfl
def loadE (P : Program) (T : TypeId) (pre : Nat → Option Box) : AV → Option Eff
  | .c (.ptr b off) => loadB P T b off (pre b)
  | .c (.iptr flat) => (loadA P T flat 0).map fun r => ([], r, [])
  | _ => none
@[go_sem] theorem loadE_ptr (T : TypeId) (s : St) (b off : Nat) : loadE P T s.box (.c (.ptr b off)) = loadB P T b off (s.box b) := rfl
@[go_sem] theorem loadE_iptr (T : TypeId) (pre : Nat → Option Box) (flat : List AC) : loadE P T pre (.c (.iptr flat)) = (loadA P T flat 0).map fun r => ([], r, []) := rfl

def loadG (n : Nat) (cells : List AC) (off : Nat) : Option AV := if off + n ≤ cells.length then some (.agg ((cells.drop off).take n)) else none
@[go_sem] theorem loadG_eq (n : Nat) (cells : List AC) (off : Nat) : loadG n cells off = if off + n ≤ cells.length then some (.agg ((cells.drop off).take n)) else none := rfl
def loadC (cells : List AC) (off : Nat) : Option AV := (cells[off]?).map .c
@[go_sem] theorem loadC_zero (a : AC) (cs : List AC) : loadC (a :: cs) 0 = some (.c a) := rfl
@[go_sem] theorem loadC_succ (a : AC) (cs : List AC) (i : Nat) : loadC (a :: cs) (i + 1) = loadC cs i := rfl
theorem ld_c {T : TypeId} (h : tyAgg P T = some false) (cells : List AC) (off : Nat) : loadA P T cells off = loadC cells off := by simp [loadA, h, loadC]
theorem ld_agg {T : TypeId} {n : Nat} (h : tyAgg P T = some true) (h2 : tySize P T = some n) (cells : List AC) (off : Nat) : loadA P T cells off = loadG n cells off := by simp [loadA, h, h2, loadG]

def storeB (b off : Nat) : Option Nat → Option Box → Option (List AC) → Option Eff
  | some n, some ⟨cells, pub, false, row⟩, some cs =>
    if n = cs.length ∧ pub ≤ off ∧ off + cs.length ≤ cells.length ∧ (row = true → cs.all (·.pure) = true) then some ([], .c .junk, [(b, some ⟨spliceA cells cs off, pub, false, row⟩)]) else none
  | _, _, _ => none
@[go_sem] theorem storeB_f (n b off : Nat) (cells : List AC) (pub : Nat) (cs : List AC) : storeB b off (some n) (some ⟨cells, pub, false, false⟩) (some cs) =
    if n = cs.length ∧ pub ≤ off ∧ off + cs.length ≤ cells.length then some ([], .c .junk, [(b, some ⟨spliceA cells cs off, pub, false, false⟩)]) else none := by simp [storeB]
@[go_sem] theorem storeB_t (n b off : Nat) (cells : List AC) (pub : Nat) (cs : List AC) : storeB b off (some n) (some ⟨cells, pub, false, true⟩) (some cs) =
    if n = cs.length ∧ pub ≤ off ∧ off + cs.length ≤ cells.length ∧ cs.all (·.pure) = true then some ([], .c .junk, [(b, some ⟨spliceA cells cs off, pub, false, true⟩)]) else none := by simp [storeB]
@[go_sem] theorem spliceA_nil (cells : List AC) : spliceA cells [] 0 = cells := rfl
@[go_sem] theorem spliceA_cons (c a : AC) (cells cs : List AC) : spliceA (c :: cells) (a :: cs) 0 = a :: spliceA cells cs 0 := by simp [spliceA]
@[go_sem] theorem spliceA_succ (c : AC) (cells cs : List AC) (i : Nat) : spliceA (c :: cells) cs (i + 1) = c :: spliceA cells cs i := by
  simp [spliceA, Nat.add_right_comm]
def storeE (P : Program) (T : TypeId) (pre : Nat → Option Box) (y : AV) : AV → Option Eff
  | .c (.ptr b off) => storeB b off (tySize P T) (pre b) (cellsOf y)
  | _ => none
@[go_sem] theorem storeE_ptr (T : TypeId) (s : St) (y : AV) (b off : Nat) : storeE P T s.box y (.c (.ptr b off)) = storeB b off (tySize P T) (s.box b) (cellsOf y) := rfl

def nilE : AV → Option Eff
  | .c (.ptr b off) => some ([], .c (.ptr b off), [])
  | .c (.iptr f) => some ([], .c (.iptr f), [])
  | _ => none
@[go_sem] theorem nilE_ptr (b off : Nat) : nilE (.c (.ptr b off)) = some ([], .c (.ptr b off), []) := rfl
@[go_sem] theorem nilE_iptr (f : List AC) : nilE (.c (.iptr f)) = some ([], .c (.iptr f), []) := rfl

def binE (P : Program) (o : BinOp) (T : TypeId) : AV → AV → Option Eff
  | .c (.lit a), .c (.lit b) => (binA P o T a b).map fun r => ([], .c (.lit r), [])
  | .agg as, .agg bs => if o = .eql ∨ o = .neq then (eqT P T as bs).map fun r => ([], .c (.lit (.bool (r == decide (o = .eql)))), []) else none
  | _, _ => none
@[go_sem] theorem binE_aeql (T : TypeId) (as bs : List AC) : binE P .eql T (.agg as) (.agg bs) = (eqT P T as bs).map fun r => ([], .c (.lit (.bool r)), []) := by simp [binE]
@[go_sem] theorem binE_aneq (T : TypeId) (as bs : List AC) : binE P .neq T (.agg as) (.agg bs) = (eqT P T as bs).map fun r => ([], .c (.lit (.bool !r)), []) := by simp [binE]
def tyB (P : Program) (T : TypeId) : Bool := tyIs P T (· matches .bool)
@[go_sem] theorem binE_beql (T : TypeId) (a b : Bool) : binE P .eql T (.c (.lit (.bool a))) (.c (.lit (.bool b))) = if tyB P T = true then some ([], .c (.lit (.bool (a == b))), []) else none := by
  have e : binE P .eql T (.c (.lit (.bool a))) (.c (.lit (.bool b))) = (if tyB P T = true then some (Value.bool (a == b)) else none).map fun r => ([], .c (.lit r), []) := rfl
  rw [e]; cases tyB P T <;> rfl
@[go_sem] theorem binE_bneq (T : TypeId) (a b : Bool) : binE P .neq T (.c (.lit (.bool a))) (.c (.lit (.bool b))) = if tyB P T = true then some ([], .c (.lit (.bool (a != b))), []) else none := by
  have e : binE P .neq T (.c (.lit (.bool a))) (.c (.lit (.bool b))) = (if tyB P T = true then some (Value.bool (a != b)) else none).map fun r => ([], .c (.lit r), []) := rfl
  rw [e]; cases tyB P T <;> rfl
@[go_sem] theorem biA_min (C : Cfg) (k k' : IntKind) (a b : Int) : biA C .min [.c (.lit (.int k a)), .c (.lit (.int k' b))] = some ([], .c (.lit (.int k (if b < a then b else a))), []) := rfl
@[go_sem] theorem biA_max (C : Cfg) (k k' : IntKind) (a b : Int) : biA C .max [.c (.lit (.int k a)), .c (.lit (.int k' b))] = some ([], .c (.lit (.int k (if a < b then b else a))), []) := rfl
section
variable (T : TypeId) (k : IntKind) (a b : Int) (x y : ByteArray)
@[go_sem] theorem binE_add : binE P .add T (.c (.lit (.int k a))) (.c (.lit (.int k b))) = some ([], .c (.lit (.int k (k.wrap (a + b)))), []) := by simp [binE, binA, intBin]
@[go_sem] theorem binE_sub : binE P .sub T (.c (.lit (.int k a))) (.c (.lit (.int k b))) = some ([], .c (.lit (.int k (k.wrap (a - b)))), []) := by simp [binE, binA, intBin]
@[go_sem] theorem binE_mul : binE P .mul T (.c (.lit (.int k a))) (.c (.lit (.int k b))) = some ([], .c (.lit (.int k (k.wrap (a * b)))), []) := by simp [binE, binA, intBin]
@[go_sem] theorem binE_quo : binE P .quo T (.c (.lit (.int k a))) (.c (.lit (.int k b))) = if b ≠ 0 then some ([], .c (.lit (.int k (k.wrap (a.tdiv b)))), []) else none := by
  by_cases h : b = 0 <;> simp [binE, binA, intBin, h]
@[go_sem] theorem binE_rem : binE P .rem T (.c (.lit (.int k a))) (.c (.lit (.int k b))) = if b ≠ 0 then some ([], .c (.lit (.int k (a.tmod b))), []) else none := by
  by_cases h : b = 0 <;> simp [binE, binA, intBin, h]
@[go_sem] theorem binE_and : binE P .and T (.c (.lit (.int k a))) (.c (.lit (.int k b))) = some ([], .c (.lit (.int k (k.wrap (BitVec.ofInt k.bits a &&& BitVec.ofInt k.bits b).toNat))), []) := by simp [binE, binA, intBin]
@[go_sem] theorem binE_or : binE P .or T (.c (.lit (.int k a))) (.c (.lit (.int k b))) = some ([], .c (.lit (.int k (k.wrap (BitVec.ofInt k.bits a ||| BitVec.ofInt k.bits b).toNat))), []) := by simp [binE, binA, intBin]
@[go_sem] theorem binE_xor : binE P .xor T (.c (.lit (.int k a))) (.c (.lit (.int k b))) = some ([], .c (.lit (.int k (k.wrap (BitVec.ofInt k.bits a ^^^ BitVec.ofInt k.bits b).toNat))), []) := by simp [binE, binA, intBin]
@[go_sem] theorem binE_andNot : binE P .andNot T (.c (.lit (.int k a))) (.c (.lit (.int k b))) = some ([], .c (.lit (.int k (k.wrap (BitVec.ofInt k.bits a &&& ~~~BitVec.ofInt k.bits b).toNat))), []) := by simp [binE, binA, intBin]
@[go_sem] theorem binE_eql : binE P .eql T (.c (.lit (.int k a))) (.c (.lit (.int k b))) = some ([], .c (.lit (.bool (decide (a = b)))), []) := by simp [binE, binA, intBin]; rfl
@[go_sem] theorem binE_neq : binE P .neq T (.c (.lit (.int k a))) (.c (.lit (.int k b))) = some ([], .c (.lit (.bool (!decide (a = b)))), []) := by simp [binE, binA, intBin]; rfl
@[go_sem] theorem binE_lss : binE P .lss T (.c (.lit (.int k a))) (.c (.lit (.int k b))) = some ([], .c (.lit (.bool (decide (a < b)))), []) := by simp [binE, binA, intBin]
@[go_sem] theorem binE_leq : binE P .leq T (.c (.lit (.int k a))) (.c (.lit (.int k b))) = some ([], .c (.lit (.bool (decide (a ≤ b)))), []) := by simp [binE, binA, intBin]
@[go_sem] theorem binE_gtr : binE P .gtr T (.c (.lit (.int k a))) (.c (.lit (.int k b))) = some ([], .c (.lit (.bool (decide (b < a)))), []) := by simp [binE, binA, intBin]
@[go_sem] theorem binE_geq : binE P .geq T (.c (.lit (.int k a))) (.c (.lit (.int k b))) = some ([], .c (.lit (.bool (decide (b ≤ a)))), []) := by simp [binE, binA, intBin]
@[go_sem] theorem binE_sadd : binE P .add T (.c (.lit (.string x))) (.c (.lit (.string y))) = if ((x.size + y.size : Nat) : Int) ≤ 9223372036854775807 then some ([], .c (.lit (.string (x ++ y))), []) else none := by
  by_cases h : ((x.size + y.size : Nat) : Int) ≤ 9223372036854775807 <;> simp only [binE, binA, strBin, h, if_true, if_false] <;> rfl
@[go_sem] theorem binE_seql : binE P .eql T (.c (.lit (.string x))) (.c (.lit (.string y))) = some ([], .c (.lit (.bool (decide (x = y)))), []) := by
  have : (x.toList == y.toList) = decide (x = y) := by
    by_cases h : x = y
    · subst h; simp
    · simp [h]; intro e; apply h; cases x; cases y; simp [ByteArray.toList_eq] at e; simp [e]
  simp only [binE, binA, strBin, this]; rfl
@[go_sem] theorem binE_sneq : binE P .neq T (.c (.lit (.string x))) (.c (.lit (.string y))) = some ([], .c (.lit (.bool (!decide (x = y)))), []) := by
  have : (x.toList == y.toList) = decide (x = y) := by
    by_cases h : x = y
    · subst h; simp
    · simp [h]; intro e; apply h; cases x; cases y; simp [ByteArray.toList_eq] at e; simp [e]
  simp only [binE, binA, strBin, this]; rfl
end

def unE (o : UnOp) : AV → Option Eff
  | .c (.lit a) => (unA o a).map fun r => ([], .c (.lit r), [])
  | _ => none
@[go_sem] theorem unE_neg (k : IntKind) (n : Int) : unE .neg (.c (.lit (.int k n))) = some ([], .c (.lit (.int k (k.wrap (0 - n)))), []) := rfl
@[go_sem] theorem unE_xor (k : IntKind) (n : Int) : unE .xor (.c (.lit (.int k n))) = some ([], .c (.lit (.int k (k.wrap (BitVec.ofInt k.bits (if k.signed then -1 else k.max) ^^^ BitVec.ofInt k.bits n).toNat))), []) := rfl
@[go_sem] theorem unE_not (b : Bool) : unE .not (.c (.lit (.bool b))) = some ([], .c (.lit (.bool !b)), []) := rfl

def cvI (n : Int) : Option IntKind → Option Eff
  | some k => some ([], .c (.lit (.int k (k.wrap n))), [])
  | none => none
@[go_sem] theorem cvI_some (n : Int) (k : IntKind) : cvI n (some k) = some ([], .c (.lit (.int k (k.wrap n))), []) := rfl
def tyOk (P : Program) (T : TypeId) : Bool := tyIs P T (fun _ => true)
def tyStr (P : Program) (T : TypeId) : Bool := tyIs P T (· matches .string)
def convE (P : Program) (S D : TypeId) : AV → Option Eff
  | .c (.lit (.int _ n)) => if tyOk P S = true then cvI n (tyInt P D) else none
  | .c (.lit (.string s)) => if tyOk P S = true ∧ tyStr P D = true then some ([], .c (.lit (.string s)), []) else none
  | _ => none
@[go_sem] theorem convE_int (S D : TypeId) (k : IntKind) (n : Int) : convE P S D (.c (.lit (.int k n))) = if tyOk P S = true then cvI n (tyInt P D) else none := rfl
@[go_sem] theorem convE_string (S D : TypeId) (s : ByteArray) : convE P S D (.c (.lit (.string s))) = if tyOk P S = true ∧ tyStr P D = true then some ([], .c (.lit (.string s)), []) else none := rfl

/-- The offset of a field that has cells. -/
def fldO (P : Program) (T : TypeId) (f : Nat) : Option Nat :=
  match tyField P T f with
  | some (o, U) => match tySize P U with
    | some (_ + 1) => some o
    | _ => none
  | none => none
def fldE : Option Nat → AV → Option Eff
  | some o, .c (.ptr b off) => some ([], .c (.ptr b (off + o)), [])
  | some o, .c (.iptr flat) => some ([], .c (.iptr (flat.drop o)), [])
  | _, _ => none
@[go_sem] theorem fldE_ptr (o b off : Nat) : fldE (some o) (.c (.ptr b off)) = some ([], .c (.ptr b (off + o)), []) := rfl
@[go_sem] theorem fldE_iptr (o : Nat) (flat : List AC) : fldE (some o) (.c (.iptr flat)) = some ([], .c (.iptr (flat.drop o)), []) := rfl

/-- An array's length, and the size of its items; the size of a slice's. -/
def arrN (P : Program) (T : TypeId) : Option (Nat × Nat) :=
  match tyArr P T with
  | some (len, E) => (tySize P E).map fun n => (len, n)
  | none => none
def slcN (P : Program) (T : TypeId) : Option Nat :=
  match tySlice P T with
  | some E => tySize P E
  | none => none
def ixA (i : Int) : Option (Nat × Nat) → AC → Option Eff
  | some (len, n), .ptr b off => if 0 ≤ i ∧ i < len then some ([], .c (.ptr b (off + i.toNat * n)), []) else none
  | some (len, n), .iptr flat => if 0 ≤ i ∧ i < len then some ([], .c (.iptr (flat.drop (i.toNat * n))), []) else none
  | _, _ => none
def ixS (i : Int) : Option Nat → AC → Option Eff
  | some n, .list len flat => if 0 ≤ i ∧ i < len ∧ i.toNat * n < flat.length then some ([], .c (.iptr (flat.drop (i.toNat * n))), []) else none
  | some n, .sl b len n' false => if n = n' ∧ 0 ≤ i ∧ i < len then some ([], .c (.ptr b (i.toNat * n')), []) else none
  | _, _ => none
def ixE (P : Program) (T : TypeId) : AV → AV → Option Eff
  | .c (.ptr b off), .c (.lit (.int _ i)) => ixA i (arrN P T) (.ptr b off)
  | .c (.iptr flat), .c (.lit (.int _ i)) => ixA i (arrN P T) (.iptr flat)
  | .c (.list n flat), .c (.lit (.int _ i)) => ixS i (slcN P T) (.list n flat)
  | .c (.sl b n sz nl), .c (.lit (.int _ i)) => ixS i (slcN P T) (.sl b n sz nl)
  | _, _ => none
section
variable (T : TypeId) (k : IntKind) (i : Int) (b off n sz len : Nat) (nl : Bool) (flat : List AC)
@[go_sem] theorem ixE_ptr : ixE P T (.c (.ptr b off)) (.c (.lit (.int k i))) = ixA i (arrN P T) (.ptr b off) := rfl
@[go_sem] theorem ixE_iptr : ixE P T (.c (.iptr flat)) (.c (.lit (.int k i))) = ixA i (arrN P T) (.iptr flat) := rfl
@[go_sem] theorem ixE_list : ixE P T (.c (.list n flat)) (.c (.lit (.int k i))) = ixS i (slcN P T) (.list n flat) := rfl
@[go_sem] theorem ixE_sl : ixE P T (.c (.sl b n sz nl)) (.c (.lit (.int k i))) = ixS i (slcN P T) (.sl b n sz nl) := rfl
@[go_sem] theorem ixA_ptr : ixA i (some (len, n)) (.ptr b off) = if 0 ≤ i ∧ i < len then some ([], .c (.ptr b (off + i.toNat * n)), []) else none := rfl
@[go_sem] theorem ixA_iptr : ixA i (some (len, n)) (.iptr flat) = if 0 ≤ i ∧ i < len then some ([], .c (.iptr (flat.drop (i.toNat * n))), []) else none := rfl
@[go_sem] theorem ixS_list : ixS i (some n) (.list len flat) = if 0 ≤ i ∧ i < len ∧ i.toNat * n < flat.length then some ([], .c (.iptr (flat.drop (i.toNat * n))), []) else none := rfl
@[go_sem] theorem ixS_sl : ixS i (some n) (.sl b len sz false) = if n = sz ∧ 0 ≤ i ∧ i < len then some ([], .c (.ptr b (i.toNat * sz)), []) else none := rfl
end

def nthA : List AV → Nat → Option Eff
  | [], _ => none
  | a :: _, 0 => some ([], a, [])
  | _ :: as, i + 1 => nthA as i
@[go_sem] theorem nthA_zero (a : AV) (as : List AV) : nthA (a :: as) 0 = some ([], a, []) := rfl
@[go_sem] theorem nthA_succ (a : AV) (as : List AV) (i : Nat) : nthA (a :: as) (i + 1) = nthA as i := rfl
def extE (i : Nat) : AV → Option Eff
  | .tup vs => nthA vs i
  | _ => none
@[go_sem] theorem extE_tup (vs : List AV) (i : Nat) : extE i (.tup vs) = nthA vs i := rfl
theorem nthA_eq (i : Nat) : ∀ vs : List AV, nthA vs i = (vs[i]?).map fun r => ([], r, []) := by
  induction i with
  | zero => intro vs; cases vs <;> rfl
  | succ i ih => intro vs; cases vs with
    | nil => rfl
    | cons a as => simp [nthA, ih]

/-- The parts of a value that is built, over its zero. -/
def fillE (P : Program) (T : TypeId) : List AC → List (Nat × AV) → Option Eff
  | cells, parts => (fillA (buildPlace P T) cells parts).map fun cs => ([], .agg cs, [])
def fillO (P : Program) (T : TypeId) (cells : List AC) (rest : List (Nat × AV)) : Option (Nat × Nat) → Option (List AC) → Option Eff
  | some (off, size), some cs => if cs.length = size ∧ off + cs.length ≤ cells.length then fillE P T (spliceA cells cs off) rest else none
  | _, _ => none
@[go_sem] theorem fillE_nil (T : TypeId) (cells : List AC) : fillE P T cells [] = some ([], .agg cells, []) := rfl
@[go_sem] theorem fillE_cons (T : TypeId) (cells : List AC) (i : Nat) (v : AV) (rest : List (Nat × AV)) : fillE P T cells ((i, v) :: rest) = fillO P T cells rest (buildPlace P T i) (cellsOf v) := by
  unfold fillE fillO
  simp only [fillA]
  cases buildPlace P T i with
  | none => cases cellsOf v <;> rfl
  | some p =>
    obtain ⟨off, size⟩ := p
    cases cellsOf v with
    | none => rfl
    | some cs =>
      by_cases h : cs.length = size ∧ off + cs.length ≤ cells.length
      · have : ¬ (cs.length ≠ size ∨ off + cs.length > cells.length) := by omega
        show Option.map _ (if _ then _ else _) = (if _ then _ else _)
        rw [if_neg this, if_pos h]; rfl
      · have : (cs.length ≠ size ∨ off + cs.length > cells.length) := by omega
        show Option.map _ (if _ then _ else _) = (if _ then _ else _)
        rw [if_pos this, if_neg h]; rfl
@[go_sem] theorem fillO_some (T : TypeId) (cells : List AC) (rest : List (Nat × AV)) (off size : Nat) (cs : List AC) : fillO P T cells rest (some (off, size)) (some cs) =
    if cs.length = size ∧ off + cs.length ≤ cells.length then fillE P T (spliceA cells cs off) rest else none := rfl
/-- The elements of a new slice, over zeros. -/
def fillN (n : Nat) (cells : List AC) (parts : List (Nat × AV)) : Option (List AC) := fillA (fun i => some (i * n, n)) cells parts
def fillM (n : Nat) (cells : List AC) (rest : List (Nat × AV)) (off : Nat) : Option (List AC) → Option (List AC)
  | some cs => if cs.length = n ∧ off + cs.length ≤ cells.length then fillN n (spliceA cells cs off) rest else none
  | none => none
@[go_sem] theorem fillN_nil (n : Nat) (cells : List AC) : fillN n cells [] = some cells := rfl
@[go_sem] theorem fillN_cons (n : Nat) (cells : List AC) (i : Nat) (v : AV) (rest : List (Nat × AV)) : fillN n cells ((i, v) :: rest) = fillM n cells rest (i * n) (cellsOf v) := by
  unfold fillN fillM
  simp only [fillA]
  cases cellsOf v with
  | none => rfl
  | some cs =>
    by_cases h : cs.length = n ∧ i * n + cs.length ≤ cells.length
    · have : ¬ (cs.length ≠ n ∨ i * n + cs.length > cells.length) := by omega
      show (if _ then _ else _) = (if _ then _ else _)
      rw [if_neg this, if_pos h]; rfl
    · have : (cs.length ≠ n ∨ i * n + cs.length > cells.length) := by omega
      show (if _ then _ else _) = (if _ then _ else _)
      rw [if_pos this, if_neg h]
@[go_sem] theorem fillM_some (n : Nat) (cells : List AC) (rest : List (Nat × AV)) (off : Nat) (cs : List AC) : fillM n cells rest off (some cs) =
    if cs.length = n ∧ off + cs.length ≤ cells.length then fillN n (spliceA cells cs off) rest else none := rfl
def rowF (d len n : Nat) (pre : Option Box) : Option (List AC) → Option Eff
  | some cs => if pre = none ∧ menL d cs = false then some ([], .c (.sl d len n false), [(d, some ⟨cs, 0, false, false⟩)]) else none
  | none => none
@[go_sem] theorem rowF_some (d len n : Nat) (pre : Option Box) (cs : List AC) : rowF d len n pre (some cs) = if pre = none ∧ menL d cs = false then some ([], .c (.sl d len n false), [(d, some ⟨cs, 0, false, false⟩)]) else none := rfl
def rowE (d len : Nat) (pre : Option Box) (parts : List (Nat × AV)) : Option (Nat × List AC) → Option Eff
  | some (n, z) => rowF d len n pre (fillN n z parts)
  | none => none
@[go_sem] theorem rowE_some (d len : Nat) (pre : Option Box) (parts : List (Nat × AV)) (n : Nat) (z : List AC) : rowE d len pre parts (some (n, z)) = rowF d len n pre (fillN n z parts) := rfl
def gloE (g : Nat) : Option (List AC) → AV
  | some flat => .c (.iptr flat)
  | none => .c (.lit (.pointer (some ⟨g, 0, none⟩)))
@[go_sem] theorem gloE_some (g : Nat) (flat : List AC) : gloE g (some flat) = .c (.iptr flat) := rfl
@[go_sem] theorem gloE_none (g : Nat) : gloE g none = .c (.lit (.pointer (some ⟨g, 0, none⟩))) := rfl
def buildE (P : Program) (T : TypeId) (parts : List (Nat × AV)) : Option (List AC) → Option Eff
  | some cells => if structOk P T = true then fillE P T cells parts else none
  | none => none
@[go_sem] theorem buildE_some (T : TypeId) (parts : List (Nat × AV)) (cells : List AC) : buildE P T parts (some cells) = if structOk P T = true then fillE P T cells parts else none := rfl
end effs

/-! ### what is returned -/

def ResB (P : Program) (T : TypeId) (off : Nat) (r : AV) : Option Box → Prop
  | some ⟨cs, _, false, _⟩ => loadA P T cs off = some r
  | _ => False
@[go_sem] theorem ResB_some {P : Program} (T : TypeId) (off : Nat) (r : AV) (cs : List AC) (p : Nat) (w : Bool) : ResB P T off r (some ⟨cs, p, false, w⟩) = (loadA P T cs off = some r) := rfl
def ResC (P : Program) (T : TypeId) (s : St) (r : AV) : AV → Prop
  | .c (.ptr b off) => ResB P T off r (s.box b)
  | _ => False
@[go_sem] theorem ResC_ptr {P : Program} (T : TypeId) (s : St) (r : AV) (b off : Nat) : ResC P T s r (.c (.ptr b off)) = ResB P T off r (s.box b) := rfl
def Res1 (P : Program) (s : St) (r : AV) : ResultVar → Prop
  | .tmp t => s.get t = r ∧ isTup r = false
  | .cell a T => ResC P T s r (s.get a)
@[go_sem ↓] theorem Res1_tmp {P : Program} (s : St) (r : AV) (t : Nat) : Res1 P s r (.tmp t) = (s.get t = r ∧ isTup r = false) := rfl
@[go_sem ↓] theorem Res1_cell {P : Program} (s : St) (r : AV) (a : Nat) (T : TypeId) : Res1 P s r (.cell a T) = ResC P T s r (s.get a) := rfl
def ResM (P : Program) (s : St) : List ResultVar → List AV → Prop
  | [], [] => True
  | x :: xs, a :: as => Res1 P s a x ∧ ResM P s xs as
  | _, _ => False
@[go_sem ↓] theorem ResM_nil {P : Program} (s : St) : ResM P s [] [] = True := rfl
@[go_sem ↓] theorem ResM_cons {P : Program} (s : St) (x : ResultVar) (xs : List ResultVar) (a : AV) (as : List AV) : ResM P s (x :: xs) (a :: as) = (Res1 P s a x ∧ ResM P s xs as) := rfl
def ResE (P : Program) (s : St) : List ResultVar → AV → Prop
  | [x], r => Res1 P s r x
  | xs, .tup as => ResM P s xs as
  | _, _ => False
@[go_sem ↓] theorem ResE_one {P : Program} (s : St) (x : ResultVar) (r : AV) : ResE P s [x] r = Res1 P s r x := rfl
@[go_sem ↓] theorem ResE_nil {P : Program} (s : St) (as : List AV) : ResE P s [] (.tup as) = ResM P s [] as := rfl
@[go_sem ↓] theorem ResE_two {P : Program} (s : St) (x y : ResultVar) (xs : List ResultVar) (as : List AV) : ResE P s (x :: y :: xs) (.tup as) = ResM P s (x :: y :: xs) as := rfl
@[go_sem] theorem isTup_c (a : AC) : isTup (.c a) = false := rfl
@[go_sem] theorem isTup_agg (cs : List AC) : isTup (.agg cs) = false := rfl

theorem Res1_of {P : Program} {s : St} {r : AV} {x : ResultVar} (h : Res1 P s r x) : ResA P s x r := by
  cases x with
  | tmp t => exact ⟨h.1.symm, fun vs e => by subst e; simp [Res1, isTup] at h⟩
  | cell a T =>
    simp only [Res1] at h
    unfold ResC at h
    split at h
    · rename_i b off e
      unfold ResB at h
      split at h
      · rename_i cs p w e2
        exact ⟨b, off, _, e, e2, rfl, loadA_or h⟩
      · exact h.elim
    · exact h.elim
theorem ResM_of {P : Program} {s : St} : ∀ (xs : List ResultVar) (as : List AV), ResM P s xs as → ResL P s xs as
  | [], [], _ => trivial
  | _ :: xs, _ :: as, h => ⟨Res1_of h.1, ResM_of xs as h.2⟩
theorem ResE_of {P : Program} {s : St} {xs : List ResultVar} {r : AV} (h : ResE P s xs r) : ResAs P s xs r := by
  unfold ResE at h
  split at h
  · exact Res1_of h
  · rename_i as hx
    unfold ResAs
    split
    · exact (hx _ rfl).elim
    · exact ⟨as, rfl, ResM_of _ _ h⟩
  · exact h.elim

/-- Where a function ends. -/
def EndE (P : Program) (rs : List ResultVar) (r : AV) : Ex → St → Prop
  | .normal, s => ResE P s rs r
  | .ret, s => ResE P s rs r
  | .exit _, _ => False
@[go_sem ↓] theorem EndE_normal {P : Program} (rs : List ResultVar) (r : AV) (s : St) : EndE P rs r .normal s = ResE P s rs r := rfl
@[go_sem ↓] theorem EndE_ret {P : Program} (rs : List ResultVar) (r : AV) (s : St) : EndE P rs r .ret s = ResE P s rs r := rfl

/-- THE CONTRACT OF A FUNCTION by evaluation of its code. -/
theorem fnOk_eval {C : Cfg} (Γ : Ctx) (hΓ : Γ.sound C) {k : FuncId} {fn : Func} {c : Code} {args : List AV} {r : AV} {n : Nat} {rs : List ResultVar} (hm : C.P.follows .mixedOrders = true) (hf : C.P.funcs[k]? = some fn) (hb : fn.body = some c)
    (hn : (fn.name == "runtime.NumGoroutine") = false) (hnt : fn.ntmps = n) (hrs : fn.results.toList = rs) (ha : args.length ≤ n) (hp : args.all pure1 = true) (hr : r.pure = true)
    (h : WPe C Γ c (EndE C.P rs r) (initSt args n)) : FnOk C k args r := by
  subst hnt
  subst hrs
  refine fnOk_of_wpc hm hf hb hn hp hr ha (WPc.mono c (fun e s hs => ?_) (wpe_c hΓ c h))
  cases e with
  | normal => exact ⟨.inl rfl, ResE_of hs⟩
  | ret => exact ⟨.inr rfl, ResE_of hs⟩
  | exit id => exact hs.elim

/-! ### the rules of evaluation -/

/-- A call by a contract function, if it has an answer. -/
def CallO (A : Prop) (d : Option Nat) (s : St) (K : Rec → St → Prop) : Option AV → Prop
  | some r => Done d s K (some ([], r, []))
  | none => A
def evP (ρ : Operand → AV) (parts : List (Nat × Operand)) : List (Nat × AV) := parts.map fun p => (p.1, ρ p.2)
theorem evP_eq (ρ : Operand → AV) (parts : List (Nat × Operand)) : (parts.map fun p => (p.1, ρ p.2)) = evP ρ parts := rfl
@[go_sem] theorem evP_nil (ρ : Operand → AV) : evP ρ [] = [] := rfl
@[go_sem] theorem evP_cons (ρ : Operand → AV) (i : Nat) (x : Operand) (l : List (Nat × Operand)) : evP ρ ((i, x) :: l) = (i, ρ x) :: evP ρ l := rfl
def dstAt : List Oper → Nat → Option Nat
  | [], _ => none
  | o :: _, 0 => o.dst
  | _ :: l, i + 1 => dstAt l i
@[go_sem ↓] theorem dstAt_zero (dst : Option Nat) (op : Op) (ty : TypeId) (pos : String) (after : Array Edge) (g : Option (Nat × Bool)) (l : List Oper) : dstAt (⟨dst, op, ty, pos, after, g⟩ :: l) 0 = dst := rfl
@[go_sem ↓] theorem dstAt_succ (o : Oper) (l : List Oper) (i : Nat) : dstAt (o :: l) (i + 1) = dstAt l i := rfl
def yldV : AV → Option (Option Bool)
  | .c (.lit (.bool b)) => some (some b)
  | .tup _ => some none
  | _ => none
@[go_sem] theorem yldV_bool (b : Bool) : yldV (.c (.lit (.bool b))) = some (some b) := rfl
@[go_sem] theorem yldV_tup (l : List AV) : yldV (.tup l) = some none := rfl
def yldO (s : St) : Option Nat → Option (Option Bool)
  | some t => yldV (s.get t)
  | none => none
@[go_sem] theorem yldO_some (s : St) (t : Nat) : yldO s (some t) = yldV (s.get t) := rfl
theorem dstAt_eq (i : Nat) : ∀ l : List Oper, dstAt l i = (l[i]?).bind (·.dst) := by
  induction i with
  | zero => intro l; cases l <;> rfl
  | succ i ih => intro l; cases l with
    | nil => rfl
    | cons o l => simp [dstAt, ih]
@[go_sem ↓] theorem yielded_eq (l : List Oper) (s : St) (j : Nat) : yieldedA l.toArray s j = yldO s (dstAt l j) := by
  simp only [yieldedA, List.getElem?_toArray, dstAt_eq]
  cases (l[j]?).bind (·.dst) with
  | none => rfl
  | some t =>
    simp only [Option.map_some, yldO]
    generalize s.get t = v
    cases v with
    | c a => cases a with
      | lit v => cases v <;> rfl
      | _ => rfl
    | _ => rfl

theorem pure_c (a : AC) : AV.pure (.c a) = a.pure := rfl
def pures (cs : List AC) : Bool := cs.all (·.pure)
theorem pure_agg (cs : List AC) : AV.pure (.agg cs) = pures cs := rfl
theorem pure_tup (xs : List AV) : AV.pure (.tup xs) = xs.all pure1 := rfl
theorem pures_nil : pures [] = true := rfl
theorem pures_cons (a : AC) (cs : List AC) : pures (a :: cs) = (a.pure && pures cs) := rfl
theorem pure1_c (a : AC) : pure1 (.c a) = a.pure := rfl
theorem pure1_agg (cs : List AC) : pure1 (.agg cs) = pures cs := rfl
attribute [go_sem] pure1_c pure1_agg
@[go_sem] theorem pure_lit (v : Value) : AC.pure (.lit v) = true := rfl
@[go_sem] theorem pure_list (n : Nat) (l : List AC) : AC.pure (.list n l) = true := rfl
@[go_sem] theorem pure_iptr (l : List AC) : AC.pure (.iptr l) = true := rfl
@[go_sem] theorem pure_opq (p : Mem → Value → Prop) : AC.pure (.opq p) = true := rfl
@[go_sem] theorem pure_junk : AC.pure .junk = true := rfl

section conts
variable (C : Cfg) (Γ : Ctx) (ops : Array Oper)
/-- What comes after an operation; a guard whose test isn't known yet; a test that isn't known yet: data alone, which simp leaves as it is. -/
def contE (os : List Oper) (N : St → Prop) (_ : Rec) (s : St) : Prop := RunE C Γ ops os s N
def contD (os : List Oper) (acc : List Rec) (D : List Rec → St → Prop) (rc : Rec) (s : St) : Prop := RunD C Γ ops os s (acc ++ [rc]) D
def drawE (s0 : St) (K : Ex → St → Prop) (rcs : List Rec) (s : St) : Prop := orderOk ops rcs s0 ∧ K .normal s
def GuardX (o : Oper) (os : List Oper) (s : St) (N : St → Prop) (want : Bool) (y : Option (Option Bool)) : Prop :=
  GuardE y want (Exec C Γ o s (contE C Γ ops os N)) (RunE C Γ ops os (s.put o.dst (.tup [])) N)
def GuardY (o : Oper) (os : List Oper) (s : St) (acc : List Rec) (D : List Rec → St → Prop) (want : Bool) (y : Option (Option Bool)) : Prop :=
  GuardE y want (Exec C Γ o s (contD C Γ ops os acc D)) (RunD C Γ ops os (s.put o.dst (.tup [])) (acc ++ [skipRec]) D)
def CondX (x y : Code) (K : Ex → St → Prop) (s : St) (v : AV) : Prop := CondE v (WPe C Γ x K s) (WPe C Γ y K s)
end conts

section rules
variable {C : Cfg} {Γ : Ctx} {K : Ex → St → Prop} {s : St} {J : Rec → St → Prop} {ops : Array Oper} {os : List Oper} {N : St → Prop} {D : List Rec → St → Prop} {acc : List Rec}
variable {dst : Option Nat} {op : Op} {ty : TypeId} {pos : String} {after : Array Edge} {ρ : Operand → AV} {pre : Nat → Option Box}

@[go_sem ↓] theorem WPe_skip : WPe C Γ .skip K s = K .normal s := rfl
@[go_sem ↓] theorem WPe_ret : WPe C Γ .ret K s = K .ret s := rfl
@[go_sem ↓] theorem WPe_exit (id : Nat) : WPe C Γ (.exit id) K s = K (.exit id) s := rfl
@[go_sem ↓] theorem WPe_label (l : Nat) : WPe C Γ (.label l) K s = K .normal s := rfl
@[go_sem ↓] theorem WPe_seq (x y : Code) : WPe C Γ (.seq x y) K s = WPe C Γ x (St.goes (WPe C Γ y K) K) s := rfl
@[go_sem ↓] theorem WPe_block (id : Nat) (c : Code) : WPe C Γ (.block id c) K s = WPe C Γ c (inBlockA id K) s := rfl
@[go_sem ↓] theorem WPe_region (id : Nat) (l : List Oper) : WPe C Γ (.region id l.toArray false) K s = RunE C Γ l.toArray l s (K .normal) := rfl
@[go_sem ↓] theorem WPe_draw (id : Nat) (l : List Oper) : WPe C Γ (.region id l.toArray true) K s = RunD C Γ l.toArray l s [] (drawE l.toArray s K) := rfl
@[go_sem ↓] theorem goes_normal (n : St → Prop) : St.goes n K .normal s = n s := rfl
@[go_sem ↓] theorem goes_ret (n : St → Prop) : St.goes n K .ret s = K .ret s := rfl
@[go_sem ↓] theorem goes_exit (n : St → Prop) (id : Nat) : St.goes n K (.exit id) s = K (.exit id) s := rfl
@[go_sem ↓] theorem inBlock_normal (id : Nat) : inBlockA id K .normal s = K .normal s := rfl
@[go_sem ↓] theorem inBlock_ret (id : Nat) : inBlockA id K .ret s = K .ret s := rfl
@[go_sem ↓] theorem inBlock_exit (id id' : Nat) : inBlockA id K (.exit id') s = if id' = id then K .normal s else K (.exit id') s := rfl
@[go_sem ↓] theorem RunE_nil : RunE C Γ ops [] s N = N s := rfl
@[go_sem ↓] theorem contE_eq (rc : Rec) : contE C Γ ops os N rc s = RunE C Γ ops os s N := rfl
@[go_sem ↓] theorem contD_eq (rc : Rec) : contD C Γ ops os acc D rc s = RunD C Γ ops os s (acc ++ [rc]) D := rfl
@[go_sem ↓] theorem drawE_eq (s0 : St) (rcs : List Rec) : drawE ops s0 K rcs s = (orderOk ops rcs s0 ∧ K .normal s) := rfl
@[go_sem ↓] theorem RunE_cons : RunE C Γ ops (⟨dst, op, ty, pos, after, none⟩ :: os) s N = Exec C Γ ⟨dst, op, ty, pos, after, none⟩ s (contE C Γ ops os N) := rfl
@[go_sem ↓] theorem RunE_guard (j : Nat) (want : Bool) : RunE C Γ ops (⟨dst, op, ty, pos, after, some (j, want)⟩ :: os) s N =
  GuardX C Γ ops ⟨dst, op, ty, pos, after, some (j, want)⟩ os s N want (yieldedA ops s j) := rfl
@[go_sem ↓] theorem RunD_nil : RunD C Γ ops [] s acc D = D acc s := rfl
@[go_sem ↓] theorem RunD_cons : RunD C Γ ops (⟨dst, op, ty, pos, after, none⟩ :: os) s acc D = Exec C Γ ⟨dst, op, ty, pos, after, none⟩ s (contD C Γ ops os acc D) := rfl
@[go_sem ↓] theorem RunD_guard (j : Nat) (want : Bool) : RunD C Γ ops (⟨dst, op, ty, pos, after, some (j, want)⟩ :: os) s acc D =
  GuardY C Γ ops ⟨dst, op, ty, pos, after, some (j, want)⟩ os s acc D want (yieldedA ops s j) := rfl
@[go_sem ↓] theorem WPe_cond (c : Operand) (x y : Code) : WPe C Γ (.cond c x y) K s = CondX C Γ x y K s (s.ev C c) := rfl
@[go_sem ↓ high] theorem GuardX_tt (o : Oper) : GuardX C Γ ops o os s N true (some (some true)) = Exec C Γ o s (contE C Γ ops os N) := by simp [GuardX, GuardE]
@[go_sem ↓ high] theorem GuardX_ff (o : Oper) : GuardX C Γ ops o os s N false (some (some false)) = Exec C Γ o s (contE C Γ ops os N) := by simp [GuardX, GuardE]
@[go_sem ↓ high] theorem GuardX_tf (g : Option (Nat × Bool)) : GuardX C Γ ops ⟨dst, op, ty, pos, after, g⟩ os s N true (some (some false)) = RunE C Γ ops os (s.put dst (.tup [])) N := by simp [GuardX, GuardE]
@[go_sem ↓ high] theorem GuardX_ft (g : Option (Nat × Bool)) : GuardX C Γ ops ⟨dst, op, ty, pos, after, g⟩ os s N false (some (some true)) = RunE C Γ ops os (s.put dst (.tup [])) N := by simp [GuardX, GuardE]
@[go_sem ↓ high] theorem GuardY_tt (o : Oper) : GuardY C Γ ops o os s acc D true (some (some true)) = Exec C Γ o s (contD C Γ ops os acc D) := by simp [GuardY, GuardE]
@[go_sem ↓ high] theorem GuardY_ff (o : Oper) : GuardY C Γ ops o os s acc D false (some (some false)) = Exec C Γ o s (contD C Γ ops os acc D) := by simp [GuardY, GuardE]
@[go_sem ↓ high] theorem GuardY_tf (g : Option (Nat × Bool)) : GuardY C Γ ops ⟨dst, op, ty, pos, after, g⟩ os s acc D true (some (some false)) = RunD C Γ ops os (s.put dst (.tup [])) (acc ++ [skipRec]) D := by simp [GuardY, GuardE]
@[go_sem ↓ high] theorem GuardY_ft (g : Option (Nat × Bool)) : GuardY C Γ ops ⟨dst, op, ty, pos, after, g⟩ os s acc D false (some (some true)) = RunD C Γ ops os (s.put dst (.tup [])) (acc ++ [skipRec]) D := by simp [GuardY, GuardE]
@[go_sem ↓ high] theorem GuardX_n (g : Option (Nat × Bool)) (w : Bool) : GuardX C Γ ops ⟨dst, op, ty, pos, after, g⟩ os s N w (some none) = RunE C Γ ops os (s.put dst (.tup [])) N := by simp [GuardX, GuardE]
@[go_sem ↓ high] theorem GuardY_n (g : Option (Nat × Bool)) (w : Bool) : GuardY C Γ ops ⟨dst, op, ty, pos, after, g⟩ os s acc D w (some none) = RunD C Γ ops os (s.put dst (.tup [])) (acc ++ [skipRec]) D := by simp [GuardY, GuardE]
@[go_sem ↓ high] theorem CondX_t (x y : Code) : CondX C Γ x y K s (.c (.lit (.bool true))) = WPe C Γ x K s := by simp [CondX, CondE]
@[go_sem ↓ high] theorem CondX_f (x y : Code) : CondX C Γ x y K s (.c (.lit (.bool false))) = WPe C Γ y K s := by simp [CondX, CondE]
theorem split_guard {o : Oper} {w b : Bool} (h1 : b = true → GuardX C Γ ops o os s N w (some (some true))) (h2 : b = false → GuardX C Γ ops o os s N w (some (some false))) : GuardX C Γ ops o os s N w (some (some b)) := by
  cases b with
  | true => exact h1 rfl
  | false => exact h2 rfl
theorem split_guardY {o : Oper} {w b : Bool} (h1 : b = true → GuardY C Γ ops o os s acc D w (some (some true))) (h2 : b = false → GuardY C Γ ops o os s acc D w (some (some false))) : GuardY C Γ ops o os s acc D w (some (some b)) := by
  cases b with
  | true => exact h1 rfl
  | false => exact h2 rfl
theorem split_cond {x y : Code} {b : Bool} (h1 : b = true → CondX C Γ x y K s (.c (.lit (.bool true)))) (h2 : b = false → CondX C Γ x y K s (.c (.lit (.bool false)))) : CondX C Γ x y K s (.c (.lit (.bool b))) := by
  cases b with
  | true => exact h1 rfl
  | false => exact h2 rfl
@[go_sem ↓] theorem Exec_call (k : FuncId) (args : List Operand) (ats : Array TypeId) (g : Option (Nat × Bool)) :
  Exec C Γ ⟨dst, .call ⟨.value (.func k), args.toArray, ats⟩, ty, pos, after, g⟩ s J = CallG C Γ k (args.map (s.ev C)) dst s J := rfl
@[go_sem ↓] theorem CallG_eq (k : FuncId) (args : List AV) (d : Option Nat) : CallG C Γ k args d s J = CallO (CallE C k args d s J) d s J (Γ.ask k args) := by
  unfold CallG CallO; cases Γ.ask k args <;> rfl
@[go_sem ↓] theorem CallO_some (A : Prop) (d : Option Nat) (r : AV) : CallO A d s J (some r) = Done d s J (some ([], r, [])) := rfl
@[go_sem ↓] theorem ask_same (k : FuncId) (f : List AV → Option AV) (args : List AV) : Ctx.ask ((k, f) :: Γ) k args = f args := by simp [Ctx.ask]
@[go_sem ↓] theorem ask_ne (j k : FuncId) (f : List AV → Option AV) (args : List AV) (h : (j == k) = false) : Ctx.ask ((j, f) :: Γ) k args = Ctx.ask Γ k args := by simp [Ctx.ask, h]

variable {g : Option (Nat × Bool)}
@[go_sem ↓] theorem Exec_move (x : Operand) : Exec C Γ ⟨dst, .move x, ty, pos, after, g⟩ s J = Done dst s J (some ([], s.ev C x, [])) := rfl
@[go_sem ↓] theorem Exec_assign (x : Operand) : Exec C Γ ⟨dst, .assign x, ty, pos, after, g⟩ s J = Done dst s J (some ([], s.ev C x, [])) := rfl
@[go_sem ↓] theorem Exec_pick (c a b : Operand) : Exec C Γ ⟨dst, .pick c a b, ty, pos, after, g⟩ s J = Done dst s J (pickE (s.ev C c) (s.ev C a) (s.ev C b)) := by
  simp only [Exec, evalOp, pickE]
  generalize s.ev C c = v
  cases v with
  | c a => cases a with
    | lit v => cases v <;> rfl
    | _ => rfl
  | _ => rfl
@[go_sem ↓] theorem Exec_box (T : TypeId) (x : Operand) (d : Nat) : Exec C Γ ⟨some d, .box T x, ty, pos, after, g⟩ s J = Done (some d) s J (boxE d (s.box d) (cellsOf (s.ev C x))) := by
  simp only [Exec, evalOp]
  cases cellsOf (s.ev C x) with
  | none => rfl
  | some cs => simp only [boxE, Option.isNone_iff_eq_none]
@[go_sem ↓] theorem Exec_alloc (T : TypeId) (d : Nat) : Exec C Γ ⟨some d, .alloc T, ty, pos, after, g⟩ s J = Done (some d) s J (allocE d (s.box d) (zeroL C.P T)) := by
  simp only [Exec, evalOp, zeroL]
  cases tyZero C.P T with
  | none => rfl
  | some z => simp only [allocE, Option.isNone_iff_eq_none, Option.map_some]
@[go_sem ↓] theorem Exec_load (T : TypeId) (x : Operand) : Exec C Γ ⟨dst, .load T x, ty, pos, after, g⟩ s J = Done dst s J (loadE C.P T s.box (s.ev C x)) := by
  simp only [Exec, evalOp]
  generalize s.ev C x = v
  cases v with
  | c a => cases a with
    | ptr b off =>
      simp only [loadE]
      generalize s.box b = y
      cases y with
      | none => rfl
      | some bx =>
        obtain ⟨cs, p, nl, w⟩ := bx
        cases nl <;> rfl
    | _ => rfl
  | _ => rfl
@[go_sem ↓] theorem Exec_store (T : TypeId) (x y : Operand) : Exec C Γ ⟨none, .store T x y, ty, pos, after, g⟩ s J = Done none s J (storeE C.P T s.box (s.ev C y) (s.ev C x)) := by
  simp only [Exec, evalOp]
  generalize s.ev C x = v
  cases v with
  | c a => cases a with
    | ptr b off =>
      simp only [storeE]
      generalize s.box b = z
      generalize cellsOf (s.ev C y) = u
      generalize tySize C.P T = n
      cases z with
      | none => cases n <;> rfl
      | some bx =>
        obtain ⟨cs, p, nl, w⟩ := bx
        cases u with
        | none => cases n <;> cases nl <;> rfl
        | some l =>
          cases n with
          | none => cases nl <;> simp [storeB]
          | some n => cases nl <;> simp [storeB]
    | _ => rfl
  | _ => rfl
@[go_sem ↓] theorem Exec_nilCheck (x : Operand) : Exec C Γ ⟨dst, .nilCheck x, ty, pos, after, g⟩ s J = Done dst s J (nilE (s.ev C x)) := by
  simp only [Exec, evalOp]
  generalize s.ev C x = v
  cases v with
  | c a => cases a <;> rfl
  | _ => rfl
@[go_sem ↓] theorem Exec_bin (o : BinOp) (T T' : TypeId) (x y : Operand) : Exec C Γ ⟨dst, .binOp o T x y T', ty, pos, after, g⟩ s J = Done dst s J (binE C.P o T (s.ev C x) (s.ev C y)) := by
  simp only [Exec, evalOp]
  generalize s.ev C x = v
  generalize s.ev C y = u
  cases v with
  | c a => cases a with
    | lit v => cases u with
      | c a => cases a <;> rfl
      | _ => rfl
    | _ => rfl
  | agg as => cases u <;> rfl
  | _ => rfl
@[go_sem ↓] theorem Exec_bi (b : Builtin) (args : List Operand) (ats : Array TypeId) : Exec C Γ ⟨dst, .call ⟨.builtin b, args.toArray, ats⟩, ty, pos, after, g⟩ s J = Done dst s J (biA C b (args.map (s.ev C))) := rfl
@[go_sem ↓] theorem Exec_un (o : UnOp) (T : TypeId) (x : Operand) : Exec C Γ ⟨dst, .unOp o T x, ty, pos, after, g⟩ s J = Done dst s J (unE o (s.ev C x)) := by
  simp only [Exec, evalOp]
  generalize s.ev C x = v
  cases v with
  | c a => cases a <;> rfl
  | _ => rfl
@[go_sem ↓] theorem Exec_convert (S D : TypeId) (x : Operand) : Exec C Γ ⟨dst, .convert S D x, ty, pos, after, g⟩ s J = Done dst s J (convE C.P S D (s.ev C x)) := by
  simp only [Exec, evalOp]
  generalize s.ev C x = v
  cases v with
  | c a => cases a with
    | lit v => cases v with
      | int k n => 
        simp only [convE, tyOk]
        cases tyInt C.P D <;> rfl
      | _ => rfl
    | _ => rfl
  | _ => rfl
@[go_sem ↓] theorem Exec_field (T : TypeId) (x : Operand) (f : Nat) : Exec C Γ ⟨dst, .fieldAddr T x f, ty, pos, after, g⟩ s J = Done dst s J (fldE (fldO C.P T f) (s.ev C x)) := by
  simp only [Exec, evalOp, fldO]
  generalize s.ev C x = v
  cases tyField C.P T f with
  | none => cases v with
    | c a => cases a <;> rfl
    | _ => rfl
  | some p =>
    obtain ⟨o, U⟩ := p
    simp only
    generalize tySize C.P U = n
    cases n with
    | none => cases v with
      | c a => cases a <;> rfl
      | _ => rfl
    | some n => cases n <;> (cases v with
      | c a => cases a <;> rfl
      | _ => rfl)
@[go_sem ↓] theorem Exec_index (T : TypeId) (x y : Operand) : Exec C Γ ⟨dst, .indexAddr T x y, ty, pos, after, g⟩ s J = Done dst s J (ixE C.P T (s.ev C x) (s.ev C y)) := by
  simp only [Exec, evalOp]
  generalize s.ev C x = v
  generalize s.ev C y = u
  cases u with
  | c b => cases b with
    | lit b => cases b with
      | int k i => cases v with
        | c a => cases a with
          | ptr b off => 
            simp only [ixE, arrN]
            cases tyArr C.P T with
            | none => rfl
            | some p => obtain ⟨len, E⟩ := p; simp only; cases tySize C.P E <;> rfl
          | iptr flat =>
            simp only [ixE, arrN]
            cases tyArr C.P T with
            | none => rfl
            | some p => obtain ⟨len, E⟩ := p; simp only; cases tySize C.P E <;> rfl
          | list n flat =>
            simp only [ixE, slcN]
            cases tySlice C.P T with
            | none => rfl
            | some E => simp only; cases tySize C.P E <;> rfl
          | sl b n sz nl =>
            simp only [ixE, slcN]
            cases tySlice C.P T with
            | none => cases nl <;> rfl
            | some E =>
              simp only
              cases nl with
              | true => cases tySize C.P E <;> rfl
              | false =>
                cases hE : tySize C.P E with
                | none => simp only [ixS]; simp
                | some m => simp only [ixS, Option.some.injEq]
          | _ => rfl
        | _ => rfl
      | _ => cases v with
        | c a => cases a <;> rfl
        | _ => rfl
    | _ => cases v with
      | c a => cases a <;> rfl
      | _ => rfl
  | _ => cases v with
    | c a => cases a <;> rfl
    | _ => rfl
@[go_sem ↓] theorem Exec_extract (x : Operand) (i : Nat) : Exec C Γ ⟨dst, .extract x i, ty, pos, after, g⟩ s J = Done dst s J (extE i (s.ev C x)) := by
  simp only [Exec, evalOp]
  generalize s.ev C x = v
  cases v with
  | tup vs => simp only [extE, nthA_eq]
  | _ => rfl
@[go_sem ↓] theorem Exec_buildSlice (T : TypeId) (len d : Nat) (parts : List (Nat × Operand)) : Exec C Γ ⟨some d, .buildSlice T len parts.toArray, ty, pos, after, g⟩ s J = Done (some d) s J
    (rowE d len (s.box d) (evP (s.ev C) parts) (rowZ C.P T len)) := by
  simp only [Exec, evalOp]
  cases rowZ C.P T len with
  | none => rfl
  | some p =>
    obtain ⟨n, z⟩ := p
    simp only [rowE, fillN, evP_eq]
    cases fillA (fun i => some (i * n, n)) z (evP (s.ev C) parts) with
    | none => rfl
    | some cs => simp only [rowF, Option.isNone_iff_eq_none]
@[go_sem ↓] theorem Exec_build (T : TypeId) (parts : List (Nat × Operand)) : Exec C Γ ⟨dst, .build T parts.toArray, ty, pos, after, g⟩ s J = Done dst s J
    (buildE C.P T (evP (s.ev C) parts) (zeroL C.P T)) := by
  simp only [Exec, evalOp, zeroL, buildA, evP_eq]
  cases tyZero C.P T with
  | none => simp [buildE]
  | some z => simp only [buildE, fillE, Option.map_some]

@[congr] theorem Done_congr {d : Option Nat} {e e' : Option Eff} (h : e = e') : Done d s J e = Done d s J e' := by rw [h]
@[congr] theorem CallO_congr {A : Prop} {x x' : Option AV} {d : Option Nat} (h : x = x') : CallO A d s J x = CallO A d s J x' := by rw [h]
@[congr] theorem GuardX_congr {o : Oper} {w : Bool} {y y' : Option (Option Bool)} (h : y = y') : GuardX C Γ ops o os s N w y = GuardX C Γ ops o os s N w y' := by rw [h]
@[congr] theorem GuardY_congr {o : Oper} {w : Bool} {y y' : Option (Option Bool)} (h : y = y') : GuardY C Γ ops o os s acc D w y = GuardY C Γ ops o os s acc D w y' := by rw [h]
@[congr] theorem CondX_congr {x y : Code} {v v' : AV} (h : v = v') : CondX C Γ x y K s v = CondX C Γ x y K s v' := by rw [h]
@[go_sem ↓] theorem Done_pure (rd : List Nat) (r : AV) (d : Nat) : Done (some d) s J (some (rd, r, [])) ↔ d < s.n ∧ J ⟨false, rd, r, []⟩ (s.put (some d) r) := by
  simp [Done, wrOf, St.upd]
@[go_sem ↓] theorem Done_pure0 (rd : List Nat) (r : AV) : Done none s J (some (rd, r, [])) ↔ J ⟨false, rd, r, []⟩ s := by
  simp [Done, wrOf, St.upd, St.put]
@[go_sem ↓] theorem Done_new (rd : List Nat) (r : AV) (d : Nat) (b : Nat) (x : Option Box) : Done (some d) s J (some (rd, r, [(b, x)])) ↔
    d < s.n ∧ (s.box b = none → NoMen s b (some d)) ∧ J ⟨false, rd, r, [(b, x)]⟩ ((s.setB b x).put (some d) r) := by
  simp [Done, wrOf, St.upd]
@[go_sem ↓] theorem Done_store (rd : List Nat) (r : AV) (b : Nat) (x : Option Box) : Done none s J (some (rd, r, [(b, x)])) ↔
    (s.box b = none → NoMen s b none) ∧ J ⟨false, rd, r, [(b, x)]⟩ (s.setB b x) := by
  simp [Done, wrOf, St.upd, St.put]
@[go_sem ↓] theorem Done_none (d : Option Nat) : Done d s J none ↔ False := Iff.rfl

@[go_sem ↓] theorem ev_tmp (t : Nat) : s.ev C (.tmp t) = s.get t := rfl
@[go_sem ↓] theorem ev_global (g : Nat) : s.ev C (.global g) = gloE g (C.G g) := by
  simp only [St.ev, gloE]
  cases C.G g <;> rfl
@[go_sem ↓] theorem ev_const (v : Value) : s.ev C (.const v) = constAV v := rfl
@[go_sem ↓] theorem ev_func (f : FuncId) : s.ev C (.func f) = .c (.lit (.func (.func f) #[] #[])) := rfl
@[go_sem ↓] theorem get_put_same (d : Nat) (r : AV) : (s.put (some d) r).get d = r := by simp [St.get_put]
@[go_sem ↓] theorem get_put_ne (d t : Nat) (r : AV) (h : (d == t) = false) : (s.put (some d) r).get t = s.get t := by
  have : d ≠ t := by simpa using h
  simp [St.get_put, this]
@[go_sem ↓] theorem Done_if (c : Prop) [Decidable c] (d : Option Nat) (e : Eff) : Done d s J (if c then some e else none) ↔ c ∧ Done d s J (some e) := by
  by_cases h : c
  · simp only [h, if_true, true_and]
  · simp only [h, if_false, false_and, iff_false]; exact fun h => h.elim

@[go_sem ↓] theorem get_setB (b : Nat) (x : Option Box) (t : Nat) : (s.setB b x).get t = s.get t := rfl
@[go_sem ↓] theorem setB_same (b : Nat) (x : Option Box) : (s.setB b x).box b = x := by simp [St.setB_box]
@[go_sem ↓] theorem setB_ne (b c : Nat) (x : Option Box) (h : (c == b) = false) : (s.setB b x).box c = s.box c := by
  have : c ≠ b := by simpa using h
  simp [St.setB_box, this]
@[go_sem ↓] theorem put_box' (d : Nat) (r : AV) (b : Nat) : (s.put (some d) r).box b = s.box b := rfl
@[go_sem ↓] theorem put_n' (d : Nat) (r : AV) : (s.put (some d) r).n = s.n := rfl
@[go_sem ↓] theorem setB_n (b : Nat) (x : Option Box) : (s.setB b x).n = s.n := rfl
@[go_sem ↓] theorem init_get (args : List AV) (n t : Nat) : (initSt args n).get t = args.getD t (.c .junk) := rfl
@[go_sem ↓] theorem init_box (args : List AV) (n b : Nat) : (initSt args n).box b = none := rfl
@[go_sem ↓] theorem init_n (args : List AV) (n : Nat) : (initSt args n).n = n := rfl
theorem nomen_put (b d t : Nat) (r : AV) (h : NoMen s b (some d)) (hr : (t == d) = true ∨ r.men b = false) : NoMen (s.put (some t) r) b (some d) := by
  refine ⟨fun u hu => ?_, h.2⟩
  rw [St.get_put]
  split
  · rename_i e
    cases e
    rcases hr with hr | hr
    · simp at hr; subst hr; exact (hu rfl).elim
    · exact hr
  · exact h.1 u hu
theorem nomen_put0 (b t : Nat) (r : AV) (h : NoMen s b none) (hr : r.men b = false) : NoMen (s.put (some t) r) b none := by
  refine ⟨fun u hu => ?_, h.2⟩
  rw [St.get_put]
  split
  · exact hr
  · exact h.1 u hu
theorem nomen_setB (b c : Nat) (d : Option Nat) (bx : Box) (h : NoMen s b d) (hr : bx.men b = false) : NoMen (s.setB c (some bx)) b d := by
  refine ⟨h.1, fun b' y e => ?_⟩
  rw [St.setB_box] at e
  split at e
  · cases e; exact hr
  · exact h.2 b' y e
theorem nomen_setB0 (b c : Nat) (d : Option Nat) (h : NoMen s b d) : NoMen (s.setB c none) b d := by
  refine ⟨h.1, fun b' y e => ?_⟩
  rw [St.setB_box] at e
  split at e
  · cases e
  · exact h.2 b' y e
theorem nomen_init (args : List AV) (n b : Nat) (d : Option Nat) (h : args.all pure1 = true) : NoMen (initSt args n) b d := by
  refine ⟨fun t _ => ?_, fun b' bx e => by cases e⟩
  simp only [init_get, List.getD_eq_getElem?_getD]
  cases ht : args[t]? with
  | none => rfl
  | some x =>
    have hx := List.all_eq_true.1 h x (List.mem_of_getElem? ht)
    cases x with
    | c a => exact pure_men hx b
    | agg cs =>
      show cs.any (·.men b) = false
      rw [List.any_eq_false]
      intro y hy
      have := pure_men (List.all_eq_true.1 hx y hy) b
      simp [this]
    | tup _ => simp [pure1] at hx

end rules
attribute [go_sem] pure_c pure_agg pure_tup pures_nil pures_cons
attribute [go_sem] cond_true cond_false Option.map_some Option.map_none Option.isNone_none Option.isNone_some Option.bind_some Option.bind_none List.getElem?_cons_zero List.getElem?_cons_succ List.getD_cons_zero List.getD_cons_succ

theorem orderOk_of {ops : Array Oper} {rcs : List Rec} {s0 : St} (h1 : pairsOk ops rcs s0 = true) (h2 : ((List.range ops.size).all fun i => (newOf rcs s0 i).isEmpty) = true) : orderOk ops rcs s0 := by
  refine ⟨h1, fun i o hi b hb => ?_⟩
  have hlt : i < ops.size := by
    rcases Nat.lt_or_ge i ops.size with h | h
    · exact h
    · rw [Array.getElem?_eq_none h] at hi; cases hi
  have := List.all_eq_true.1 h2 i (List.mem_range.2 hlt)
  rw [List.isEmpty_iff] at this
  rw [this] at hb; cases hb

theorem and_nomen {s : St} {b : Nat} {d : Option Nat} {A : Prop} (h : NoMen s b d) (k : A) : NoMen s b d ∧ A := ⟨h, k⟩
theorem nomen_p {s : St} {b d t : Nat} {r : AV} (hr : (t == d || !r.men b) = true) (h : NoMen s b (some d)) : NoMen (s.put (some t) r) b (some d) :=
  nomen_put b d t r h (by
    cases hd : t == d with
    | true => exact .inl rfl
    | false => rw [hd] at hr; exact .inr (by simpa using hr))
theorem nomen_p0 {s : St} {b t : Nat} {r : AV} (hr : r.men b = false) (h : NoMen s b none) : NoMen (s.put (some t) r) b none := nomen_put0 b t r h hr
theorem nomen_s {s : St} {b c : Nat} {d : Option Nat} {bx : Box} (hr : bx.men b = false) (h : NoMen s b d) : NoMen (s.setB c (some bx)) b d := nomen_setB b c d bx h hr
theorem nomen_i {args : List AV} {n b : Nat} {d : Option Nat} (h : args.all pure1 = true) : NoMen (initSt args n) b d := nomen_init args n b d h
theorem and_order {ops : Array Oper} {rcs : List Rec} {s0 : St} {A : Prop} (h1 : pairsOk ops rcs s0 = true) (h2 : ((List.range ops.size).all fun i => (newOf rcs s0 i).isEmpty) = true) (h : A) : orderOk ops rcs s0 ∧ A := ⟨orderOk_of h1 h2, h⟩

/-! ### loops -/

/-- A state of which nothing is known. -/
def baseSt (n : Nat) : St := ⟨n, fun _ => .c .junk, fun _ => none⟩
@[go_sem ↓] theorem base_get (n t : Nat) : (baseSt n).get t = .c .junk := rfl
@[go_sem ↓] theorem base_box (n b : Nat) : (baseSt n).box b = none := rfl
@[go_sem ↓] theorem base_n (n : Nat) : (baseSt n).n = n := rfl
theorem nomen_b {n b : Nat} {d : Option Nat} : NoMen (baseSt n) b d := ⟨fun _ _ => rfl, fun _ _ e => by cases e⟩
theorem le_base {s : St} {n : Nat} (h : s.n = n) : s.le (baseSt n) := ⟨h, fun _ => .inl rfl, fun _ => .inl rfl⟩
theorem le_put {s c : St} {t : Nat} {r : AV} (h : s.get t = r) (k : s.le c) : s.le (c.put (some t) r) :=
  ⟨k.len.trans (put_n' t r).symm, fun u => by
    rw [St.get_put]
    split
    · rename_i e; cases e; exact .inr h
    · exact k.get u, k.box⟩
theorem le_box {s c : St} {b : Nat} {x : Option Box} (h : s.box b = x) (k : s.le c) : s.le (c.setB b x) :=
  ⟨k.len, k.get, fun b' => by
    rw [St.setB_box]
    split
    · rename_i e; subst e; exact .inr h
    · exact k.box b'⟩

/-- Round again: with less to do. -/
def Again {α : Type} (I : α → St) (P : α → Prop) (m : α → Nat) (n : Nat) (s2 : St) : Prop := ∃ n' s3, s2.le s3 ∧ (∃ a, P a ∧ s3 = I a ∧ m a = n') ∧ n' < n
theorem again_of {α : Type} {I : α → St} {P : α → Prop} {m : α → Nat} {n : Nat} {s2 : St} (a : α) (hl : s2.le (I a)) (hp : P a) (hm : m a < n) : Again I P m n s2 := ⟨m a, I a, hl, ⟨a, hp, rfl, rfl⟩, hm⟩
/-- A loop, by what holds at each round's begin, and what grows less. -/
theorem loop_rule {C : Cfg} {Γ : Ctx} {c : Code} {K : Ex → St → Prop} {s : St} {α : Type} (I : α → St) (P : α → Prop) (m : α → Nat) (a0 : α) (h0 : s.le (I a0)) (p0 : P a0)
    (step : ∀ a, P a → WPe C Γ c (St.goes (Again I P m (m a)) K) (I a)) : WPe C Γ (.loop c) K s := by
  refine ⟨fun n s1 => ∃ a, P a ∧ s1 = I a ∧ m a = n, ⟨m a0, I a0, h0, a0, p0, rfl, rfl⟩, fun n s1 hs => ?_⟩
  obtain ⟨a, hp, rfl, rfl⟩ := hs
  exact step a hp

/-! ### contracts as functions -/

/-- What a relation between arguments and result says, as a function. -/
noncomputable def ofRel (R : List AV → AV → Prop) (args : List AV) : Option AV :=
  open Classical in if h : ∃ r, R args r then some (Classical.choose h) else none

theorem ofRel_eq {R : List AV → AV → Prop} {args : List AV} {r : AV} (h : R args r) (u : ∀ r', R args r' → r' = r) : ofRel R args = some r := by
  have h' : ∃ r, R args r := ⟨r, h⟩
  unfold ofRel
  rw [dif_pos h', u _ (Classical.choose_spec h')]

theorem ofRel_some {R : List AV → AV → Prop} {args : List AV} {r : AV} (h : ofRel R args = some r) : R args r := by
  unfold ofRel at h
  split at h
  · rename_i h'; cases h; exact Classical.choose_spec h'
  · cases h

/-- A contract function is true of function k. -/
def Good (C : Cfg) (k : FuncId) (f : List AV → Option AV) : Prop := ∀ args r, f args = some r → FnOk C k args r ∧ args.any isTup = false

theorem good_nil {C : Cfg} : Ctx.sound C [] := fun k args r h => by cases h
theorem good_cons {C : Cfg} {k : FuncId} {f : List AV → Option AV} {Γ : Ctx} (h : Good C k f) (t : Ctx.sound C Γ) : Ctx.sound C ((k, f) :: Γ) := by
  intro j args r e
  simp only [Ctx.ask] at e
  cases hj : k == j with
  | true =>
    have : k = j := by simpa using hj
    subst this
    rw [hj] at e; exact h args r e
  | false => rw [hj] at e; exact t j args r e

attribute [go_sem] true_and and_true true_or or_true false_or or_false false_and and_false if_true if_false not_true_eq_false not_false_eq_true true_implies false_implies implies_true ne_eq
  Bool.false_eq_true Bool.true_eq_false beq_self_eq_true exists_eq_left' exists_eq_left and_self Option.some.injEq reduceCtorEq
  List.map_cons List.map_nil List.all_cons List.all_nil List.any_cons List.any_nil Bool.and_true Bool.true_and Bool.and_false Bool.false_and Bool.or_false Bool.false_or Bool.or_true Bool.true_or Bool.not_true Bool.not_false Bool.and_self Bool.or_self
  List.length_cons List.length_nil List.cons_append List.nil_append List.append_nil List.drop_zero List.drop_succ_cons List.drop_nil List.take_zero List.take_succ_cons List.take_nil Nat.add_zero Nat.zero_add Nat.le_refl Nat.zero_le
  Value.cells List.toList_toArray not_false_eq_true

end Go.Ev
