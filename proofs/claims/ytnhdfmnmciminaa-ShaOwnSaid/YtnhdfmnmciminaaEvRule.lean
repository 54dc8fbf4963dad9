/-
  A symbolic executor over abstract states, part 9: the rules by which simp evaluates.
-/
import Derived.Test.YtnhdfmnmciminaaEvEval
import Derived.Laws.Strings
namespace Go.Ev
set_option linter.unusedSimpArgs false
set_option linter.unusedVariables false

/-! ### what an operation does, constructor by constructor -/
section effs
def tyOk (P : Program) (T : TypeId) : Bool := tyIs P T (fun _ => true)
def tyStr (P : Program) (T : TypeId) : Bool := tyIs P T (· matches .string)
def puresB (cs : List AC) : Bool := cs.all (·.pure)
variable {P : Program}

def isArT (P : Program) (T : TypeId) : Option Int := (tyArr P T).map fun p => (p.1 : Int)
section
variable (T : TypeId)
@[go_sem] theorem lenA_string (s : ByteArray) : lenA P T (.c (.lit (.string s))) = if tyStr P T = true then some (s.size : Int) else none := rfl
@[go_sem] theorem lenA_list (n : Nat) (l : List AC) : lenA P T (.c (.list n l)) = if isSlT P T = true then some (n : Int) else none := rfl
@[go_sem] theorem lenA_sl (b n sz : Nat) (nl : Bool) : lenA P T (.c (.sl b n sz nl)) = if isSlT P T = true then some (n : Int) else none := rfl
@[go_sem] theorem lenA_nil : lenA P T (.c (.lit (.slice none 0 0))) = if isSlT P T = true then some 0 else none := rfl
@[go_sem] theorem lenA_agg (cs : List AC) : lenA P T (.agg cs) = isArT P T := rfl
end
/-- What is appended, when it is known. -/
def behE (P : Program) (sz : Nat) (U : TypeId) (pre : Nat → Option Box) (y : AV) : Option (List Nat × Nat × List AC) := behA P sz U pre y
def behS (P : Program) (sz : Nat) (U : TypeId) (b m s : Nat) (nl : Bool) : Option Box → Option (List Nat × Nat × List AC)
  | some bx => if isSlT P U = true ∧ s = sz ∧ bx.nl = nl ∧ m * sz ≤ bx.cells.length ∧ (bx.cells.take (m * sz)).all (·.single) = true then some ([b], m, bx.cells.take (m * sz)) else none
  | none => none
section
variable (sz : Nat) (U : TypeId) (pre : Nat → Option Box)
@[go_sem] theorem behE_list (m : Nat) (flat : List AC) : behE P sz U pre (.c (.list m flat)) = if isSlT P U = true ∧ flat.length = m * sz ∧ flat.all (·.single) = true then some ([], m, flat) else none := rfl
@[go_sem] theorem behE_string (s : ByteArray) : behE P sz U pre (.c (.lit (.string s))) = if tyStr P U = true ∧ sz = 1 then some ([], s.size, bytesL s) else none := rfl
@[go_sem] theorem behE_nil : behE P sz U pre (.c (.lit (.slice none 0 0))) = if isSlT P U = true then some ([], 0, []) else none := rfl
@[go_sem] theorem behE_sl (b m s : Nat) (nl : Bool) : behE P sz U pre (.c (.sl b m s nl)) = behS P sz U b m s nl (pre b) := by
  simp only [behE, behA, behS]; cases pre b <;> rfl
@[go_sem] theorem behS_some (b m s : Nat) (nl nl' : Bool) (cs : List AC) (p : Nat) (row : Bool) : behS P sz U b m s nl (some ⟨cs, p, nl', row⟩) =
  if isSlT P U = true ∧ s = sz ∧ nl' = nl ∧ m * sz ≤ cs.length ∧ (cs.take (m * sz)).all (·.single) = true then some ([b], m, cs.take (m * sz)) else none := rfl
end
def appE (P : Program) (T U : TypeId) (d : Nat) (pre : Nat → Option Box) (x y : AV) (_ : Option Elt) : Option Eff := appA P T U d x y pre
def appF (el : Elt) (d : Nat) (pre : Nat → Option Box) : AV → Option (List Nat × Nat × List AC) → Option Eff
  | .c (.sl b n s nl), some (rd, m, ns) => match pre b with
    | some bx => if s = el.sz ∧ bx.nl = nl ∧ n * el.sz ≤ bx.cells.length ∧ bx.pub ≤ n * el.sz ∧ pre d = none ∧ menL d (bx.cells.take (n * el.sz) ++ ns) = false ∧
            ((n + m) + (n + m) / 4 + 192) * el.by' ≤ 281474976710656 ∧ n + m ≤ 9223372036854775807 then
            some (rd, .c (.sl d (n + m) el.sz (nl && m == 0)), [(b, none), (d, some ⟨bx.cells.take (n * el.sz) ++ ns, bx.pub, nl && m == 0, false⟩)]) else none
    | none => none
  | .c (.lit (.slice none 0 0)), some (rd, m, ns) => if pre d = none ∧ menL d ns = false ∧ (m + m / 4 + 192) * el.by' ≤ 281474976710656 ∧ m ≤ 9223372036854775807 then
            some (rd, .c (.sl d m el.sz (m == 0)), [(d, some ⟨ns, 0, m == 0, false⟩)]) else none
  | _, _ => none
def appG (el : Elt) (d b n s : Nat) (nl : Bool) (pd : Option Box) (rd : List Nat) (m : Nat) (ns : List AC) : Option Box → Option Eff
  | some bx => if s = el.sz ∧ bx.nl = nl ∧ n * el.sz ≤ bx.cells.length ∧ bx.pub ≤ n * el.sz ∧ pd = none ∧ menL d (bx.cells.take (n * el.sz) ++ ns) = false ∧
            ((n + m) + (n + m) / 4 + 192) * el.by' ≤ 281474976710656 ∧ n + m ≤ 9223372036854775807 then
            some (rd, .c (.sl d (n + m) el.sz (nl && m == 0)), [(b, none), (d, some ⟨bx.cells.take (n * el.sz) ++ ns, bx.pub, nl && m == 0, false⟩)]) else none
  | none => none
section
variable (T U : TypeId) (d : Nat) (pre : Nat → Option Box)
@[go_sem] theorem appE_some (x y : AV) (el : Elt) (h : eltOf P T = some el) : appE P T U d pre x y (some el) = appF el d pre x (behE P el.sz U pre y) := by
  unfold appE appA
  simp only [h]
  show (match behA P el.sz U pre y with | some (rd, m, ns) => _ | none => none) = appF el d pre x (behA P el.sz U pre y)
  cases behA P el.sz U pre y with
  | none => cases x with
    | c a => cases a with
      | lit v => simp only [appF]
      | _ => rfl
    | _ => rfl
  | some q =>
    obtain ⟨rd, m, ns⟩ := q
    cases x with
    | c a => cases a with
      | lit v => cases v with
        | slice p n c => cases p <;> cases n <;> cases c <;> rfl
        | _ => rfl
      | _ => rfl
    | _ => rfl
@[go_sem] theorem appF_sl (el : Elt) (b n s : Nat) (nl : Bool) (rd : List Nat) (m : Nat) (ns : List AC) : appF el d pre (.c (.sl b n s nl)) (some (rd, m, ns)) = appG el d b n s nl (pre d) rd m ns (pre b) := by
  simp only [appF, appG]
@[go_sem] theorem appF_nil (el : Elt) (rd : List Nat) (m : Nat) (ns : List AC) : appF el d pre (.c (.lit (.slice none 0 0))) (some (rd, m, ns)) = if pre d = none ∧ menL d ns = false ∧ (m + m / 4 + 192) * el.by' ≤ 281474976710656 ∧ m ≤ 9223372036854775807 then
            some (rd, .c (.sl d m el.sz (m == 0)), [(d, some ⟨ns, 0, m == 0, false⟩)]) else none := rfl
@[go_sem] theorem appG_some (el : Elt) (b n s : Nat) (nl nl' : Bool) (rd : List Nat) (m : Nat) (ns : List AC) (pd : Option Box) (cs : List AC) (p : Nat) (row : Bool) : appG el d b n s nl pd rd m ns (some ⟨cs, p, nl', row⟩) =
   if s = el.sz ∧ nl' = nl ∧ n * el.sz ≤ cs.length ∧ p ≤ n * el.sz ∧ pd = none ∧ menL d (cs.take (n * el.sz) ++ ns) = false ∧
            ((n + m) + (n + m) / 4 + 192) * el.by' ≤ 281474976710656 ∧ n + m ≤ 9223372036854775807 then
            some (rd, .c (.sl d (n + m) el.sz (nl && m == 0)), [(b, none), (d, some ⟨cs.take (n * el.sz) ++ ns, p, nl && m == 0, false⟩)]) else none := rfl
end

def pickE : AV → AV → AV → Option Eff
  | .c (.lit (.bool t)), a, b => some ([], bif t then a else b, [])
  | _, _, _ => none
@[go_sem high] theorem pickE_t (a b : AV) : pickE (.c (.lit (.bool true))) a b = some ([], a, []) := rfl
@[go_sem high] theorem pickE_f (a b : AV) : pickE (.c (.lit (.bool false))) a b = some ([], b, []) := rfl
@[go_sem] theorem pickE_bool (t x y : Bool) : pickE (.c (.lit (.bool t))) (.c (.lit (.bool x))) (.c (.lit (.bool y))) = some ([], .c (.lit (.bool (bif t then x else y))), []) := by cases t <;> rfl
@[go_sem] theorem pickE_int (t : Bool) (k : IntKind) (x y : Int) : pickE (.c (.lit (.bool t))) (.c (.lit (.int k x))) (.c (.lit (.int k y))) = some ([], .c (.lit (.int k (bif t then x else y))), []) := by cases t <;> rfl
@[go_sem] theorem pickE_string (t : Bool) (x y : ByteArray) : pickE (.c (.lit (.bool t))) (.c (.lit (.string x))) (.c (.lit (.string y))) = some ([], .c (.lit (.string (bif t then x else y))), []) := by cases t <;> rfl

theorem single_int (k : IntKind) (n : Int) : AC.single (.lit (.int k n)) = true := rfl
theorem single_bool (b : Bool) : AC.single (.lit (.bool b)) = true := rfl
theorem single_string (b : ByteArray) : AC.single (.lit (.string b)) = true := rfl
theorem single_pointer (p : Option Addr) : AC.single (.lit (.pointer p)) = true := rfl
theorem single_slice (p : Option Addr) (n c : Nat) : AC.single (.lit (.slice p n c)) = true := rfl
theorem single_ptr (b o : Nat) : AC.single (.ptr b o) = true := rfl
theorem single_sl (b n z : Nat) (l : Bool) : AC.single (.sl b n z l) = true := rfl
theorem single_list (n : Nat) (l : List AC) : AC.single (.list n l) = true := rfl
theorem single_iptr (l : List AC) : AC.single (.iptr l) = true := rfl
theorem single_opq (p : Mem → Value → Prop) : AC.single (.opq p) = true := rfl
def singles (cs : List AC) : Bool := cs.all (·.single)
theorem singles_nil : singles [] = true := rfl
theorem singles_cons (a : AC) (cs : List AC) : singles (a :: cs) = (a.single && singles cs) := rfl
theorem cellsOf_c (a : AC) : cellsOf (.c a) = bif a.single then some [a] else none := by
  simp only [cellsOf]; cases a.single <;> rfl
theorem cellsOf_agg (cs : List AC) : cellsOf (.agg cs) = bif singles cs then some cs else none := by
  simp only [cellsOf, singles]; cases (cs.all (·.single)) <;> rfl
attribute [go_sem] single_int single_bool single_string single_pointer single_slice single_ptr single_sl single_list single_iptr single_opq singles_nil singles_cons cellsOf_c cellsOf_agg

theorem menL_nil (d : Nat) : menL d [] = false := rfl
theorem menL_cons (d : Nat) (a : AC) (cs : List AC) : menL d (a :: cs) = (a.men d || menL d cs) := rfl
theorem men_lit (v : Value) (b : Nat) : (AC.lit v).men b = false := rfl
theorem men_list (n : Nat) (l : List AC) (b : Nat) : (AC.list n l).men b = false := rfl
theorem men_iptr (l : List AC) (b : Nat) : (AC.iptr l).men b = false := rfl
theorem men_opq (p : Mem → Value → Prop) (b : Nat) : (AC.opq p).men b = false := rfl
theorem men_junk (b : Nat) : AC.junk.men b = false := rfl
theorem men_ptr (b' o b : Nat) : (AC.ptr b' o).men b = (b' == b) := rfl
theorem men_sl (b' n z : Nat) (l : Bool) (b : Nat) : (AC.sl b' n z l).men b = (b' == b) := rfl
theorem menA_c (a : AC) (b : Nat) : (AV.c a).men b = a.men b := rfl
theorem menA_agg (cs : List AC) (b : Nat) : (AV.agg cs).men b = menL b cs := rfl
def menT (b : Nat) (xs : List AV) : Bool := xs.any (men1 b)
theorem menA_tup (xs : List AV) (b : Nat) : (AV.tup xs).men b = menT b xs := rfl
theorem menT_nil (b : Nat) : menT b [] = false := rfl
theorem menT_c (b : Nat) (a : AC) (xs : List AV) : menT b (.c a :: xs) = (a.men b || menT b xs) := rfl
theorem menT_agg (b : Nat) (cs : List AC) (xs : List AV) : menT b (.agg cs :: xs) = (menL b cs || menT b xs) := rfl
theorem boxmen (cs : List AC) (p : Nat) (n : Bool) (b : Nat) : (Box.mk cs p n false).men b = menL b cs := rfl
theorem boxmen_row (cs : List AC) (p : Nat) (n : Bool) (b : Nat) : (Box.mk cs p n true).men b = false := rfl
attribute [go_sem] menL_nil menL_cons men_lit men_list men_iptr men_opq men_junk men_ptr men_sl menA_c menA_agg menA_tup menT_nil menT_c menT_agg boxmen boxmen_row

theorem const_int (k : IntKind) (n : Int) : constAV (.int k n) = .c (.lit (.int k n)) := rfl
theorem const_bool (b : Bool) : constAV (.bool b) = .c (.lit (.bool b)) := rfl
theorem const_string (b : ByteArray) : constAV (.string b) = .c (.lit (.string b)) := rfl
theorem const_pointer (p : Option Addr) : constAV (.pointer p) = .c (.lit (.pointer p)) := rfl
theorem const_slice (p : Option Addr) (n c : Nat) : constAV (.slice p n c) = .c (.lit (.slice p n c)) := rfl
theorem const_agg (cs : List Value) : constAV (.agg cs.toArray) = .agg (cs.map .lit) := rfl
attribute [go_sem] const_int const_bool const_string const_pointer const_slice const_agg

def boxE (d : Nat) (pre : Option Box) : Option (List AC) → Option Eff
  | some cs => if pre = none ∧ menL d cs = false then some ([], .c (.ptr d 0), [(d, some ⟨cs, 0, false, false⟩)]) else none
  | none => none
@[go_sem] theorem boxE_some (d : Nat) (pre : Option Box) (cs : List AC) : boxE d pre (some cs) = if pre = none ∧ menL d cs = false then some ([], .c (.ptr d 0), [(d, some ⟨cs, 0, false, false⟩)]) else none := rfl
def zeroL (P : Program) (T : TypeId) : Option (List AC) := (tyZero P T).map fun z => z.cells.toList.map .lit
def allocE (d : Nat) (pre : Option Box) : Option (List AC) → Option Eff
  | some cs => if pre = none then some ([], .c (.ptr d 0), [(d, some ⟨cs, 0, false, false⟩)]) else none
  | none => none
@[go_sem] theorem allocE_some (d : Nat) (pre : Option Box) (cs : List AC) : allocE d pre (some cs) = if pre = none then some ([], .c (.ptr d 0), [(d, some ⟨cs, 0, false, false⟩)]) else none := rfl

def loadB (P : Program) (T : TypeId) (b off : Nat) : Option Box → Option Eff
  | some ⟨cs, _, false, _⟩ => (loadA P T cs off).map fun r => ([b], r, [])
  | _ => none
@[go_sem] theorem loadB_some (T : TypeId) (b off : Nat) (cs : List AC) (p : Nat) (r : Bool) : loadB P T b off (some ⟨cs, p, false, r⟩) = (loadA P T cs off).map fun r => ([b], r, []) := rfl
def loadE (P : Program) (T : TypeId) (pre : Nat → Option Box) : AV → Option Eff
  | .c (.ptr b off) => loadB P T b off (pre b)
  | .c (.iptr flat) => (loadA P T flat 0).map fun r => ([], r, [])
  | _ => none
@[go_sem] theorem loadE_ptr (T : TypeId) (s : St) (b off : Nat) : loadE P T s.box (.c (.ptr b off)) = loadB P T b off (s.box b) := rfl
@[go_sem] theorem loadE_iptr (T : TypeId) (pre : Nat → Option Box) (flat : List AC) : loadE P T pre (.c (.iptr flat)) = (loadA P T flat 0).map fun r => ([], r, []) := rfl

def loadG (n : Nat) (cells : List AC) (off : Nat) : Option AV := if off + n ≤ cells.length then some (.agg ((cells.drop off).take n)) else none
@[go_sem] theorem loadG_eq (n : Nat) (cells : List AC) (off : Nat) : loadG n cells off = if off + n ≤ cells.length then some (.agg ((cells.drop off).take n)) else none := rfl
def loadC (cells : List AC) (off : Nat) : Option AV := (cells[off]?).map .c
@[go_sem] theorem loadC_zero (a : AC) (cs : List AC) : loadC (a :: cs) 0 = some (.c a) := rfl
@[go_sem] theorem loadC_succ (a : AC) (cs : List AC) (i : Nat) : loadC (a :: cs) (i + 1) = loadC cs i := rfl
theorem ld_c {T : TypeId} (h : tyAgg P T = some false) (cells : List AC) (off : Nat) : loadA P T cells off = loadC cells off := by simp [loadA, h, loadC]
theorem ld_agg {T : TypeId} {n : Nat} (h : tyAgg P T = some true) (h2 : tySize P T = some n) (cells : List AC) (off : Nat) : loadA P T cells off = loadG n cells off := by simp [loadA, h, h2, loadG]

def storeB (b off : Nat) : Option Nat → Option Box → Option (List AC) → Option Eff
  | some n, some ⟨cells, pub, false, row⟩, some cs =>
    if n = cs.length ∧ pub ≤ off ∧ off + cs.length ≤ cells.length ∧ (row = true → cs.all (·.pure) = true) then some ([], .c .junk, [(b, some ⟨spliceA cells cs off, pub, false, row⟩)]) else none
  | _, _, _ => none
@[go_sem] theorem storeB_f (n b off : Nat) (cells : List AC) (pub : Nat) (cs : List AC) : storeB b off (some n) (some ⟨cells, pub, false, false⟩) (some cs) =
    if n = cs.length ∧ pub ≤ off ∧ off + cs.length ≤ cells.length then some ([], .c .junk, [(b, some ⟨spliceA cells cs off, pub, false, false⟩)]) else none := by simp [storeB]
@[go_sem] theorem storeB_t (n b off : Nat) (cells : List AC) (pub : Nat) (cs : List AC) : storeB b off (some n) (some ⟨cells, pub, false, true⟩) (some cs) =
    if n = cs.length ∧ pub ≤ off ∧ off + cs.length ≤ cells.length ∧ cs.all (·.pure) = true then some ([], .c .junk, [(b, some ⟨spliceA cells cs off, pub, false, true⟩)]) else none := by simp [storeB]
@[go_sem] theorem spliceA_nil (cells : List AC) : spliceA cells [] 0 = cells := rfl
@[go_sem] theorem spliceA_cons (c a : AC) (cells cs : List AC) : spliceA (c :: cells) (a :: cs) 0 = a :: spliceA cells cs 0 := by simp [spliceA]
@[go_sem] theorem spliceA_succ (c : AC) (cells cs : List AC) (i : Nat) : spliceA (c :: cells) cs (i + 1) = c :: spliceA cells cs i := by
  simp [spliceA, Nat.add_right_comm]
def storeE (P : Program) (T : TypeId) (pre : Nat → Option Box) (y : AV) : AV → Option Eff
  | .c (.ptr b off) => storeB b off (tySize P T) (pre b) (cellsOf y)
  | _ => none
@[go_sem] theorem storeE_ptr (T : TypeId) (s : St) (y : AV) (b off : Nat) : storeE P T s.box y (.c (.ptr b off)) = storeB b off (tySize P T) (s.box b) (cellsOf y) := rfl

def nilE : AV → Option Eff
  | .c (.ptr b off) => some ([], .c (.ptr b off), [])
  | .c (.iptr f) => some ([], .c (.iptr f), [])
  | _ => none
@[go_sem] theorem nilE_ptr (b off : Nat) : nilE (.c (.ptr b off)) = some ([], .c (.ptr b off), []) := rfl
@[go_sem] theorem nilE_iptr (f : List AC) : nilE (.c (.iptr f)) = some ([], .c (.iptr f), []) := rfl

/-- Bits of whole numbers of a kind. -/
def wAnd (k : IntKind) (a b : Int) : Int := k.wrap (BitVec.ofInt k.bits a &&& BitVec.ofInt k.bits b).toNat
def wOr (k : IntKind) (a b : Int) : Int := k.wrap (BitVec.ofInt k.bits a ||| BitVec.ofInt k.bits b).toNat
def wXor (k : IntKind) (a b : Int) : Int := k.wrap (BitVec.ofInt k.bits a ^^^ BitVec.ofInt k.bits b).toNat
def wNot (k : IntKind) (n : Int) : Int := k.wrap (BitVec.ofInt k.bits (if k.signed then -1 else k.max) ^^^ BitVec.ofInt k.bits n).toNat
def wShl (k : IntKind) (a b : Int) : Int := k.wrap (a * 2 ^ (min b.toNat k.bits))
def wShr (k : IntKind) (a b : Int) : Int := a.fdiv (2 ^ (min b.toNat k.bits))
noncomputable def binE (P : Program) (o : BinOp) (T : TypeId) : AV → AV → Option Eff
  | .c (.lit a), .c (.lit b) => (binA P o T a b).map fun r => ([], .c (.lit r), [])
  | .agg as, .agg bs => if o = .eql ∨ o = .neq then (eqG P T as bs).map fun r => ([], .c (.lit (.bool (r == decide (o = .eql)))), []) else none
  | _, _ => none
/-- == of aggregates: an array's length and kind, if it is one. -/
noncomputable def eqH (P : Program) (T : TypeId) (as bs : List AC) (_ : Option (Nat × IntKind)) : Option Bool := eqG P T as bs
@[go_sem] theorem eqH_arr (T : TypeId) (k : IntKind) (a b : List Int) (len : Nat) (h : arrK P T = some (len, k)) : eqH P T (IL k a) (IL k b) (some (len, k)) = if a.length = len ∧ b.length = len then some (decide (a = b)) else eqT P T (IL k a) (IL k b) := by
  simp only [eqH, eqG, h, eqArr, unILk_IL]
  by_cases hh : a.length = len ∧ b.length = len
  · simp only [if_pos hh]
  · simp only [if_neg hh]
theorem eqH_struct (T : TypeId) (as bs : List AC) (h : arrK P T = none) : eqH P T as bs none = eqT P T as bs := by
  simp only [eqH, eqG, h, eqArr]
attribute [go_sem] eqH_struct
@[go_sem] theorem binE_aeql (T : TypeId) (as bs : List AC) : binE P .eql T (.agg as) (.agg bs) = (eqH P T as bs (arrK P T)).map fun r => ([], .c (.lit (.bool r)), []) := by simp [binE, eqH]
@[go_sem] theorem binE_aneq (T : TypeId) (as bs : List AC) : binE P .neq T (.agg as) (.agg bs) = (eqH P T as bs (arrK P T)).map fun r => ([], .c (.lit (.bool !r)), []) := by simp [binE, eqH]
def tyB (P : Program) (T : TypeId) : Bool := tyIs P T (· matches .bool)
@[go_sem] theorem binE_beql (T : TypeId) (a b : Bool) : binE P .eql T (.c (.lit (.bool a))) (.c (.lit (.bool b))) = if tyB P T = true then some ([], .c (.lit (.bool (a == b))), []) else none := by
  have e : binE P .eql T (.c (.lit (.bool a))) (.c (.lit (.bool b))) = (if tyB P T = true then some (Value.bool (a == b)) else none).map fun r => ([], .c (.lit r), []) := rfl
  rw [e]; cases tyB P T <;> rfl
@[go_sem] theorem binE_bneq (T : TypeId) (a b : Bool) : binE P .neq T (.c (.lit (.bool a))) (.c (.lit (.bool b))) = if tyB P T = true then some ([], .c (.lit (.bool (a != b))), []) else none := by
  have e : binE P .neq T (.c (.lit (.bool a))) (.c (.lit (.bool b))) = (if tyB P T = true then some (Value.bool (a != b)) else none).map fun r => ([], .c (.lit r), []) := rfl
  rw [e]; cases tyB P T <;> rfl
@[go_sem] theorem biA_min (C : Cfg) (d : Option Nat) (ats : List TypeId) (pre : Nat → Option Box) (k k' : IntKind) (a b : Int) : biA C .min d ats [.c (.lit (.int k a)), .c (.lit (.int k' b))] pre = some ([], .c (.lit (.int k (if b < a then b else a))), []) := rfl
@[go_sem] theorem biA_max (C : Cfg) (d : Option Nat) (ats : List TypeId) (pre : Nat → Option Box) (k k' : IntKind) (a b : Int) : biA C .max d ats [.c (.lit (.int k a)), .c (.lit (.int k' b))] pre = some ([], .c (.lit (.int k (if a < b then b else a))), []) := rfl
def lenE : Option Int → Option Eff
  | some n => some ([], .c (.lit (.int .i64 n)), [])
  | none => none
@[go_sem] theorem lenE_some (n : Int) : lenE (some n) = some ([], .c (.lit (.int .i64 n)), []) := rfl
@[go_sem] theorem lenE_if (c : Prop) [Decidable c] (n : Int) : lenE (if c then some n else none) = if c then some ([], .c (.lit (.int .i64 n)), []) else none := by split <;> rfl
@[go_sem] theorem biA_len (C : Cfg) (d : Option Nat) (T : TypeId) (pre : Nat → Option Box) (v : AV) : biA C .len d [T] [v] pre = lenE (lenA C.P T v) := by
  simp only [biA]; cases lenA C.P T v <;> rfl
@[go_sem] theorem biA_append (C : Cfg) (d : Nat) (T U : TypeId) (pre : Nat → Option Box) (x y : AV) : biA C .append (some d) [T, U] [x, y] pre = appE C.P T U d pre x y (eltOf C.P T) := by
  unfold appE; rfl
section
variable (T : TypeId) (k : IntKind) (a b : Int) (x y : ByteArray)
@[go_sem] theorem binE_add : binE P .add T (.c (.lit (.int k a))) (.c (.lit (.int k b))) = some ([], .c (.lit (.int k (k.wrap (a + b)))), []) := by simp [binE, binA, intBin]
@[go_sem] theorem binE_sub : binE P .sub T (.c (.lit (.int k a))) (.c (.lit (.int k b))) = some ([], .c (.lit (.int k (k.wrap (a - b)))), []) := by simp [binE, binA, intBin]
@[go_sem] theorem binE_mul : binE P .mul T (.c (.lit (.int k a))) (.c (.lit (.int k b))) = some ([], .c (.lit (.int k (k.wrap (a * b)))), []) := by simp [binE, binA, intBin]
@[go_sem] theorem binE_quo : binE P .quo T (.c (.lit (.int k a))) (.c (.lit (.int k b))) = if b ≠ 0 then some ([], .c (.lit (.int k (k.wrap (a.tdiv b)))), []) else none := by
  by_cases h : b = 0 <;> simp [binE, binA, intBin, h]
@[go_sem] theorem binE_rem : binE P .rem T (.c (.lit (.int k a))) (.c (.lit (.int k b))) = if b ≠ 0 then some ([], .c (.lit (.int k (a.tmod b))), []) else none := by
  by_cases h : b = 0 <;> simp [binE, binA, intBin, h]
@[go_sem] theorem binE_and : binE P .and T (.c (.lit (.int k a))) (.c (.lit (.int k b))) = some ([], .c (.lit (.int k (wAnd k a b))), []) := by simp [binE, binA, intBin, wAnd]
@[go_sem] theorem binE_or : binE P .or T (.c (.lit (.int k a))) (.c (.lit (.int k b))) = some ([], .c (.lit (.int k (wOr k a b))), []) := by simp [binE, binA, intBin, wOr]
@[go_sem] theorem binE_xor : binE P .xor T (.c (.lit (.int k a))) (.c (.lit (.int k b))) = some ([], .c (.lit (.int k (wXor k a b))), []) := by simp [binE, binA, intBin, wXor]
@[go_sem] theorem binE_andNot : binE P .andNot T (.c (.lit (.int k a))) (.c (.lit (.int k b))) = some ([], .c (.lit (.int k (k.wrap (BitVec.ofInt k.bits a &&& ~~~BitVec.ofInt k.bits b).toNat))), []) := by simp [binE, binA, intBin]
@[go_sem] theorem binE_eql : binE P .eql T (.c (.lit (.int k a))) (.c (.lit (.int k b))) = some ([], .c (.lit (.bool (decide (a = b)))), []) := by simp [binE, binA, intBin]; rfl
@[go_sem] theorem binE_neq : binE P .neq T (.c (.lit (.int k a))) (.c (.lit (.int k b))) = some ([], .c (.lit (.bool (!decide (a = b)))), []) := by simp [binE, binA, intBin]; rfl
@[go_sem] theorem binE_lss : binE P .lss T (.c (.lit (.int k a))) (.c (.lit (.int k b))) = some ([], .c (.lit (.bool (decide (a < b)))), []) := by simp [binE, binA, intBin]
@[go_sem] theorem binE_leq : binE P .leq T (.c (.lit (.int k a))) (.c (.lit (.int k b))) = some ([], .c (.lit (.bool (decide (a ≤ b)))), []) := by simp [binE, binA, intBin]
@[go_sem] theorem binE_gtr : binE P .gtr T (.c (.lit (.int k a))) (.c (.lit (.int k b))) = some ([], .c (.lit (.bool (decide (b < a)))), []) := by simp [binE, binA, intBin]
@[go_sem] theorem binE_geq : binE P .geq T (.c (.lit (.int k a))) (.c (.lit (.int k b))) = some ([], .c (.lit (.bool (decide (b ≤ a)))), []) := by simp [binE, binA, intBin]
@[go_sem] theorem binE_shl (k' : IntKind) : binE P .shl T (.c (.lit (.int k a))) (.c (.lit (.int k' b))) = if 0 ≤ b then some ([], .c (.lit (.int k (wShl k a b))), []) else none := by
  by_cases h : 0 ≤ b <;> simp [binE, binA, intBin, wShl, h]
@[go_sem] theorem binE_shr (k' : IntKind) : binE P .shr T (.c (.lit (.int k a))) (.c (.lit (.int k' b))) = if 0 ≤ b then some ([], .c (.lit (.int k (wShr k a b))), []) else none := by
  by_cases h : 0 ≤ b <;> simp [binE, binA, intBin, wShr, h]
@[go_sem] theorem binE_sadd : binE P .add T (.c (.lit (.string x))) (.c (.lit (.string y))) = if ((x.size + y.size : Nat) : Int) ≤ 9223372036854775807 then some ([], .c (.lit (.string (x ++ y))), []) else none := by
  by_cases h : ((x.size + y.size : Nat) : Int) ≤ 9223372036854775807 <;> simp only [binE, binA, strBin, h, if_true, if_false] <;> rfl
@[go_sem] theorem binE_seql : binE P .eql T (.c (.lit (.string x))) (.c (.lit (.string y))) = some ([], .c (.lit (.bool (decide (x = y)))), []) := by
  have : (x.toList == y.toList) = decide (x = y) := by
    by_cases h : x = y
    · subst h; simp
    · simp [h]; intro e; apply h; cases x; cases y; simp [ByteArray.toList_eq] at e; simp [e]
  simp only [binE, binA, strBin, this]; rfl
@[go_sem] theorem binE_sneq : binE P .neq T (.c (.lit (.string x))) (.c (.lit (.string y))) = some ([], .c (.lit (.bool (!decide (x = y)))), []) := by
  have : (x.toList == y.toList) = decide (x = y) := by
    by_cases h : x = y
    · subst h; simp
    · simp [h]; intro e; apply h; cases x; cases y; simp [ByteArray.toList_eq] at e; simp [e]
  simp only [binE, binA, strBin, this]; rfl
end

def unE (o : UnOp) : AV → Option Eff
  | .c (.lit a) => (unA o a).map fun r => ([], .c (.lit r), [])
  | _ => none
@[go_sem] theorem unE_neg (k : IntKind) (n : Int) : unE .neg (.c (.lit (.int k n))) = some ([], .c (.lit (.int k (k.wrap (0 - n)))), []) := rfl
@[go_sem] theorem unE_xor (k : IntKind) (n : Int) : unE .xor (.c (.lit (.int k n))) = some ([], .c (.lit (.int k (wNot k n))), []) := rfl
@[go_sem] theorem unE_not (b : Bool) : unE .not (.c (.lit (.bool b))) = some ([], .c (.lit (.bool !b)), []) := rfl

section
variable (same : Bool) (cs cd : CK) (dst : Option Nat) (pre : Nat → Option Box)
@[go_sem] theorem convX_int (k k' : IntKind) (n : Int) : convX same true cs (.int k') dst pre (.c (.lit (.int k n))) = some ([], .c (.lit (.int k' (k'.wrap n))), []) := rfl
@[go_sem] theorem convX_str (s : ByteArray) : convX same true cs .str dst pre (.c (.lit (.string s))) = some ([], .c (.lit (.string s)), []) := rfl
@[go_sem] theorem convX_sb (d : Nat) (s : ByteArray) : convX same true cs .bytes (some d) pre (.c (.lit (.string s))) = if pre d = none then some ([], .c (.sl d s.size 1 false), [(d, some ⟨IL .u8 (bytesI s), 0, false, false⟩)]) else none := by
  simp [convX, bytesL_eq]
@[go_sem] theorem convX_bs (n : Nat) (l : List Int) (ok : Bool) : convX same ok .bytes .str dst pre (.c (.list n (IL .u8 l))) = if l.length = n then some ([], .c (.lit (.string (textOf l))), []) else none := by
  simp [convX, unIL_IL]
@[go_sem] theorem convX_nil (ok : Bool) : convX same ok .bytes .str dst pre (.c (.lit (.slice none 0 0))) = some ([], .c (.lit (.string .empty)), []) := rfl
noncomputable def convC (same : Bool) (b n sz : Nat) (nl : Bool) (cd : CK) (bx : Option Box) : Option Eff := convB same b n sz nl cd bx (bx.bind fun bx => unIL (bx.cells.take n))
@[go_sem] theorem convX_sl (b n sz : Nat) (nl ok : Bool) : convX same ok .bytes cd dst pre (.c (.sl b n sz nl)) = convC same b n sz nl cd (pre b) := rfl
@[go_sem] theorem convC_bytes (b n sz : Nat) (nl nl' : Bool) (c : List AC) (p : Nat) (row : Bool) : convC same b n sz nl .bytes (some ⟨c, p, nl', row⟩) = if same = true ∧ nl = false ∧ nl' = false then some ([], .c (.sl b n sz false), [(b, some ⟨c, p, nl', row⟩)]) else none := rfl
noncomputable def convD (b n sz : Nat) (nl : Bool) (bx : Box) (cs : List AC) : Option Eff := convB false b n sz nl .str (some bx) (unIL cs)
theorem convB_str (l : Option (List Int)) (b n sz : Nat) (nl : Bool) (bx : Option Box) : convB same b n sz nl .str bx l = convB false b n sz nl .str bx l := by cases bx <;> rfl
@[go_sem] theorem convC_str (b n sz : Nat) (nl nl' : Bool) (c : List AC) (p : Nat) (row : Bool) : convC same b n sz nl .str (some ⟨c, p, nl', row⟩) = convD b n sz nl ⟨c, p, nl', row⟩ (c.take n) := by
  simp only [convC, convD]; rw [convB_str]; rfl
@[go_sem] theorem convD_IL (b n sz : Nat) (nl nl' : Bool) (c : List AC) (p : Nat) (row : Bool) (l : List Int) : convD b n sz nl ⟨c, p, nl', row⟩ (IL .u8 l) = if sz = 1 ∧ nl' = nl ∧ n ≤ c.length ∧ puresB c = true then some ([b], .c (.lit (.string (textOf l))), []) else none := by
  simp only [convD, unIL_IL]; rfl
end
/-! ### items and pieces of values -/
def bndV : AV → Option Int
  | .c (.lit (.int _ n)) => some n
  | _ => none
@[go_sem] theorem bndV_int (k : IntKind) (n : Int) : bndV (.c (.lit (.int k n))) = some n := rfl
theorem bndA_eq (ρ : Operand → AV) (d : Int) (x : Operand) : bndA ρ d (some x) = bndV (ρ x) := rfl
section
variable (T : TypeId)
def ixvN (P : Program) (T : TypeId) : Option (Nat × TypeId × Nat) := match tyArr P T with
  | some (len, E) => (tySize P E).map fun n => (len, E, n)
  | none => none
def ixvB (P : Program) (i : Int) (cs : List AC) : Option (Nat × TypeId × Nat) → Option Eff
  | some (len, E, n) => if 0 ≤ i ∧ i < len then (loadA P E cs (i.toNat * n)).map fun r => ([], r, []) else none
  | none => none
@[go_sem] theorem ixvA_str (s : ByteArray) (k : IntKind) (i : Int) : ixvA P T (.c (.lit (.string s))) (.c (.lit (.int k i))) = if tyStr P T = true ∧ 0 ≤ i ∧ i < s.size then some ([], .c (.lit (.int .u8 ((bytesI s).getD i.toNat 0))), []) else none := rfl
@[go_sem] theorem ixvA_agg (cs : List AC) (k : IntKind) (i : Int) : ixvA P T (.agg cs) (.c (.lit (.int k i))) = ixvB P i cs (ixvN P T) := by
  simp only [ixvA, ixvB, ixvN]
  cases tyArr P T with
  | none => rfl
  | some p => obtain ⟨len, E⟩ := p; simp only; cases tySize P E <;> rfl
def mapR (o : Option AV) : Option Eff := o.map fun r => ([], r, [])
@[go_sem] theorem mapR_some (r : AV) : mapR (some r) = some ([], r, []) := rfl
@[go_sem] theorem mapR_if (c : Prop) [Decidable c] (r : AV) : mapR (if c then some r else none) = if c then some ([], r, []) else none := by split <;> rfl
@[go_sem] theorem ixvB_some (i : Int) (cs : List AC) (len : Nat) (E : TypeId) (n : Nat) : ixvB P i cs (some (len, E, n)) = if 0 ≤ i ∧ i < len then mapR (loadA P E cs (i.toNat * n)) else none := rfl
def fldN (P : Program) (T : TypeId) (f : Nat) : Option (Nat × TypeId) := tyField P T f
def fldvB (P : Program) (cs : List AC) : Option (Nat × TypeId) → Option Eff
  | some (o, U) => mapR (loadA P U cs o)
  | none => none
@[go_sem] theorem fldvA_agg (f : Nat) (cs : List AC) : fldvA P T f (.agg cs) = fldvB P cs (fldN P T f) := by
  simp only [fldvA, fldvB, fldN]; cases tyField P T f <;> rfl
@[go_sem] theorem fldvB_some (cs : List AC) (o : Nat) (U : TypeId) : fldvB P cs (some (o, U)) = mapR (loadA P U cs o) := rfl

def cutS (ok : Bool) (s : ByteArray) : Option Int → Option Int → Option Eff
  | some l, some h => if ok = true ∧ 0 ≤ l ∧ l ≤ h ∧ h ≤ s.size then some ([], .c (.lit (.string (s.extract l.toNat h.toNat))), []) else none
  | _, _ => none
@[go_sem] theorem cutS_some (ok : Bool) (s : ByteArray) (l h : Int) : cutS ok s (some l) (some h) = if ok = true ∧ 0 ≤ l ∧ l ≤ h ∧ h ≤ s.size then some ([], .c (.lit (.string (s.extract l.toNat h.toNat))), []) else none := rfl
def cutL (n : Nat) (flat : List AC) : Option Nat → Option Int → Option Int → Option Eff
  | some sz, some l, some h => if flat.length = n * sz ∧ 0 ≤ l ∧ l ≤ h ∧ h ≤ n then some ([], .c (.list (h.toNat - l.toNat) (pieceL sz l h flat)), []) else none
  | _, _, _ => none
@[go_sem] theorem cutL_some (n : Nat) (flat : List AC) (sz : Nat) (l h : Int) : cutL n flat (some sz) (some l) (some h) = if flat.length = n * sz ∧ 0 ≤ l ∧ l ≤ h ∧ h ≤ n then some ([], .c (.list (h.toNat - l.toNat) (pieceL sz l h flat)), []) else none := rfl
def cutO (b n sz : Nat) (nl : Bool) (es : Option Nat) (bx : Option Box) : Option Int → Option Int → Option Eff
  | some l, some h => slcB b n sz nl es l h bx
  | _, _ => none
@[go_sem] theorem cutO_some (b n sz : Nat) (nl nl' : Bool) (es : Nat) (cs : List AC) (p : Nat) (row : Bool) (l h : Int) : cutO b n sz nl (some es) (some ⟨cs, p, nl', row⟩) (some l) (some h) =
    if es = sz ∧ nl' = nl ∧ n * sz ≤ cs.length ∧ puresB cs = true ∧ 0 ≤ l ∧ l ≤ h ∧ h ≤ n then some ([], .c (.list (h.toNat - l.toNat) (pieceL sz l h (cs.take (n * sz)))), [(b, some ⟨cs, cs.length, nl', row⟩)]) else none := by
  simp only [cutO, slcB, Option.some.injEq]; rfl
def cutN : Option Nat → Option Int → Option Int → Option Eff
  | some _, some l, some h => if l = 0 ∧ h = 0 then some ([], .c (.lit (.slice none 0 0)), []) else none
  | _, _, _ => none
@[go_sem] theorem cutN_some (sz : Nat) (l h : Int) : cutN (some sz) (some l) (some h) = if l = 0 ∧ h = 0 then some ([], .c (.lit (.slice none 0 0)), []) else none := rfl
/-- A piece: hi is what stands there, or the whole length. -/
def cutE (P : Program) (T : TypeId) (pre : Nat → Option Box) (lo : Option Int) (hi : Int → Option Int) (v : AV) : Option Eff := slcA P T pre lo hi v
section
variable (pre : Nat → Option Box) (lo : Option Int) (hi : Int → Option Int)
@[go_sem] theorem cutE_str (s : ByteArray) : cutE P T pre lo hi (.c (.lit (.string s))) = cutS (tyStr P T) s lo (hi s.size) := by
  simp only [cutE, slcA]; cases lo <;> cases hi s.size <;> rfl
@[go_sem] theorem cutE_list (n : Nat) (flat : List AC) : cutE P T pre lo hi (.c (.list n flat)) = cutL n flat (slcS P T) lo (hi n) := by
  simp only [cutE, slcA]; cases lo <;> cases hi n <;> cases slcS P T <;> rfl
@[go_sem] theorem cutE_sl (b n sz : Nat) (nl : Bool) : cutE P T pre lo hi (.c (.sl b n sz nl)) = cutO b n sz nl (slcS P T) (pre b) lo (hi n) := by
  simp only [cutE, slcA]; cases lo <;> cases hi n <;> rfl
@[go_sem] theorem cutE_nil : cutE P T pre lo hi (.c (.lit (.slice none 0 0))) = cutN (slcS P T) lo (hi 0) := by
  simp only [cutE, slcA]; cases lo <;> cases hi 0 <;> cases slcS P T <;> rfl
end
def hiN : Int → Option Int := fun n => some n
def hiV (v : AV) : Int → Option Int := fun _ => bndV v
@[go_sem] theorem hiN_eq (n : Int) : hiN n = some n := rfl
@[go_sem] theorem hiV_eq (v : AV) (n : Int) : hiV v n = bndV v := rfl
end
@[go_sem] theorem mksA_int (d : Nat) (pd : Option Box) (el : Elt) (k k' : IntKind) (n n' : Int) : mksA d pd (some el) (.c (.lit (.int k n))) (.c (.lit (.int k' n'))) =
  if pd = none ∧ n' = n ∧ 0 ≤ n ∧ n * el.by' ≤ 281474976710656 ∧ n ≤ 9223372036854775807 then some ([], .c (.sl d n.toNat el.sz false), [(d, some ⟨zerosL el.z (n.toNat * el.sz), 0, false, false⟩)]) else none := rfl
@[go_sem] theorem mkfA_some (k : FuncId) (f c : List AC) : mkfA k (some f) (some c) = if puresB f = true ∧ puresB c = true then some ([], .c (.clo k f c), []) else none := rfl
@[go_sem] theorem unCs_nil : unCs [] = some [] := rfl
@[go_sem] theorem unCs_cons (a : AC) (l : List AV) : unCs (.c a :: l) = (unCs l).map (a :: ·) := rfl

/-- The offset of a field that has cells. -/
def fldO (P : Program) (T : TypeId) (f : Nat) : Option Nat :=
  match tyField P T f with
  | some (o, U) => match tySize P U with
    | some (_ + 1) => some o
    | _ => none
  | none => none
def fldE : Option Nat → AV → Option Eff
  | some o, .c (.ptr b off) => some ([], .c (.ptr b (off + o)), [])
  | some o, .c (.iptr flat) => some ([], .c (.iptr (flat.drop o)), [])
  | _, _ => none
@[go_sem] theorem fldE_ptr (o b off : Nat) : fldE (some o) (.c (.ptr b off)) = some ([], .c (.ptr b (off + o)), []) := rfl
@[go_sem] theorem fldE_iptr (o : Nat) (flat : List AC) : fldE (some o) (.c (.iptr flat)) = some ([], .c (.iptr (flat.drop o)), []) := rfl

/-- An array's length, and the size of its items; the size of a slice's. -/
def arrN (P : Program) (T : TypeId) : Option (Nat × Nat) :=
  match tyArr P T with
  | some (len, E) => (tySize P E).map fun n => (len, n)
  | none => none
def slcN (P : Program) (T : TypeId) : Option Nat :=
  match tySlice P T with
  | some E => tySize P E
  | none => none
def ixA (i : Int) : Option (Nat × Nat) → AC → Option Eff
  | some (len, n), .ptr b off => if 0 ≤ i ∧ i < len then some ([], .c (.ptr b (off + i.toNat * n)), []) else none
  | some (len, n), .iptr flat => if 0 ≤ i ∧ i < len then some ([], .c (.iptr (flat.drop (i.toNat * n))), []) else none
  | _, _ => none
def ixS (i : Int) : Option Nat → AC → Option Eff
  | some n, .list len flat => if 0 ≤ i ∧ i < len ∧ i.toNat * n < flat.length then some ([], .c (.iptr (flat.drop (i.toNat * n))), []) else none
  | some n, .sl b len n' false => if n = n' ∧ 0 ≤ i ∧ i < len then some ([], .c (.ptr b (i.toNat * n')), []) else none
  | _, _ => none
def ixE (P : Program) (T : TypeId) : AV → AV → Option Eff
  | .c (.ptr b off), .c (.lit (.int _ i)) => ixA i (arrN P T) (.ptr b off)
  | .c (.iptr flat), .c (.lit (.int _ i)) => ixA i (arrN P T) (.iptr flat)
  | .c (.list n flat), .c (.lit (.int _ i)) => ixS i (slcN P T) (.list n flat)
  | .c (.sl b n sz nl), .c (.lit (.int _ i)) => ixS i (slcN P T) (.sl b n sz nl)
  | _, _ => none
section
variable (T : TypeId) (k : IntKind) (i : Int) (b off n sz len : Nat) (nl : Bool) (flat : List AC)
@[go_sem] theorem ixE_ptr : ixE P T (.c (.ptr b off)) (.c (.lit (.int k i))) = ixA i (arrN P T) (.ptr b off) := rfl
@[go_sem] theorem ixE_iptr : ixE P T (.c (.iptr flat)) (.c (.lit (.int k i))) = ixA i (arrN P T) (.iptr flat) := rfl
@[go_sem] theorem ixE_list : ixE P T (.c (.list n flat)) (.c (.lit (.int k i))) = ixS i (slcN P T) (.list n flat) := rfl
@[go_sem] theorem ixE_sl : ixE P T (.c (.sl b n sz nl)) (.c (.lit (.int k i))) = ixS i (slcN P T) (.sl b n sz nl) := rfl
@[go_sem] theorem ixA_ptr : ixA i (some (len, n)) (.ptr b off) = if 0 ≤ i ∧ i < len then some ([], .c (.ptr b (off + i.toNat * n)), []) else none := rfl
@[go_sem] theorem ixA_iptr : ixA i (some (len, n)) (.iptr flat) = if 0 ≤ i ∧ i < len then some ([], .c (.iptr (flat.drop (i.toNat * n))), []) else none := rfl
@[go_sem] theorem ixS_list : ixS i (some n) (.list len flat) = if 0 ≤ i ∧ i < len ∧ i.toNat * n < flat.length then some ([], .c (.iptr (flat.drop (i.toNat * n))), []) else none := rfl
@[go_sem] theorem ixS_sl : ixS i (some n) (.sl b len sz false) = if n = sz ∧ 0 ≤ i ∧ i < len then some ([], .c (.ptr b (i.toNat * sz)), []) else none := rfl
end

def nthA : List AV → Nat → Option Eff
  | [], _ => none
  | a :: _, 0 => some ([], a, [])
  | _ :: as, i + 1 => nthA as i
@[go_sem] theorem nthA_zero (a : AV) (as : List AV) : nthA (a :: as) 0 = some ([], a, []) := rfl
@[go_sem] theorem nthA_succ (a : AV) (as : List AV) (i : Nat) : nthA (a :: as) (i + 1) = nthA as i := rfl
def extE (i : Nat) : AV → Option Eff
  | .tup vs => nthA vs i
  | _ => none
@[go_sem] theorem extE_tup (vs : List AV) (i : Nat) : extE i (.tup vs) = nthA vs i := rfl
theorem nthA_eq (i : Nat) : ∀ vs : List AV, nthA vs i = (vs[i]?).map fun r => ([], r, []) := by
  induction i with
  | zero => intro vs; cases vs <;> rfl
  | succ i ih => intro vs; cases vs with
    | nil => rfl
    | cons a as => simp [nthA, ih]

/-- The parts of a value that is built, over its zero. -/
def fillE (P : Program) (T : TypeId) : List AC → List (Nat × AV) → Option Eff
  | cells, parts => (fillA (buildPlace P T) cells parts).map fun cs => ([], .agg cs, [])
def fillO (P : Program) (T : TypeId) (cells : List AC) (rest : List (Nat × AV)) : Option (Nat × Nat) → Option (List AC) → Option Eff
  | some (off, size), some cs => if cs.length = size ∧ off + cs.length ≤ cells.length then fillE P T (spliceA cells cs off) rest else none
  | _, _ => none
@[go_sem] theorem fillE_nil (T : TypeId) (cells : List AC) : fillE P T cells [] = some ([], .agg cells, []) := rfl
@[go_sem] theorem fillE_cons (T : TypeId) (cells : List AC) (i : Nat) (v : AV) (rest : List (Nat × AV)) : fillE P T cells ((i, v) :: rest) = fillO P T cells rest (buildPlace P T i) (cellsOf v) := by
  unfold fillE fillO
  simp only [fillA]
  cases buildPlace P T i with
  | none => cases cellsOf v <;> rfl
  | some p =>
    obtain ⟨off, size⟩ := p
    cases cellsOf v with
    | none => rfl
    | some cs =>
      by_cases h : cs.length = size ∧ off + cs.length ≤ cells.length
      · have : ¬ (cs.length ≠ size ∨ off + cs.length > cells.length) := by omega
        show Option.map _ (if _ then _ else _) = (if _ then _ else _)
        rw [if_neg this, if_pos h]; rfl
      · have : (cs.length ≠ size ∨ off + cs.length > cells.length) := by omega
        show Option.map _ (if _ then _ else _) = (if _ then _ else _)
        rw [if_pos this, if_neg h]; rfl
@[go_sem] theorem fillO_some (T : TypeId) (cells : List AC) (rest : List (Nat × AV)) (off size : Nat) (cs : List AC) : fillO P T cells rest (some (off, size)) (some cs) =
    if cs.length = size ∧ off + cs.length ≤ cells.length then fillE P T (spliceA cells cs off) rest else none := rfl
/-- The elements of a new slice, over zeros. -/
def fillN (n : Nat) (cells : List AC) (parts : List (Nat × AV)) : Option (List AC) := fillA (fun i => some (i * n, n)) cells parts
def fillM (n : Nat) (cells : List AC) (rest : List (Nat × AV)) (off : Nat) : Option (List AC) → Option (List AC)
  | some cs => if cs.length = n ∧ off + cs.length ≤ cells.length then fillN n (spliceA cells cs off) rest else none
  | none => none
@[go_sem] theorem fillN_nil (n : Nat) (cells : List AC) : fillN n cells [] = some cells := rfl
@[go_sem] theorem fillN_cons (n : Nat) (cells : List AC) (i : Nat) (v : AV) (rest : List (Nat × AV)) : fillN n cells ((i, v) :: rest) = fillM n cells rest (i * n) (cellsOf v) := by
  unfold fillN fillM
  simp only [fillA]
  cases cellsOf v with
  | none => rfl
  | some cs =>
    by_cases h : cs.length = n ∧ i * n + cs.length ≤ cells.length
    · have : ¬ (cs.length ≠ n ∨ i * n + cs.length > cells.length) := by omega
      show (if _ then _ else _) = (if _ then _ else _)
      rw [if_neg this, if_pos h]; rfl
    · have : (cs.length ≠ n ∨ i * n + cs.length > cells.length) := by omega
      show (if _ then _ else _) = (if _ then _ else _)
      rw [if_pos this, if_neg h]
@[go_sem] theorem fillM_some (n : Nat) (cells : List AC) (rest : List (Nat × AV)) (off : Nat) (cs : List AC) : fillM n cells rest off (some cs) =
    if cs.length = n ∧ off + cs.length ≤ cells.length then fillN n (spliceA cells cs off) rest else none := rfl
def rowF (d len n : Nat) (pre : Option Box) : Option (List AC) → Option Eff
  | some cs => if pre = none ∧ menL d cs = false then some ([], .c (.sl d len n false), [(d, some ⟨cs, 0, false, false⟩)]) else none
  | none => none
@[go_sem] theorem rowF_some (d len n : Nat) (pre : Option Box) (cs : List AC) : rowF d len n pre (some cs) = if pre = none ∧ menL d cs = false then some ([], .c (.sl d len n false), [(d, some ⟨cs, 0, false, false⟩)]) else none := rfl
def rowE (d len : Nat) (pre : Option Box) (parts : List (Nat × AV)) : Option (Nat × List AC) → Option Eff
  | some (n, z) => rowF d len n pre (fillN n z parts)
  | none => none
@[go_sem] theorem rowE_some (d len : Nat) (pre : Option Box) (parts : List (Nat × AV)) (n : Nat) (z : List AC) : rowE d len pre parts (some (n, z)) = rowF d len n pre (fillN n z parts) := rfl
def gloE (g : Nat) : Option (List AC) → AV
  | some flat => .c (.iptr flat)
  | none => .c (.lit (.pointer (some ⟨g, 0, none⟩)))
@[go_sem] theorem gloE_some (g : Nat) (flat : List AC) : gloE g (some flat) = .c (.iptr flat) := rfl
@[go_sem] theorem gloE_none (g : Nat) : gloE g none = .c (.lit (.pointer (some ⟨g, 0, none⟩))) := rfl
def buildE (P : Program) (T : TypeId) (parts : List (Nat × AV)) : Option (List AC) → Option Eff
  | some cells => if structOk P T = true then fillE P T cells parts else none
  | none => none
@[go_sem] theorem buildE_some (T : TypeId) (parts : List (Nat × AV)) (cells : List AC) : buildE P T parts (some cells) = if structOk P T = true then fillE P T cells parts else none := rfl
end effs

/-! ### what is handed over -/

def pubS (b n sz : Nat) (nl : Bool) : Option Box → AC
  | some bx => if bx.nl = nl ∧ n * sz ≤ bx.cells.length ∧ bx.cells.all (·.pure) = true then .list n (bx.cells.take (n * sz)) else .sl b n sz nl
  | none => .sl b n sz nl
@[go_sem] theorem pubS_some (b n sz : Nat) (nl nl' : Bool) (cs : List AC) (p : Nat) (row : Bool) : pubS b n sz nl (some ⟨cs, p, nl', row⟩) = if nl' = nl ∧ n * sz ≤ cs.length ∧ puresB cs = true then .list n (cs.take (n * sz)) else .sl b n sz nl := rfl
section
variable (pre : Nat → Option Box)
@[go_sem] theorem pubC_lit (v : Value) : pubC pre (.lit v) = litP v := rfl
@[go_sem] theorem litP_nil : litP (.slice none 0 0) = .list 0 [] := rfl
@[go_sem] theorem litP_bool (b : Bool) : litP (.bool b) = .lit (.bool b) := rfl
@[go_sem] theorem litP_int (k : IntKind) (n : Int) : litP (.int k n) = .lit (.int k n) := rfl
@[go_sem] theorem litP_float (k : FloatKind) (n : Nat) : litP (.float k n) = .lit (.float k n) := rfl
@[go_sem] theorem litP_string (s : ByteArray) : litP (.string s) = .lit (.string s) := rfl
@[go_sem] theorem litP_pointer (a : Option Addr) : litP (.pointer a) = .lit (.pointer a) := rfl
@[go_sem] theorem litP_map (a : Option Nat) : litP (.map a) = .lit (.map a) := rfl
@[go_sem] theorem litP_chan (a : Option Nat) : litP (.chan a) = .lit (.chan a) := rfl
@[go_sem] theorem litP_func (f : Fn) (a b : Array Value) : litP (.func f a b) = .lit (.func f a b) := rfl
@[go_sem] theorem litP_nilFunc : litP .nilFunc = .lit .nilFunc := rfl
@[go_sem] theorem litP_iface (t : TypeId) (v : Value) : litP (.iface t v) = .lit (.iface t v) := rfl
@[go_sem] theorem pubC_list (n : Nat) (l : List AC) : pubC pre (.list n l) = .list n l := rfl
@[go_sem] theorem pubC_iptr (l : List AC) : pubC pre (.iptr l) = .iptr l := rfl
@[go_sem] theorem pubC_ptr (b o : Nat) : pubC pre (.ptr b o) = .ptr b o := rfl
@[go_sem] theorem pubC_opq (p : Mem → Value → Prop) : pubC pre (.opq p) = .opq p := rfl
@[go_sem] theorem pubC_clo (k : Nat) (f c : List AC) : pubC pre (.clo k f c) = .clo k f c := rfl
@[go_sem] theorem pubC_junk : pubC pre .junk = .junk := rfl
@[go_sem] theorem pubC_sl (b n sz : Nat) (nl : Bool) : pubC pre (.sl b n sz nl) = pubS b n sz nl (pre b) := by
  simp only [pubC, pubS]
  cases pre b <;> rfl
def pubCs (cs : List AC) : List AC := cs.map (pubC pre)
@[go_sem] theorem pubCs_nil : pubCs pre [] = [] := rfl
@[go_sem] theorem pubCs_cons (a : AC) (cs : List AC) : pubCs pre (a :: cs) = pubC pre a :: pubCs pre cs := rfl
@[go_sem] theorem pubA_c (a : AC) : pubA pre (.c a) = .c (pubC pre a) := rfl
@[go_sem] theorem pubA_agg (cs : List AC) : pubA pre (.agg cs) = .agg (pubCs pre cs) := rfl
@[go_sem] theorem pubA_tup (vs : List AV) : pubA pre (.tup vs) = .tup vs := rfl
def pubL (as : List AV) : List AV := as.map (pubA pre)
@[go_sem] theorem pubL_nil : pubL pre [] = [] := rfl
@[go_sem] theorem pubL_cons (a : AV) (as : List AV) : pubL pre (a :: as) = pubA pre a :: pubL pre as := rfl
end
def slCs (cs : List AC) : List Nat := cs.flatMap slC
def slL (as : List AV) : List Nat := as.flatMap slA
@[go_sem] theorem slC_lit (v : Value) : slC (.lit v) = [] := rfl
@[go_sem] theorem slC_list (n : Nat) (l : List AC) : slC (.list n l) = [] := rfl
@[go_sem] theorem slC_iptr (l : List AC) : slC (.iptr l) = [] := rfl
@[go_sem] theorem slC_ptr (b o : Nat) : slC (.ptr b o) = [] := rfl
@[go_sem] theorem slC_opq (p : Mem → Value → Prop) : slC (.opq p) = [] := rfl
@[go_sem] theorem slC_clo (k : Nat) (f c : List AC) : slC (.clo k f c) = [] := rfl
@[go_sem] theorem slC_junk : slC .junk = [] := rfl
@[go_sem] theorem slC_sl (b n sz : Nat) (nl : Bool) : slC (.sl b n sz nl) = [b] := rfl
@[go_sem] theorem slCs_nil : slCs [] = [] := rfl
@[go_sem] theorem slCs_cons (a : AC) (cs : List AC) : slCs (a :: cs) = slC a ++ slCs cs := rfl
@[go_sem] theorem slL_nil : slL [] = [] := rfl
@[go_sem] theorem slL_c (a : AC) (as : List AV) : slL (.c a :: as) = slC a ++ slL as := rfl
@[go_sem] theorem slL_agg (cs : List AC) (as : List AV) : slL (.agg cs :: as) = slCs cs ++ slL as := rfl
@[go_sem] theorem slL_tup (vs : List AV) (as : List AV) : slL (.tup vs :: as) = slL as := rfl

/-! ### what is returned -/

@[go_sem ↓] theorem lowBox_eq (s : St) (b : Nat) : lowBox s b = if b < s.n then s.box b else none := rfl
def ResV (s : St) (r : AV) : Option AV → Prop
  | some v => pubA (lowBox s) v = r
  | none => False
@[go_sem] theorem ResV_some (s : St) (r v : AV) : ResV s r (some v) = (pubA (lowBox s) v = r) := rfl
def ResB (P : Program) (T : TypeId) (off : Nat) (s : St) (r : AV) : Option Box → Prop
  | some ⟨cs, _, false, _⟩ => ResV s r (loadA P T cs off)
  | _ => False
@[go_sem] theorem ResB_some {P : Program} (T : TypeId) (off : Nat) (s : St) (r : AV) (cs : List AC) (p : Nat) (w : Bool) : ResB P T off s r (some ⟨cs, p, false, w⟩) = ResV s r (loadA P T cs off) := rfl
def ResC (P : Program) (T : TypeId) (s : St) (r : AV) : AV → Prop
  | .c (.ptr b off) => ResB P T off s r (s.box b)
  | _ => False
@[go_sem] theorem ResC_ptr {P : Program} (T : TypeId) (s : St) (r : AV) (b off : Nat) : ResC P T s r (.c (.ptr b off)) = ResB P T off s r (s.box b) := rfl
def Res1 (P : Program) (s : St) (r : AV) : ResultVar → Prop
  | .tmp t => pubA (lowBox s) (s.get t) = r ∧ isTup r = false
  | .cell a T => ResC P T s r (s.get a)
@[go_sem ↓] theorem Res1_tmp {P : Program} (s : St) (r : AV) (t : Nat) : Res1 P s r (.tmp t) = (pubA (lowBox s) (s.get t) = r ∧ isTup r = false) := rfl
@[go_sem ↓] theorem Res1_cell {P : Program} (s : St) (r : AV) (a : Nat) (T : TypeId) : Res1 P s r (.cell a T) = ResC P T s r (s.get a) := rfl
def ResM (P : Program) (s : St) : List ResultVar → List AV → Prop
  | [], [] => True
  | x :: xs, a :: as => Res1 P s a x ∧ ResM P s xs as
  | _, _ => False
@[go_sem ↓] theorem ResM_nil {P : Program} (s : St) : ResM P s [] [] = True := rfl
@[go_sem ↓] theorem ResM_cons {P : Program} (s : St) (x : ResultVar) (xs : List ResultVar) (a : AV) (as : List AV) : ResM P s (x :: xs) (a :: as) = (Res1 P s a x ∧ ResM P s xs as) := rfl
def ResE (P : Program) (s : St) : List ResultVar → AV → Prop
  | [x], r => Res1 P s r x
  | xs, .tup as => ResM P s xs as
  | _, _ => False
@[go_sem ↓] theorem ResE_one {P : Program} (s : St) (x : ResultVar) (r : AV) : ResE P s [x] r = Res1 P s r x := rfl
@[go_sem ↓] theorem ResE_nil {P : Program} (s : St) (as : List AV) : ResE P s [] (.tup as) = ResM P s [] as := rfl
@[go_sem ↓] theorem ResE_two {P : Program} (s : St) (x y : ResultVar) (xs : List ResultVar) (as : List AV) : ResE P s (x :: y :: xs) (.tup as) = ResM P s (x :: y :: xs) as := rfl
@[go_sem] theorem isTup_c (a : AC) : isTup (.c a) = false := rfl
@[go_sem] theorem isTup_agg (cs : List AC) : isTup (.agg cs) = false := rfl

theorem isTup_pub {pre : Nat → Option Box} {v : AV} (h : isTup (pubA pre v) = false) (vs : List AV) : v ≠ .tup vs := fun e => by subst e; simp [pubA, isTup] at h

theorem Res1_of {P : Program} {s : St} {r : AV} {x : ResultVar} (h : Res1 P s r x) : ResP1 P s x r := by
  cases x with
  | tmp t => exact ⟨s.get t, ⟨rfl, isTup_pub (pre := lowBox s) (h.1 ▸ h.2)⟩, h.1.symm⟩
  | cell a T =>
    simp only [Res1] at h
    unfold ResC at h
    split at h
    · rename_i b off e
      unfold ResB at h
      split at h
      · rename_i cs p w e2
        unfold ResV at h
        split at h
        · rename_i v hv
          exact ⟨v, ⟨b, off, _, e, e2, rfl, loadA_or hv⟩, h.symm⟩
        · exact h.elim
      · exact h.elim
    · exact h.elim
theorem ResM_of {P : Program} {s : St} : ∀ (xs : List ResultVar) (as : List AV), ResM P s xs as → ResPL P s xs as
  | [], [], _ => trivial
  | _ :: xs, _ :: as, h => ⟨Res1_of h.1, ResM_of xs as h.2⟩
theorem ResE_of {P : Program} {s : St} {xs : List ResultVar} {r : AV} (h : ResE P s xs r) : ResP P s xs r := by
  unfold ResE at h
  split at h
  · exact Res1_of h
  · rename_i as hx
    unfold ResP
    split
    · exact (hx _ rfl).elim
    · exact ⟨as, rfl, ResM_of _ _ h⟩
  · exact h.elim

/-- The boxes that were handed in, at the end. -/
def finB (s : St) : List (Nat × Box × Box) → Prop
  | [] => True
  | x :: l => s.box x.1 = some x.2.2 ∧ finB s l
@[go_sem ↓] theorem finB_nil (s : St) : finB s [] = True := rfl
@[go_sem ↓] theorem finB_cons (s : St) (i : Nat) (a b : Box) (l : List (Nat × Box × Box)) : finB s ((i, a, b) :: l) = (s.box i = some b ∧ finB s l) := rfl
theorem finB_of {s : St} : ∀ {l : List (Nat × Box × Box)}, finB s l → ∀ x ∈ l, s.box x.1 = some x.2.2
  | [], _, x, hx => by cases hx
  | y :: l, h, x, hx => by
    rcases List.mem_cons.1 hx with g | g
    · subst g; exact h.1
    · exact finB_of h.2 x g

/-- Where a function ends. -/
def EndE (P : Program) (n : Nat) (rs : List ResultVar) (r : AV) (bxs : List (Nat × Box × Box)) : Ex → St → Prop
  | .normal, s => ResE P s rs r ∧ s.n = n ∧ finB s bxs
  | .ret, s => ResE P s rs r ∧ s.n = n ∧ finB s bxs
  | .exit _, _ => False
@[go_sem ↓] theorem EndE_normal {P : Program} (n : Nat) (rs : List ResultVar) (r : AV) (bxs : List (Nat × Box × Box)) (s : St) : EndE P n rs r bxs .normal s = (ResE P s rs r ∧ s.n = n ∧ finB s bxs) := rfl
@[go_sem ↓] theorem EndE_ret {P : Program} (n : Nat) (rs : List ResultVar) (r : AV) (bxs : List (Nat × Box × Box)) (s : St) : EndE P n rs r bxs .ret s = (ResE P s rs r ∧ s.n = n ∧ finB s bxs) := rfl

/-- THE CONTRACT OF A FUNCTION by evaluation of its code. -/
theorem fnOk_eval {C : Cfg} (Γ : Ctx) (hΓ : Γ.sound C) {k : FuncId} {fn : Func} {c : Code} {args : List AV} {r : AV} {n : Nat} {rs : List ResultVar} (hm : C.P.follows .mixedOrders = true) (hf : C.P.funcs[k]? = some fn) (hb : fn.body = some c)
    (hn : (fn.name == "runtime.NumGoroutine") = false) (hnt : fn.ntmps = n) (hrs : fn.results.toList = rs) (ha : args.length ≤ n) (hp : args.all pure1 = true) (hr : r.pure = true)
    (h : WPe C Γ c (EndE C.P n rs r []) (initSt args n)) : FnOk C k args r := by
  subst hnt
  subst hrs
  refine fnOk_of_wpc hm hf hb hn hp hr ha (WPc.mono c (fun e s hs => ?_) (wpe_c hΓ c h))
  cases e with
  | normal => exact ⟨.inl rfl, ResE_of hs.1, hs.2.1⟩
  | ret => exact ⟨.inr rfl, ResE_of hs.1, hs.2.1⟩
  | exit id => exact hs.elim

/-- The contract of a function that is handed boxes. -/
theorem fnOkB_eval {C : Cfg} (Γ : Ctx) (hΓ : Γ.sound C) {k : FuncId} {fn : Func} {c : Code} {args : List AV} {r : AV} {n : Nat} {rs : List ResultVar} (bxs : List (Nat × Box × Box)) (hm : C.P.follows .mixedOrders = true) (hf : C.P.funcs[k]? = some fn) (hb : fn.body = some c)
    (hn : (fn.name == "runtime.NumGoroutine") = false) (hnt : fn.ntmps = n) (hrs : fn.results.toList = rs) (ha : args.length ≤ n) (hp : args.all (argOk n) = true) (hr : r.pure = true) (hB : ∀ x ∈ bxs, BoxOk n x)
    (h : WPe C Γ c (EndE C.P n rs r bxs) (initB args n bxs)) (f : Nat → Nat) (hinj : ∀ x ∈ bxs, ∀ y ∈ bxs, f x.1 = f y.1 → x = y) (pre : Nat → Option Box) (hpre : ∀ x ∈ bxs, pre (f x.1) = some x.2.1) :
    FnOkB C k (args.map (AV.ren f)) pre r (bxs.map fun x => (f x.1, some x.2.2)) := by
  subst hnt
  subst hrs
  refine fnOkB_of_wpc bxs hm hf hb hn hp hr ha hB (WPc.mono c (fun e s hs => ?_) (wpe_c hΓ c h)) f hinj pre hpre
  cases e with
  | normal => exact ⟨.inl rfl, ResE_of hs.1, hs.2.1, finB_of hs.2.2⟩
  | ret => exact ⟨.inr rfl, ResE_of hs.1, hs.2.1, finB_of hs.2.2⟩
  | exit id => exact hs.elim

/-- One box, handed over by a pointer. -/
theorem fnOkB_one {C : Cfg} (Γ : Ctx) (hΓ : Γ.sound C) {k : FuncId} {fn : Func} {c : Code} {args : List AV} {r : AV} {n : Nat} {rs : List ResultVar} (b off : Nat) (x y : Box) (hm : C.P.follows .mixedOrders = true) (hf : C.P.funcs[k]? = some fn) (hb : fn.body = some c)
    (hn : (fn.name == "runtime.NumGoroutine") = false) (hnt : fn.ntmps = n) (hrs : fn.results.toList = rs) (ha : args.length + 1 ≤ n) (hp : args.all pure1 = true) (hr : r.pure = true)
    (h1 : puresB x.cells = true) (h2 : puresB y.cells = true) (h3 : x.nl = false) (h4 : y.nl = false)
    (h : WPe C Γ c (EndE C.P n rs r [(n, x, y)]) (initB (.c (.ptr n off) :: args) n [(n, x, y)])) (pre : Nat → Option Box) (hpre : pre b = some x) :
    FnOkB C k (.c (.ptr b off) :: args) pre r [(b, some y)] := by
  have key := fnOkB_eval Γ hΓ (k := k) (args := .c (.ptr n off) :: args) (r := r) [(n, x, y)] hm hf hb hn hnt hrs (by simpa using ha) (by
      simp only [List.all_cons, argOk, Nat.le_refl, decide_true, Bool.true_and]
      refine List.all_eq_true.2 fun z hz => ?_
      have := List.all_eq_true.1 hp z hz
      cases z with
      | c a => cases a <;> first | rfl | simp [pure1, AC.pure] at this
      | agg cs => exact this
      | tup _ => simp [pure1] at this) hr (by
      intro z hz
      simp only [List.mem_singleton] at hz
      subst hz
      exact ⟨Nat.le_refl _, h1, h2, h3, h4⟩) h (fun _ => b) (by simp) pre (by simpa using hpre)
  have e : (AV.c (.ptr n off) :: args).map (AV.ren fun _ => b) = .c (.ptr b off) :: args := by
    simp only [List.map_cons]
    congr 1
    have : ∀ z ∈ args, AV.ren (fun _ => b) z = z := fun z hz => by
      have hz := List.all_eq_true.1 hp z hz
      have hc : ∀ a : AC, a.pure = true → a.ren (fun _ => b) = a := fun a ha => by cases a <;> first | rfl | simp [AC.pure] at ha
      cases z with
      | c a => simp only [AV.ren, ren1, hc a hz]
      | agg cs =>
        have : cs.map (fun a : AC => a.ren fun _ => b) = cs.map id := List.map_congr_left fun a ha => hc a (List.all_eq_true.1 hz a ha)
        simp only [AV.ren, ren1, renL, this, List.map_id]
      | tup _ => simp [pure1] at hz
    rw [List.map_congr_left this, List.map_id']
  rw [e] at key
  exact key

@[go_sem ↓] theorem initB_get (args : List AV) (n : Nat) (bxs : List (Nat × Box × Box)) (t : Nat) : (initB args n bxs).get t = args.getD t (.c .junk) := rfl
@[go_sem ↓] theorem initB_box (args : List AV) (n : Nat) (i : Nat) (x y : Box) (b : Nat) : (initB args n [(i, x, y)]).box b = if (i == b) = true then some x else none := by
  simp only [initB, St.box, boxAt, List.find?]
  cases i == b <;> rfl
@[go_sem ↓] theorem initB_n (args : List AV) (n : Nat) (bxs : List (Nat × Box × Box)) : (initB args n bxs).n = n := rfl

/-! ### the rules of evaluation -/

/-- A call by a contract function, if it has an answer. -/
def CallO (A : Prop) (bs : List Nat) (d : Option Nat) (s : St) (K : Rec → St → Prop) : Option (AV × List (Nat × Option Box)) → Prop
  | some (r, ups) => (∀ b ∈ wrOf ups, b ∉ bs) ∧ Done d s K (some ([], r, upsOf s.box bs ++ ups))
  | none => A
def CallP (C : Cfg) (Γ : Ctx) (k : FuncId) (d : Option Nat) (s : St) (K : Rec → St → Prop) (as : List AV) : Prop := CallG C Γ k (pubL s.box as) (slL as) d s K
def CallQ (C : Cfg) (Γ : Ctx) (k : FuncId) (d : Option Nat) (s : St) (K : Rec → St → Prop) (as : List AV) (bs : List Nat) : Prop := CallG C Γ k as bs d s K
/-- A call of a function value. -/
def CallV (C : Cfg) (Γ : Ctx) (d : Option Nat) (s : St) (K : Rec → St → Prop) (as : List AV) (f : AV) : Prop := match calleeA f with
  | some (k, fs, cs) => CallG C Γ k (fs ++ pubL s.box as ++ cs) (slL as) d s K
  | none => False
def evP (ρ : Operand → AV) (parts : List (Nat × Operand)) : List (Nat × AV) := parts.map fun p => (p.1, ρ p.2)
theorem evP_eq (ρ : Operand → AV) (parts : List (Nat × Operand)) : (parts.map fun p => (p.1, ρ p.2)) = evP ρ parts := rfl
@[go_sem] theorem evP_nil (ρ : Operand → AV) : evP ρ [] = [] := rfl
@[go_sem] theorem evP_cons (ρ : Operand → AV) (i : Nat) (x : Operand) (l : List (Nat × Operand)) : evP ρ ((i, x) :: l) = (i, ρ x) :: evP ρ l := rfl
def dstAt : List Oper → Nat → Option Nat
  | [], _ => none
  | o :: _, 0 => o.dst
  | _ :: l, i + 1 => dstAt l i
@[go_sem ↓] theorem dstAt_zero (dst : Option Nat) (op : Op) (ty : TypeId) (pos : String) (after : Array Edge) (g : Option (Nat × Bool)) (l : List Oper) : dstAt (⟨dst, op, ty, pos, after, g⟩ :: l) 0 = dst := rfl
@[go_sem ↓] theorem dstAt_succ (o : Oper) (l : List Oper) (i : Nat) : dstAt (o :: l) (i + 1) = dstAt l i := rfl
def yldV : AV → Option (Option Bool)
  | .c (.lit (.bool b)) => some (some b)
  | .tup _ => some none
  | _ => none
@[go_sem] theorem yldV_bool (b : Bool) : yldV (.c (.lit (.bool b))) = some (some b) := rfl
@[go_sem] theorem yldV_tup (l : List AV) : yldV (.tup l) = some none := rfl
def yldO (s : St) : Option Nat → Option (Option Bool)
  | some t => yldV (s.get t)
  | none => none
@[go_sem] theorem yldO_some (s : St) (t : Nat) : yldO s (some t) = yldV (s.get t) := rfl
theorem dstAt_eq (i : Nat) : ∀ l : List Oper, dstAt l i = (l[i]?).bind (·.dst) := by
  induction i with
  | zero => intro l; cases l <;> rfl
  | succ i ih => intro l; cases l with
    | nil => rfl
    | cons o l => simp [dstAt, ih]
@[go_sem ↓] theorem yielded_eq (l : List Oper) (s : St) (j : Nat) : yieldedA l.toArray s j = yldO s (dstAt l j) := by
  simp only [yieldedA, List.getElem?_toArray, dstAt_eq]
  cases (l[j]?).bind (·.dst) with
  | none => rfl
  | some t =>
    simp only [Option.map_some, yldO]
    generalize s.get t = v
    cases v with
    | c a => cases a with
      | lit v => cases v <;> rfl
      | _ => rfl
    | _ => rfl

theorem pure_c (a : AC) : AV.pure (.c a) = a.pure := rfl
def pures (cs : List AC) : Bool := cs.all (·.pure)
theorem pure_agg (cs : List AC) : AV.pure (.agg cs) = pures cs := rfl
theorem pure_tup (xs : List AV) : AV.pure (.tup xs) = xs.all pure1 := rfl
theorem pures_nil : pures [] = true := rfl
theorem pures_cons (a : AC) (cs : List AC) : pures (a :: cs) = (a.pure && pures cs) := rfl
theorem pure1_c (a : AC) : pure1 (.c a) = a.pure := rfl
theorem pure1_agg (cs : List AC) : pure1 (.agg cs) = pures cs := rfl
attribute [go_sem] pure1_c pure1_agg
@[go_sem] theorem pure_lit (v : Value) : AC.pure (.lit v) = true := rfl
@[go_sem] theorem pure_list (n : Nat) (l : List AC) : AC.pure (.list n l) = true := rfl
@[go_sem] theorem pure_iptr (l : List AC) : AC.pure (.iptr l) = true := rfl
@[go_sem] theorem pure_opq (p : Mem → Value → Prop) : AC.pure (.opq p) = true := rfl
@[go_sem] theorem pure_junk : AC.pure .junk = true := rfl

section conts
variable (C : Cfg) (Γ : Ctx) (ops : Array Oper)
/-- What comes after an operation; a guard whose test isn't known yet; a test that isn't known yet: data alone, which simp leaves as it is. -/
def contE (os : List Oper) (N : St → Prop) (_ : Rec) (s : St) : Prop := RunE C Γ ops os s N
def contD (os : List Oper) (acc : List Rec) (D : List Rec → St → Prop) (rc : Rec) (s : St) : Prop := RunD C Γ ops os s (acc ++ [rc]) D
def drawE (s0 : St) (K : Ex → St → Prop) (rcs : List Rec) (s : St) : Prop := orderOk ops rcs s0 ∧ K .normal s
def GuardX (o : Oper) (os : List Oper) (s : St) (N : St → Prop) (want : Bool) (y : Option (Option Bool)) : Prop :=
  GuardE y want (Exec C Γ o s (contE C Γ ops os N)) (RunE C Γ ops os (s.put o.dst (.tup [])) N)
def GuardY (o : Oper) (os : List Oper) (s : St) (acc : List Rec) (D : List Rec → St → Prop) (want : Bool) (y : Option (Option Bool)) : Prop :=
  GuardE y want (Exec C Γ o s (contD C Γ ops os acc D)) (RunD C Γ ops os (s.put o.dst (.tup [])) (acc ++ [skipRec]) D)
def CondX (x y : Code) (K : Ex → St → Prop) (s : St) (v : AV) : Prop := CondE v (WPe C Γ x K s) (WPe C Γ y K s)
end conts

section rules
variable {C : Cfg} {Γ : Ctx} {K : Ex → St → Prop} {s : St} {J : Rec → St → Prop} {ops : Array Oper} {os : List Oper} {N : St → Prop} {D : List Rec → St → Prop} {acc : List Rec}
variable {dst : Option Nat} {op : Op} {ty : TypeId} {pos : String} {after : Array Edge} {ρ : Operand → AV} {pre : Nat → Option Box}

@[go_sem ↓] theorem WPe_skip : WPe C Γ .skip K s = K .normal s := rfl
@[go_sem ↓] theorem WPe_ret : WPe C Γ .ret K s = K .ret s := rfl
@[go_sem ↓] theorem WPe_exit (id : Nat) : WPe C Γ (.exit id) K s = K (.exit id) s := rfl
@[go_sem ↓] theorem WPe_label (l : Nat) : WPe C Γ (.label l) K s = K .normal s := rfl
@[go_sem ↓] theorem WPe_seq (x y : Code) : WPe C Γ (.seq x y) K s = WPe C Γ x (St.goes (WPe C Γ y K) K) s := rfl
@[go_sem ↓] theorem WPe_block (id : Nat) (c : Code) : WPe C Γ (.block id c) K s = WPe C Γ c (inBlockA id K) s := rfl
@[go_sem ↓] theorem WPe_region (id : Nat) (l : List Oper) : WPe C Γ (.region id l.toArray false) K s = RunE C Γ l.toArray l s (K .normal) := rfl
@[go_sem ↓] theorem WPe_draw (id : Nat) (l : List Oper) : WPe C Γ (.region id l.toArray true) K s = RunD C Γ l.toArray l s [] (drawE l.toArray s K) := rfl
@[go_sem ↓] theorem goes_normal (n : St → Prop) : St.goes n K .normal s = n s := rfl
@[go_sem ↓] theorem goes_ret (n : St → Prop) : St.goes n K .ret s = K .ret s := rfl
@[go_sem ↓] theorem goes_exit (n : St → Prop) (id : Nat) : St.goes n K (.exit id) s = K (.exit id) s := rfl
@[go_sem ↓] theorem inBlock_normal (id : Nat) : inBlockA id K .normal s = K .normal s := rfl
@[go_sem ↓] theorem inBlock_ret (id : Nat) : inBlockA id K .ret s = K .ret s := rfl
@[go_sem ↓] theorem inBlock_exit (id id' : Nat) : inBlockA id K (.exit id') s = if id' = id then K .normal s else K (.exit id') s := rfl
@[go_sem ↓] theorem RunE_nil : RunE C Γ ops [] s N = N s := rfl
@[go_sem ↓] theorem contE_eq (rc : Rec) : contE C Γ ops os N rc s = RunE C Γ ops os s N := rfl
@[go_sem ↓] theorem contD_eq (rc : Rec) : contD C Γ ops os acc D rc s = RunD C Γ ops os s (acc ++ [rc]) D := rfl
@[go_sem ↓] theorem drawE_eq (s0 : St) (rcs : List Rec) : drawE ops s0 K rcs s = (orderOk ops rcs s0 ∧ K .normal s) := rfl
@[go_sem ↓] theorem RunE_cons : RunE C Γ ops (⟨dst, op, ty, pos, after, none⟩ :: os) s N = Exec C Γ ⟨dst, op, ty, pos, after, none⟩ s (contE C Γ ops os N) := rfl
@[go_sem ↓] theorem RunE_guard (j : Nat) (want : Bool) : RunE C Γ ops (⟨dst, op, ty, pos, after, some (j, want)⟩ :: os) s N =
  GuardX C Γ ops ⟨dst, op, ty, pos, after, some (j, want)⟩ os s N want (yieldedA ops s j) := rfl
@[go_sem ↓] theorem RunD_nil : RunD C Γ ops [] s acc D = D acc s := rfl
@[go_sem ↓] theorem RunD_cons : RunD C Γ ops (⟨dst, op, ty, pos, after, none⟩ :: os) s acc D = Exec C Γ ⟨dst, op, ty, pos, after, none⟩ s (contD C Γ ops os acc D) := rfl
@[go_sem ↓] theorem RunD_guard (j : Nat) (want : Bool) : RunD C Γ ops (⟨dst, op, ty, pos, after, some (j, want)⟩ :: os) s acc D =
  GuardY C Γ ops ⟨dst, op, ty, pos, after, some (j, want)⟩ os s acc D want (yieldedA ops s j) := rfl
@[go_sem ↓] theorem WPe_cond (c : Operand) (x y : Code) : WPe C Γ (.cond c x y) K s = CondX C Γ x y K s (s.ev C c) := rfl
@[go_sem ↓ high] theorem GuardX_tt (o : Oper) : GuardX C Γ ops o os s N true (some (some true)) = Exec C Γ o s (contE C Γ ops os N) := by simp [GuardX, GuardE]
@[go_sem ↓ high] theorem GuardX_ff (o : Oper) : GuardX C Γ ops o os s N false (some (some false)) = Exec C Γ o s (contE C Γ ops os N) := by simp [GuardX, GuardE]
@[go_sem ↓ high] theorem GuardX_tf (g : Option (Nat × Bool)) : GuardX C Γ ops ⟨dst, op, ty, pos, after, g⟩ os s N true (some (some false)) = RunE C Γ ops os (s.put dst (.tup [])) N := by simp [GuardX, GuardE]
@[go_sem ↓ high] theorem GuardX_ft (g : Option (Nat × Bool)) : GuardX C Γ ops ⟨dst, op, ty, pos, after, g⟩ os s N false (some (some true)) = RunE C Γ ops os (s.put dst (.tup [])) N := by simp [GuardX, GuardE]
@[go_sem ↓ high] theorem GuardY_tt (o : Oper) : GuardY C Γ ops o os s acc D true (some (some true)) = Exec C Γ o s (contD C Γ ops os acc D) := by simp [GuardY, GuardE]
@[go_sem ↓ high] theorem GuardY_ff (o : Oper) : GuardY C Γ ops o os s acc D false (some (some false)) = Exec C Γ o s (contD C Γ ops os acc D) := by simp [GuardY, GuardE]
@[go_sem ↓ high] theorem GuardY_tf (g : Option (Nat × Bool)) : GuardY C Γ ops ⟨dst, op, ty, pos, after, g⟩ os s acc D true (some (some false)) = RunD C Γ ops os (s.put dst (.tup [])) (acc ++ [skipRec]) D := by simp [GuardY, GuardE]
@[go_sem ↓ high] theorem GuardY_ft (g : Option (Nat × Bool)) : GuardY C Γ ops ⟨dst, op, ty, pos, after, g⟩ os s acc D false (some (some true)) = RunD C Γ ops os (s.put dst (.tup [])) (acc ++ [skipRec]) D := by simp [GuardY, GuardE]
@[go_sem ↓ high] theorem GuardX_n (g : Option (Nat × Bool)) (w : Bool) : GuardX C Γ ops ⟨dst, op, ty, pos, after, g⟩ os s N w (some none) = RunE C Γ ops os (s.put dst (.tup [])) N := by simp [GuardX, GuardE]
@[go_sem ↓ high] theorem GuardY_n (g : Option (Nat × Bool)) (w : Bool) : GuardY C Γ ops ⟨dst, op, ty, pos, after, g⟩ os s acc D w (some none) = RunD C Γ ops os (s.put dst (.tup [])) (acc ++ [skipRec]) D := by simp [GuardY, GuardE]
@[go_sem ↓ high] theorem CondX_t (x y : Code) : CondX C Γ x y K s (.c (.lit (.bool true))) = WPe C Γ x K s := by simp [CondX, CondE]
@[go_sem ↓ high] theorem CondX_f (x y : Code) : CondX C Γ x y K s (.c (.lit (.bool false))) = WPe C Γ y K s := by simp [CondX, CondE]
theorem split_guard {o : Oper} {w b : Bool} (h1 : b = true → GuardX C Γ ops o os s N w (some (some true))) (h2 : b = false → GuardX C Γ ops o os s N w (some (some false))) : GuardX C Γ ops o os s N w (some (some b)) := by
  cases b with
  | true => exact h1 rfl
  | false => exact h2 rfl
theorem split_guardY {o : Oper} {w b : Bool} (h1 : b = true → GuardY C Γ ops o os s acc D w (some (some true))) (h2 : b = false → GuardY C Γ ops o os s acc D w (some (some false))) : GuardY C Γ ops o os s acc D w (some (some b)) := by
  cases b with
  | true => exact h1 rfl
  | false => exact h2 rfl
theorem split_cond {x y : Code} {b : Bool} (h1 : b = true → CondX C Γ x y K s (.c (.lit (.bool true)))) (h2 : b = false → CondX C Γ x y K s (.c (.lit (.bool false)))) : CondX C Γ x y K s (.c (.lit (.bool b))) := by
  cases b with
  | true => exact h1 rfl
  | false => exact h2 rfl
@[go_sem ↓] theorem Exec_call (k : FuncId) (args : List Operand) (ats : Array TypeId) (g : Option (Nat × Bool)) :
  Exec C Γ ⟨dst, .call ⟨.value (.func k), args.toArray, ats⟩, ty, pos, after, g⟩ s J = CallP C Γ k dst s J (args.map (s.ev C)) := by
  simp only [Exec, St.ev, calleeA, CallP, pubL, slL, List.nil_append, List.append_nil, List.map_nil]
@[go_sem ↓] theorem Exec_callv (t : Nat) (args : List Operand) (ats : Array TypeId) (g : Option (Nat × Bool)) :
  Exec C Γ ⟨dst, .call ⟨.value (.tmp t), args.toArray, ats⟩, ty, pos, after, g⟩ s J = CallV C Γ dst s J (args.map (s.ev C)) (s.get t) := rfl
@[go_sem] theorem CallP_eq (k : FuncId) (as : List AV) (d : Option Nat) : CallP C Γ k d s J as = CallQ C Γ k d s J (pubL s.box as) (slL as) := rfl
@[go_sem] theorem CallV_fn (k : FuncId) (f c : List Value) (as : List AV) (d : Option Nat) : CallV C Γ d s J as (.c (.lit (.func (.func k) f.toArray c.toArray))) = CallQ C Γ k d s J (f.map (fun v => AV.c (.lit v)) ++ pubL s.box as ++ c.map (fun v => AV.c (.lit v))) (slL as) := rfl
@[go_sem] theorem CallV_clo (k : FuncId) (f c : List AC) (as : List AV) (d : Option Nat) : CallV C Γ d s J as (.c (.clo k f c)) = CallQ C Γ k d s J (f.map .c ++ pubL s.box as ++ c.map .c) (slL as) := rfl
@[go_sem] theorem CallQ_eq (k : FuncId) (as : List AV) (bs : List Nat) (d : Option Nat) : CallQ C Γ k d s J as bs = CallO (CallE C k as bs d s J) bs d s J (Γ.ask k as s.box) := by
  unfold CallQ CallG CallO; cases Γ.ask k as s.box <;> rfl
@[go_sem ↓] theorem CallO_nil (A : Prop) (d : Option Nat) (r : AV) (ups : List (Nat × Option Box)) : CallO A [] d s J (some (r, ups)) = Done d s J (some ([], r, ups)) := by
  simp [CallO, upsOf]
@[go_sem ↓] theorem CallO_pub (A : Prop) (d : Option Nat) (r : AV) (bs : List Nat) : CallO A bs d s J (some (r, [])) = Done d s J (some ([], r, upsOf s.box bs)) := by
  simp [CallO, wrOf]
@[go_sem ↓] theorem CallO_both (A : Prop) (d : Option Nat) (r : AV) (bs : List Nat) (b : Nat) (x : Option Box) : CallO A bs d s J (some (r, [(b, x)])) = (b ∉ bs ∧ Done d s J (some ([], r, upsOf s.box bs ++ [(b, x)]))) := by
  simp [CallO, wrOf]
@[go_sem] theorem upsOf_nil (pre : Nat → Option Box) : upsOf pre [] = [] := rfl
@[go_sem] theorem upsOf_cons (pre : Nat → Option Box) (b : Nat) (bs : List Nat) : upsOf pre (b :: bs) = (b, (pre b).map pubB) :: upsOf pre bs := rfl
@[go_sem] theorem pubB_mk (cs : List AC) (p : Nat) (nl row : Bool) : pubB ⟨cs, p, nl, row⟩ = ⟨cs, cs.length, nl, row⟩ := rfl
@[go_sem ↓] theorem ask_same (k : FuncId) (f : List AV → (Nat → Option Box) → Option (AV × List (Nat × Option Box))) (args : List AV) (pre : Nat → Option Box) : Ctx.ask ((k, f) :: Γ) k args pre = f args pre := by simp [Ctx.ask]
@[go_sem ↓] theorem ask_ne (j k : FuncId) (f : List AV → (Nat → Option Box) → Option (AV × List (Nat × Option Box))) (args : List AV) (pre : Nat → Option Box) (h : (j == k) = false) : Ctx.ask ((j, f) :: Γ) k args pre = Ctx.ask Γ k args pre := by simp [Ctx.ask, h]

variable {g : Option (Nat × Bool)}
@[go_sem ↓] theorem Exec_move (x : Operand) : Exec C Γ ⟨dst, .move x, ty, pos, after, g⟩ s J = Done dst s J (some ([], s.ev C x, [])) := rfl
@[go_sem ↓] theorem Exec_assign (x : Operand) : Exec C Γ ⟨dst, .assign x, ty, pos, after, g⟩ s J = Done dst s J (some ([], s.ev C x, [])) := rfl
@[go_sem ↓] theorem Exec_pick (c a b : Operand) : Exec C Γ ⟨dst, .pick c a b, ty, pos, after, g⟩ s J = Done dst s J (pickE (s.ev C c) (s.ev C a) (s.ev C b)) := by
  simp only [Exec, evalOp, pickE]
  generalize s.ev C c = v
  cases v with
  | c a => cases a with
    | lit v => cases v <;> rfl
    | _ => rfl
  | _ => rfl
@[go_sem ↓] theorem Exec_box (T : TypeId) (x : Operand) (d : Nat) : Exec C Γ ⟨some d, .box T x, ty, pos, after, g⟩ s J = Done (some d) s J (boxE d (s.box d) (cellsOf (s.ev C x))) := by
  simp only [Exec, evalOp]
  cases cellsOf (s.ev C x) with
  | none => rfl
  | some cs => simp only [boxE, Option.isNone_iff_eq_none]
@[go_sem ↓] theorem Exec_alloc (T : TypeId) (d : Nat) : Exec C Γ ⟨some d, .alloc T, ty, pos, after, g⟩ s J = Done (some d) s J (allocE d (s.box d) (zeroL C.P T)) := by
  simp only [Exec, evalOp, zeroL]
  cases tyZero C.P T with
  | none => rfl
  | some z => simp only [allocE, Option.isNone_iff_eq_none, Option.map_some]
@[go_sem ↓] theorem Exec_load (T : TypeId) (x : Operand) : Exec C Γ ⟨dst, .load T x, ty, pos, after, g⟩ s J = Done dst s J (loadE C.P T s.box (s.ev C x)) := by
  simp only [Exec, evalOp]
  generalize s.ev C x = v
  cases v with
  | c a => cases a with
    | ptr b off =>
      simp only [loadE]
      generalize s.box b = y
      cases y with
      | none => rfl
      | some bx =>
        obtain ⟨cs, p, nl, w⟩ := bx
        cases nl <;> rfl
    | _ => rfl
  | _ => rfl
@[go_sem ↓] theorem Exec_store (T : TypeId) (x y : Operand) : Exec C Γ ⟨none, .store T x y, ty, pos, after, g⟩ s J = Done none s J (storeE C.P T s.box (s.ev C y) (s.ev C x)) := by
  simp only [Exec, evalOp]
  generalize s.ev C x = v
  cases v with
  | c a => cases a with
    | ptr b off =>
      simp only [storeE]
      generalize s.box b = z
      generalize cellsOf (s.ev C y) = u
      generalize tySize C.P T = n
      cases z with
      | none => cases n <;> rfl
      | some bx =>
        obtain ⟨cs, p, nl, w⟩ := bx
        cases u with
        | none => cases n <;> cases nl <;> rfl
        | some l =>
          cases n with
          | none => cases nl <;> simp [storeB]
          | some n => cases nl <;> simp [storeB]
    | _ => rfl
  | _ => rfl
@[go_sem ↓] theorem Exec_nilCheck (x : Operand) : Exec C Γ ⟨dst, .nilCheck x, ty, pos, after, g⟩ s J = Done dst s J (nilE (s.ev C x)) := by
  simp only [Exec, evalOp]
  generalize s.ev C x = v
  cases v with
  | c a => cases a <;> rfl
  | _ => rfl
@[go_sem ↓] theorem Exec_bin (o : BinOp) (T T' : TypeId) (x y : Operand) : Exec C Γ ⟨dst, .binOp o T x y T', ty, pos, after, g⟩ s J = Done dst s J (binE C.P o T (s.ev C x) (s.ev C y)) := by
  simp only [Exec, evalOp]
  generalize s.ev C x = v
  generalize s.ev C y = u
  cases v with
  | c a => cases a with
    | lit v => cases u with
      | c a => cases a <;> rfl
      | _ => rfl
    | _ => rfl
  | agg as => cases u <;> rfl
  | _ => rfl
@[go_sem ↓] theorem Exec_bi (b : Builtin) (args : List Operand) (ats : List TypeId) : Exec C Γ ⟨dst, .call ⟨.builtin b, args.toArray, ats.toArray⟩, ty, pos, after, g⟩ s J = Done dst s J (biA C b dst ats (args.map (s.ev C)) s.box) := rfl
@[go_sem ↓] theorem Exec_un (o : UnOp) (T : TypeId) (x : Operand) : Exec C Γ ⟨dst, .unOp o T x, ty, pos, after, g⟩ s J = Done dst s J (unE o (s.ev C x)) := by
  simp only [Exec, evalOp]
  generalize s.ev C x = v
  cases v with
  | c a => cases a <;> rfl
  | _ => rfl
@[go_sem ↓] theorem Exec_convert (S D : TypeId) (x : Operand) : Exec C Γ ⟨dst, .convert S D x, ty, pos, after, g⟩ s J = Done dst s J (convX (S == D) (tyOk C.P S) (ckOf C.P S) (ckOf C.P D) dst s.box (s.ev C x)) := rfl
@[go_sem ↓] theorem Exec_indexV (T : TypeId) (x y : Operand) : Exec C Γ ⟨dst, .index T x y, ty, pos, after, g⟩ s J = Done dst s J (ixvA C.P T (s.ev C x) (s.ev C y)) := rfl
@[go_sem ↓] theorem Exec_fieldV (T : TypeId) (x : Operand) (f : Nat) : Exec C Γ ⟨dst, .field T x f, ty, pos, after, g⟩ s J = Done dst s J (fldvA C.P T f (s.ev C x)) := rfl
@[go_sem ↓] theorem Exec_slice00 (T : TypeId) (x : Operand) : Exec C Γ ⟨dst, .slice T x none none none, ty, pos, after, g⟩ s J = Done dst s J (cutE C.P T s.box (some 0) hiN (s.ev C x)) := rfl
@[go_sem ↓] theorem Exec_slice10 (T : TypeId) (x y : Operand) : Exec C Γ ⟨dst, .slice T x (some y) none none, ty, pos, after, g⟩ s J = Done dst s J (cutE C.P T s.box (bndV (s.ev C y)) hiN (s.ev C x)) := rfl
@[go_sem ↓] theorem Exec_slice01 (T : TypeId) (x z : Operand) : Exec C Γ ⟨dst, .slice T x none (some z) none, ty, pos, after, g⟩ s J = Done dst s J (cutE C.P T s.box (some 0) (hiV (s.ev C z)) (s.ev C x)) := rfl
@[go_sem ↓] theorem Exec_slice11 (T : TypeId) (x y z : Operand) : Exec C Γ ⟨dst, .slice T x (some y) (some z) none, ty, pos, after, g⟩ s J = Done dst s J (cutE C.P T s.box (bndV (s.ev C y)) (hiV (s.ev C z)) (s.ev C x)) := rfl
@[go_sem ↓] theorem Exec_makeSlice (T : TypeId) (x y : Operand) (d : Nat) : Exec C Γ ⟨some d, .makeSlice T x y, ty, pos, after, g⟩ s J = Done (some d) s J (mksA d (s.box d) (eltOf C.P T) (s.ev C x) (s.ev C y)) := rfl
@[go_sem ↓] theorem Exec_makeFunc (k : FuncId) (fs cs : List Operand) : Exec C Γ ⟨dst, .makeFunc (.func k) fs.toArray cs.toArray, ty, pos, after, g⟩ s J = Done dst s J (mkfA k (unCs (fs.map (s.ev C))) (unCs (cs.map (s.ev C)))) := rfl
@[go_sem ↓] theorem Exec_field (T : TypeId) (x : Operand) (f : Nat) : Exec C Γ ⟨dst, .fieldAddr T x f, ty, pos, after, g⟩ s J = Done dst s J (fldE (fldO C.P T f) (s.ev C x)) := by
  simp only [Exec, evalOp, fldO]
  generalize s.ev C x = v
  cases tyField C.P T f with
  | none => cases v with
    | c a => cases a <;> rfl
    | _ => rfl
  | some p =>
    obtain ⟨o, U⟩ := p
    simp only
    generalize tySize C.P U = n
    cases n with
    | none => cases v with
      | c a => cases a <;> rfl
      | _ => rfl
    | some n => cases n <;> (cases v with
      | c a => cases a <;> rfl
      | _ => rfl)
@[go_sem ↓] theorem Exec_index (T : TypeId) (x y : Operand) : Exec C Γ ⟨dst, .indexAddr T x y, ty, pos, after, g⟩ s J = Done dst s J (ixE C.P T (s.ev C x) (s.ev C y)) := by
  simp only [Exec, evalOp]
  generalize s.ev C x = v
  generalize s.ev C y = u
  cases u with
  | c b => cases b with
    | lit b => cases b with
      | int k i => cases v with
        | c a => cases a with
          | ptr b off => 
            simp only [ixE, arrN]
            cases tyArr C.P T with
            | none => rfl
            | some p => obtain ⟨len, E⟩ := p; simp only; cases tySize C.P E <;> rfl
          | iptr flat =>
            simp only [ixE, arrN]
            cases tyArr C.P T with
            | none => rfl
            | some p => obtain ⟨len, E⟩ := p; simp only; cases tySize C.P E <;> rfl
          | list n flat =>
            simp only [ixE, slcN]
            cases tySlice C.P T with
            | none => rfl
            | some E => simp only; cases tySize C.P E <;> rfl
          | sl b n sz nl =>
            simp only [ixE, slcN]
            cases tySlice C.P T with
            | none => cases nl <;> rfl
            | some E =>
              simp only
              cases nl with
              | true => cases tySize C.P E <;> rfl
              | false =>
                cases hE : tySize C.P E with
                | none => simp only [ixS]; simp
                | some m => simp only [ixS, Option.some.injEq]
          | _ => rfl
        | _ => rfl
      | _ => cases v with
        | c a => cases a <;> rfl
        | _ => rfl
    | _ => cases v with
      | c a => cases a <;> rfl
      | _ => rfl
  | _ => cases v with
    | c a => cases a <;> rfl
    | _ => rfl
@[go_sem ↓] theorem Exec_extract (x : Operand) (i : Nat) : Exec C Γ ⟨dst, .extract x i, ty, pos, after, g⟩ s J = Done dst s J (extE i (s.ev C x)) := by
  simp only [Exec, evalOp]
  generalize s.ev C x = v
  cases v with
  | tup vs => simp only [extE, nthA_eq]
  | _ => rfl
@[go_sem ↓] theorem Exec_buildSlice (T : TypeId) (len d : Nat) (parts : List (Nat × Operand)) : Exec C Γ ⟨some d, .buildSlice T len parts.toArray, ty, pos, after, g⟩ s J = Done (some d) s J
    (rowE d len (s.box d) (evP (s.ev C) parts) (rowZ C.P T len)) := by
  simp only [Exec, evalOp]
  cases rowZ C.P T len with
  | none => rfl
  | some p =>
    obtain ⟨n, z⟩ := p
    simp only [rowE, fillN, evP_eq]
    cases fillA (fun i => some (i * n, n)) z (evP (s.ev C) parts) with
    | none => rfl
    | some cs => simp only [rowF, Option.isNone_iff_eq_none]
@[go_sem ↓] theorem Exec_build (T : TypeId) (parts : List (Nat × Operand)) : Exec C Γ ⟨dst, .build T parts.toArray, ty, pos, after, g⟩ s J = Done dst s J
    (buildE C.P T (evP (s.ev C) parts) (zeroL C.P T)) := by
  simp only [Exec, evalOp, zeroL, buildA, evP_eq]
  cases tyZero C.P T with
  | none => simp [buildE]
  | some z => simp only [buildE, fillE, Option.map_some]

@[congr] theorem Done_congr {d : Option Nat} {e e' : Option Eff} (h : e = e') : Done d s J e = Done d s J e' := by rw [h]
@[congr] theorem CallO_congr {A : Prop} {bs : List Nat} {x x' : Option (AV × List (Nat × Option Box))} {d : Option Nat} (h : x = x') : CallO A bs d s J x = CallO A bs d s J x' := by rw [h]
@[congr] theorem CallP_congr {k : FuncId} {d : Option Nat} {x x' : List AV} (h : x = x') : CallP C Γ k d s J x = CallP C Γ k d s J x' := by rw [h]
@[congr] theorem CallQ_congr {k : FuncId} {d : Option Nat} {x x' : List AV} {y y' : List Nat} (h : x = x') (h2 : y = y') : CallQ C Γ k d s J x y = CallQ C Γ k d s J x' y' := by rw [h, h2]
@[congr] theorem CallV_congr {d : Option Nat} {x x' : List AV} {f f' : AV} (h : x = x') (h2 : f = f') : CallV C Γ d s J x f = CallV C Γ d s J x' f' := by rw [h, h2]
@[congr] theorem GuardX_congr {o : Oper} {w : Bool} {y y' : Option (Option Bool)} (h : y = y') : GuardX C Γ ops o os s N w y = GuardX C Γ ops o os s N w y' := by rw [h]
@[congr] theorem GuardY_congr {o : Oper} {w : Bool} {y y' : Option (Option Bool)} (h : y = y') : GuardY C Γ ops o os s acc D w y = GuardY C Γ ops o os s acc D w y' := by rw [h]
@[congr] theorem CondX_congr {x y : Code} {v v' : AV} (h : v = v') : CondX C Γ x y K s v = CondX C Γ x y K s v' := by rw [h]
@[go_sem ↓] theorem Done_pure (rd : List Nat) (r : AV) (d : Nat) : Done (some d) s J (some (rd, r, [])) ↔ d < s.n ∧ J ⟨false, rd, r, []⟩ (s.put (some d) r) := by
  simp [Done, wrOf, St.upd]
@[go_sem ↓] theorem Done_pure0 (rd : List Nat) (r : AV) : Done none s J (some (rd, r, [])) ↔ J ⟨false, rd, r, []⟩ s := by
  simp [Done, wrOf, St.upd, St.put]
@[go_sem ↓] theorem Done_new (rd : List Nat) (r : AV) (d : Nat) (b : Nat) (x : Option Box) : Done (some d) s J (some (rd, r, [(b, x)])) ↔
    d < s.n ∧ (s.box b = none → b < s.n ∧ NoMen s b (some d)) ∧ J ⟨false, rd, r, [(b, x)]⟩ ((s.setB b x).put (some d) r) := by
  simp [Done, wrOf, St.upd]
@[go_sem ↓] theorem Done_store (rd : List Nat) (r : AV) (b : Nat) (x : Option Box) : Done none s J (some (rd, r, [(b, x)])) ↔
    (s.box b = none → b < s.n ∧ NoMen s b none) ∧ J ⟨false, rd, r, [(b, x)]⟩ (s.setB b x) := by
  simp [Done, wrOf, St.upd, St.put]
@[go_sem ↓] theorem Done_two (rd : List Nat) (r : AV) (d : Nat) (b : Nat) (x : Option Box) (c : Nat) (y : Option Box) : Done (some d) s J (some (rd, r, [(b, x), (c, y)])) ↔
    d < s.n ∧ (s.box b = none → b < s.n ∧ NoMen s b (some d)) ∧ (s.box c = none → c < s.n ∧ NoMen s c (some d)) ∧ J ⟨false, rd, r, [(b, x), (c, y)]⟩ (((s.setB c y).setB b x).put (some d) r) := by
  simp [Done, wrOf, St.upd, and_assoc]
@[go_sem ↓] theorem Done_two0 (rd : List Nat) (r : AV) (b : Nat) (x : Option Box) (c : Nat) (y : Option Box) : Done none s J (some (rd, r, [(b, x), (c, y)])) ↔
    (s.box b = none → b < s.n ∧ NoMen s b none) ∧ (s.box c = none → c < s.n ∧ NoMen s c none) ∧ J ⟨false, rd, r, [(b, x), (c, y)]⟩ ((s.setB c y).setB b x) := by
  simp [Done, wrOf, St.upd, St.put, and_assoc]
@[go_sem ↓] theorem Done_three (rd : List Nat) (r : AV) (d : Nat) (b : Nat) (x : Option Box) (c : Nat) (y : Option Box) (e : Nat) (z : Option Box) : Done (some d) s J (some (rd, r, [(b, x), (c, y), (e, z)])) ↔
    d < s.n ∧ (s.box b = none → b < s.n ∧ NoMen s b (some d)) ∧ (s.box c = none → c < s.n ∧ NoMen s c (some d)) ∧ (s.box e = none → e < s.n ∧ NoMen s e (some d)) ∧
      J ⟨false, rd, r, [(b, x), (c, y), (e, z)]⟩ ((((s.setB e z).setB c y).setB b x).put (some d) r) := by
  simp [Done, wrOf, St.upd, and_assoc]
@[go_sem ↓] theorem Done_none (d : Option Nat) : Done d s J none ↔ False := Iff.rfl

@[go_sem ↓] theorem ev_tmp (t : Nat) : s.ev C (.tmp t) = s.get t := rfl
@[go_sem ↓] theorem ev_global (g : Nat) : s.ev C (.global g) = gloE g (C.G g) := by
  simp only [St.ev, gloE]
  cases C.G g <;> rfl
@[go_sem ↓] theorem ev_const (v : Value) : s.ev C (.const v) = constAV v := rfl
@[go_sem ↓] theorem ev_func (f : FuncId) : s.ev C (.func f) = .c (.lit (.func (.func f) #[] #[])) := rfl
@[go_sem ↓] theorem get_put_same (d : Nat) (r : AV) : (s.put (some d) r).get d = r := by simp [St.get_put]
@[go_sem ↓] theorem get_put_ne (d t : Nat) (r : AV) (h : (d == t) = false) : (s.put (some d) r).get t = s.get t := by
  have : d ≠ t := by simpa using h
  simp [St.get_put, this]
@[go_sem ↓] theorem Done_if (c : Prop) [Decidable c] (d : Option Nat) (e : Option Eff) : Done d s J (if c then e else none) ↔ c ∧ Done d s J e := by
  by_cases h : c
  · simp only [h, if_true, true_and]
  · simp only [h, if_false, false_and, iff_false]; exact fun h => h.elim

@[go_sem ↓] theorem get_setB (b : Nat) (x : Option Box) (t : Nat) : (s.setB b x).get t = s.get t := rfl
@[go_sem ↓] theorem setB_same (b : Nat) (x : Option Box) : (s.setB b x).box b = x := by simp [St.setB_box]
@[go_sem ↓] theorem setB_ne (b c : Nat) (x : Option Box) (h : (c == b) = false) : (s.setB b x).box c = s.box c := by
  have : c ≠ b := by simpa using h
  simp [St.setB_box, this]
@[go_sem ↓] theorem put_box' (d : Nat) (r : AV) (b : Nat) : (s.put (some d) r).box b = s.box b := rfl
@[go_sem ↓] theorem put_n' (d : Nat) (r : AV) : (s.put (some d) r).n = s.n := rfl
@[go_sem ↓] theorem setB_n (b : Nat) (x : Option Box) : (s.setB b x).n = s.n := rfl
@[go_sem ↓] theorem init_get (args : List AV) (n t : Nat) : (initSt args n).get t = args.getD t (.c .junk) := rfl
@[go_sem ↓] theorem init_box (args : List AV) (n b : Nat) : (initSt args n).box b = none := rfl
@[go_sem ↓] theorem init_n (args : List AV) (n : Nat) : (initSt args n).n = n := rfl
theorem nomen_put (b d t : Nat) (r : AV) (h : NoMen s b (some d)) (hr : (t == d) = true ∨ r.men b = false) : NoMen (s.put (some t) r) b (some d) := by
  refine ⟨fun u hu => ?_, h.2⟩
  rw [St.get_put]
  split
  · rename_i e
    cases e
    rcases hr with hr | hr
    · simp at hr; subst hr; exact (hu rfl).elim
    · exact hr
  · exact h.1 u hu
theorem nomen_put0 (b t : Nat) (r : AV) (h : NoMen s b none) (hr : r.men b = false) : NoMen (s.put (some t) r) b none := by
  refine ⟨fun u hu => ?_, h.2⟩
  rw [St.get_put]
  split
  · exact hr
  · exact h.1 u hu
theorem nomen_setB (b c : Nat) (d : Option Nat) (bx : Box) (h : NoMen s b d) (hr : bx.men b = false) : NoMen (s.setB c (some bx)) b d := by
  refine ⟨h.1, fun b' y e => ?_⟩
  rw [St.setB_box] at e
  split at e
  · cases e; exact hr
  · exact h.2 b' y e
theorem nomen_setB0 (b c : Nat) (d : Option Nat) (h : NoMen s b d) : NoMen (s.setB c none) b d := by
  refine ⟨h.1, fun b' y e => ?_⟩
  rw [St.setB_box] at e
  split at e
  · cases e
  · exact h.2 b' y e
theorem nomen_init (args : List AV) (n b : Nat) (d : Option Nat) (h : args.all pure1 = true) : NoMen (initSt args n) b d := by
  refine ⟨fun t _ => ?_, fun b' bx e => by cases e⟩
  simp only [init_get, List.getD_eq_getElem?_getD]
  cases ht : args[t]? with
  | none => rfl
  | some x =>
    have hx := List.all_eq_true.1 h x (List.mem_of_getElem? ht)
    cases x with
    | c a => exact pure_men hx b
    | agg cs =>
      show cs.any (·.men b) = false
      rw [List.any_eq_false]
      intro y hy
      have := pure_men (List.all_eq_true.1 hx y hy) b
      simp [this]
    | tup _ => simp [pure1] at hx

end rules
attribute [go_sem] pure_c pure_agg pure_tup pures_nil pures_cons
attribute [go_sem] cond_true cond_false Option.map_some Option.map_none Option.isNone_none Option.isNone_some Option.bind_some Option.bind_none List.getElem?_cons_zero List.getElem?_cons_succ List.getD_cons_zero List.getD_cons_succ

theorem orderOk_of {ops : Array Oper} {rcs : List Rec} {s0 : St} (h1 : pairsOk ops rcs s0 = true) (h2 : ((List.range ops.size).all fun i => (newOf rcs s0 i).isEmpty) = true) : orderOk ops rcs s0 := by
  refine ⟨h1, fun i o hi b hb => ?_⟩
  have hlt : i < ops.size := by
    rcases Nat.lt_or_ge i ops.size with h | h
    · exact h
    · rw [Array.getElem?_eq_none h] at hi; cases hi
  have := List.all_eq_true.1 h2 i (List.mem_range.2 hlt)
  rw [List.isEmpty_iff] at this
  rw [this] at hb; cases hb

theorem and_nomen {s : St} {b : Nat} {d : Option Nat} {A : Prop} (h : NoMen s b d) (k : A) : NoMen s b d ∧ A := ⟨h, k⟩
theorem nomen_p {s : St} {b d t : Nat} {r : AV} (hr : (t == d || !r.men b) = true) (h : NoMen s b (some d)) : NoMen (s.put (some t) r) b (some d) :=
  nomen_put b d t r h (by
    cases hd : t == d with
    | true => exact .inl rfl
    | false => rw [hd] at hr; exact .inr (by simpa using hr))
theorem nomen_p0 {s : St} {b t : Nat} {r : AV} (hr : r.men b = false) (h : NoMen s b none) : NoMen (s.put (some t) r) b none := nomen_put0 b t r h hr
theorem nomen_s {s : St} {b c : Nat} {d : Option Nat} {bx : Box} (hr : bx.men b = false) (h : NoMen s b d) : NoMen (s.setB c (some bx)) b d := nomen_setB b c d bx h hr
theorem nomen_i {args : List AV} {n b : Nat} {d : Option Nat} (h : args.all pure1 = true) : NoMen (initSt args n) b d := nomen_init args n b d h
theorem and_order {ops : Array Oper} {rcs : List Rec} {s0 : St} {A : Prop} (h1 : pairsOk ops rcs s0 = true) (h2 : ((List.range ops.size).all fun i => (newOf rcs s0 i).isEmpty) = true) (h : A) : orderOk ops rcs s0 ∧ A := ⟨orderOk_of h1 h2, h⟩

/-! ### regions that draw their order, in which boxes are made -/
section
variable (ops : Array Oper) (all : List Rec) (s0 : St)
def bitOf (j i : Nat) : Bool := ((masks ops.toList []).getD j 0).testBit i
def pairS (ms : List Nat) (i j : Nat) : Bool := match ops[i]?, ops[j]? with
  | some o, some p => if i < j then (ms.getD j 0).testBit i || indep ops o p (all.getD i skipRec) (all.getD j skipRec) else true
  | _, _ => true
def pairsS : Bool := edgesOk ops && (List.range ops.size).all fun i => (List.range ops.size).all fun j => pairS ops all (masks ops.toList []) i j
def menAll (b i : Nat) : List Rec → Nat → Prop
  | [], _ => True
  | rc :: l, j => (j = i ∨ menR b rc = false ∨ bitOf ops j i = true) ∧ menAll b i l (j + 1)
def remB (l : List Rec) (b : Nat) : Bool := l.any fun rc => (wrOf rc.ups).contains b && (postOf rc.ups b).isNone
def newR (ws : List Nat) (d : Option Nat) (i : Nat) : List (Nat × Option Box) → Prop
  | [] => True
  | (b, _) :: ups => (((s0.box b = none ∧ ws.contains b = false) ∨ remB all b = true) → NoMen s0 b d ∧ menAll ops b i all 0) ∧ newR ws d i ups
def newL (ws : List Nat) : List Oper → List Rec → Nat → Prop
  | o :: os, rc :: l, i => newR ops all s0 ws o.dst i rc.ups ∧ newL (wrOf rc.ups ++ ws) os l (i + 1)
  | _, _, _ => True
end
section
variable {ops : Array Oper} {all : List Rec} {s0 : St}
theorem menAll_of {b i : Nat} : ∀ (l : List Rec) (j : Nat), menAll ops b i l j → ∀ n, n < l.length → j + n = i ∨ menR b (l.getD n skipRec) = false ∨ bitOf ops (j + n) i = true := by
  intro l
  induction l with
  | nil => intro j _ n h; simp at h
  | cons rc l ih =>
    intro j h n hn
    cases n with
    | zero => simpa using h.1
    | succ n =>
      have := ih (j + 1) h.2 n (by simpa using hn)
      rw [show j + (n + 1) = j + 1 + n by omega]
      simpa using this
theorem newR_of {ws : List Nat} {d : Option Nat} {i : Nat} : ∀ (ups : List (Nat × Option Box)), newR ops all s0 ws d i ups → ∀ b ∈ wrOf ups, ((s0.box b = none ∧ ws.contains b = false) ∨ remB all b = true) → NoMen s0 b d ∧ menAll ops b i all 0 := by
  intro ups
  induction ups with
  | nil => intro _ b hb; simp [wrOf] at hb
  | cons u ups ih =>
    intro h b hb
    obtain ⟨c, x⟩ := u
    simp only [wrOf, List.map_cons, List.mem_cons] at hb
    rcases hb with rfl | hb
    · exact h.1
    · exact ih h.2 b hb
theorem newL_of : ∀ (os : List Oper) (l : List Rec) (i : Nat) (ws : List Nat), newL ops all s0 ws os l i → ∀ n o, os[n]? = some o → n < l.length →
    ∃ ws', (∀ b ∈ ws', b ∈ ws ∨ ∃ j, j < n ∧ b ∈ wrOf (l.getD j skipRec).ups) ∧ newR ops all s0 ws' o.dst (i + n) (l.getD n skipRec).ups := by
  intro os
  induction os with
  | nil => intro l i ws _ n o h; simp at h
  | cons o os ih =>
    intro l i ws h n o' hn hl
    cases l with
    | nil => simp at hl
    | cons rc l =>
      cases n with
      | zero => simp at hn; subst hn; exact ⟨ws, fun b hb => .inl hb, by simpa using h.1⟩
      | succ n =>
        obtain ⟨ws', h1, h2⟩ := ih l (i + 1) _ h.2 n o' (by simpa using hn) (by simpa using hl)
        refine ⟨ws', fun b hb => ?_, ?_⟩
        · rcases h1 b hb with g | ⟨j, hj, g⟩
          · rcases List.mem_append.1 g with g | g
            · exact .inr ⟨0, by omega, by simpa using g⟩
            · exact .inl g
          · exact .inr ⟨j + 1, by omega, by simpa using g⟩
        · rw [show i + (n + 1) = i + 1 + n by omega]
          simpa using h2
theorem and_orderN {A : Prop} (h1 : pairsS ops all = true) (h2 : newL ops all s0 [] ops.toList all 0) (h : A) : orderOk ops all s0 ∧ A := by
  have key : ∀ i o, ops[i]? = some o → ∀ b ∈ newOf all s0 i, NoMen s0 b o.dst ∧ menAll ops b i all 0 := by
    intro i o ho b hb
    simp only [newOf, List.mem_filter, Bool.or_eq_true] at hb
    obtain ⟨hb, hc⟩ := hb
    have hil : i < all.length := by
      rcases Nat.lt_or_ge i all.length with h | h
      · exact h
      · rw [List.getD_eq_getElem?_getD, List.getElem?_eq_none h] at hb; simp [skipRec, wrOf] at hb
    obtain ⟨ws', hw, this⟩ := newL_of ops.toList all 0 [] h2 i o (by simpa using ho) hil
    rw [Nat.zero_add] at this
    refine newR_of _ this b hb ?_
    rcases hc with hc | hc
    · simp only [Bool.and_eq_true, Bool.not_eq_true', List.any_eq_false, List.mem_range] at hc
      refine .inl ⟨by simpa using hc.1, ?_⟩
      cases hcon : ws'.contains b with
      | false => rfl
      | true =>
        exfalso
        rcases hw b (by simpa using hcon) with g | ⟨j, hj, g⟩
        · cases g
        · exact hc.2 j hj (by simpa using g)
    · exact .inr hc
  refine ⟨⟨?_, fun i o ho b hb => (key i o ho b hb).1⟩, h⟩
  simp only [pairsS, Bool.and_eq_true, List.all_eq_true, List.mem_range] at h1
  simp only [pairsOk, Bool.and_eq_true, List.all_eq_true, List.mem_range]
  refine ⟨h1.1, fun i hi j hj => ?_⟩
  have hs := h1.2 i hi j hj
  unfold pairS at hs
  unfold pairOk
  rw [Array.getElem?_eq_getElem hi, Array.getElem?_eq_getElem hj] at hs ⊢
  simp only [Bool.and_eq_true]
  refine ⟨hs, ?_⟩
  by_cases hij : i = j
  · simp [hij]
  · cases hbit : ((masks ops.toList []).getD j 0).testBit i with
    | true => simp
    | false =>
      have hne : (i == j) = false := by simpa using hij
      rw [hne]
      simp only [Bool.false_or, List.all_eq_true, Bool.not_eq_true']
      intro b hb
      have hm := (key i ops[i] (Array.getElem?_eq_getElem hi) b hb).2
      rcases Nat.lt_or_ge j all.length with hjl | hjl
      · have := menAll_of all 0 hm j hjl
        rw [Nat.zero_add] at this
        rcases this with h | h | h
        · exact (hij h.symm).elim
        · exact h
        · unfold bitOf at h; rw [hbit] at h; cases h
      · rw [List.getD_eq_getElem?_getD, List.getElem?_eq_none hjl]
        rfl
variable (ops all s0)
@[go_sem ↓] theorem newL_cons (ws : List Nat) (dst : Option Nat) (op : Op) (ty : TypeId) (pos : String) (after : Array Edge) (g : Option (Nat × Bool)) (os : List Oper) (sk : Bool) (rd : List Nat) (r : AV) (ups : List (Nat × Option Box)) (l : List Rec) (i : Nat) :
    newL ops all s0 ws (⟨dst, op, ty, pos, after, g⟩ :: os) (⟨sk, rd, r, ups⟩ :: l) i = (newR ops all s0 ws dst i ups ∧ newL ops all s0 (wrOf ups ++ ws) os l (i + 1)) := rfl
@[go_sem ↓] theorem newL_skip (ws : List Nat) (o : Oper) (os : List Oper) (l : List Rec) (i : Nat) : newL ops all s0 ws (o :: os) (skipRec :: l) i = newL ops all s0 ws os l (i + 1) := by
  simp [newL, skipRec, newR, wrOf]
@[go_sem ↓] theorem newL_nil (ws : List Nat) (l : List Rec) (i : Nat) : newL ops all s0 ws [] l i = True := rfl
@[go_sem] theorem wrOf_nil : wrOf [] = [] := rfl
@[go_sem] theorem wrOf_cons (b : Nat) (x : Option Box) (l : List (Nat × Option Box)) : wrOf ((b, x) :: l) = b :: wrOf l := rfl
@[go_sem ↓] theorem newR_nil (ws : List Nat) (d : Option Nat) (i : Nat) : newR ops all s0 ws d i [] = True := rfl
@[go_sem ↓] theorem newR_cons (ws : List Nat) (d : Option Nat) (i b : Nat) (x : Option Box) (ups : List (Nat × Option Box)) : newR ops all s0 ws d i ((b, x) :: ups) = (((((s0.box b = none ∧ ws.contains b = false) ∨ remB all b = true)) → NoMen s0 b d ∧ menAll ops b i all 0) ∧ newR ops all s0 ws d i ups) := rfl
@[go_sem ↓] theorem menAll_nil (b i j : Nat) : menAll ops b i [] j = True := rfl
@[go_sem ↓] theorem menAll_cons (b i j : Nat) (rc : Rec) (l : List Rec) : menAll ops b i (rc :: l) j = ((j = i ∨ menR b rc = false ∨ bitOf ops j i = true) ∧ menAll ops b i l (j + 1)) := rfl
def menU (b : Nat) : List (Nat × Option Box) → Bool
  | [] => false
  | (_, some bx) :: l => bx.men b || menU b l
  | (_, none) :: l => menU b l
theorem menU_eq (b : Nat) (l : List (Nat × Option Box)) : (l.any fun u => match u.2 with
  | some bx => bx.men b
  | none => false) = menU b l := by
  induction l with
  | nil => rfl
  | cons u l ih =>
    obtain ⟨c, x⟩ := u
    cases x <;> simp [menU, ← ih]
@[go_sem ↓] theorem menR_mk (b : Nat) (sk : Bool) (rd : List Nat) (r : AV) (ups : List (Nat × Option Box)) : menR b ⟨sk, rd, r, ups⟩ = (r.men b || menU b ups) := by
  unfold menR
  exact congrArg (fun x => r.men b || x) (menU_eq b ups)
@[go_sem ↓] theorem menR_skip (b : Nat) : menR b skipRec = false := rfl
@[go_sem] theorem menU_nil (b : Nat) : menU b [] = false := rfl
@[go_sem] theorem menU_some (b c : Nat) (bx : Box) (l : List (Nat × Option Box)) : menU b ((c, some bx) :: l) = (bx.men b || menU b l) := rfl
@[go_sem] theorem menU_none (b c : Nat) (l : List (Nat × Option Box)) : menU b ((c, none) :: l) = menU b l := rfl
def remU (b : Nat) : List (Nat × Option Box) → Bool
  | [] => false
  | (c, some _) :: l => !(b == c) && remU b l
  | (c, none) :: l => b == c || remU b l
theorem remU_eq (b : Nat) (l : List (Nat × Option Box)) : ((wrOf l).contains b && (postOf l b).isNone) = remU b l := by
  induction l with
  | nil => rfl
  | cons u l ih =>
    obtain ⟨c, x⟩ := u
    cases h : b == c with
    | true => cases x <;> simp [wrOf, postOf, List.lookup, h, remU]
    | false =>
      have : ((wrOf ((c, x) :: l)).contains b && (postOf ((c, x) :: l) b).isNone) = ((wrOf l).contains b && (postOf l b).isNone) := by
        simp [wrOf, postOf, List.lookup, h]
      rw [this, ih]
      cases x <;> simp [remU, h]
@[go_sem] theorem remB_nil (b : Nat) : remB [] b = false := rfl
@[go_sem] theorem remB_cons (b : Nat) (sk : Bool) (rd : List Nat) (r : AV) (ups : List (Nat × Option Box)) (l : List Rec) : remB (⟨sk, rd, r, ups⟩ :: l) b = (remU b ups || remB l b) := by
  simp only [remB, List.any_cons, remU_eq]
@[go_sem] theorem remB_skip (b : Nat) (l : List Rec) : remB (skipRec :: l) b = remB l b := by simp [remB, skipRec, wrOf]
@[go_sem] theorem remU_nil (b : Nat) : remU b [] = false := rfl
@[go_sem] theorem remU_some (b c : Nat) (bx : Box) (l : List (Nat × Option Box)) : remU b ((c, some bx) :: l) = (!(b == c) && remU b l) := rfl
@[go_sem] theorem remU_none (b c : Nat) (l : List (Nat × Option Box)) : remU b ((c, none) :: l) = (b == c || remU b l) := rfl
end
@[go_sem] theorem argOk_lit (n : Nat) (v : Value) : argOk n (.c (.lit v)) = true := rfl
@[go_sem] theorem argOk_list (n m : Nat) (l : List AC) : argOk n (.c (.list m l)) = true := rfl
@[go_sem] theorem argOk_iptr (n : Nat) (l : List AC) : argOk n (.c (.iptr l)) = true := rfl
@[go_sem] theorem argOk_clo (n k : Nat) (a b : List AC) : argOk n (.c (.clo k a b)) = true := rfl
@[go_sem] theorem argOk_opq (n : Nat) (p : Mem → Value → Prop) : argOk n (.c (.opq p)) = true := rfl
@[go_sem] theorem argOk_ptr (n b o : Nat) : argOk n (.c (.ptr b o)) = decide (n ≤ b) := rfl
@[go_sem] theorem argOk_agg (n : Nat) (cs : List AC) : argOk n (.agg cs) = pures cs := rfl

/-! ### loops -/

/-- A state of which nothing is known. -/
def baseSt (n : Nat) : St := ⟨n, fun _ => .c .junk, fun _ => none⟩
@[go_sem ↓] theorem base_get (n t : Nat) : (baseSt n).get t = .c .junk := rfl
@[go_sem ↓] theorem base_box (n b : Nat) : (baseSt n).box b = none := rfl
@[go_sem ↓] theorem base_n (n : Nat) : (baseSt n).n = n := rfl
theorem nomen_b {n b : Nat} {d : Option Nat} : NoMen (baseSt n) b d := ⟨fun _ _ => rfl, fun _ _ e => by cases e⟩

/-- Boxes change places, pair by pair. -/
def sw1 (x y b : Nat) : Nat := if b = x then y else if b = y then x else b
def swp : List (Nat × Nat) → Nat → Nat
  | [], b => b
  | (x, y) :: l, b => sw1 x y (swp l b)
theorem sw1_inj (x y a b : Nat) (h : sw1 x y a = sw1 x y b) : a = b := by
  unfold sw1 at h
  repeat' split at h
  all_goals omega
theorem swp_inj (l : List (Nat × Nat)) : ∀ a b, swp l a = swp l b → a = b := by
  induction l with
  | nil => intro a b h; exact h
  | cons p l ih => intro a b h; exact ih a b (sw1_inj _ _ _ _ h)
theorem swp_high (n : Nat) : ∀ l : List (Nat × Nat), (l.all fun p => decide (p.1 < n) && decide (p.2 < n)) = true → ∀ b, n ≤ b → swp l b = b := by
  intro l
  induction l with
  | nil => intro _ b _; rfl
  | cons p l ih =>
    intro h b hb
    simp only [List.all_cons, Bool.and_eq_true, decide_eq_true_eq] at h
    have := ih (by simpa using h.2) b hb
    simp only [swp, this, sw1]
    rw [if_neg (by omega), if_neg (by omega)]

theorem le_sw {s s' : St} (l : List (Nat × Nat)) {n : Nat} (hn : s.n = n) (hl : (l.all fun p => decide (p.1 < n) && decide (p.2 < n)) = true) (h : s.leX (swp l) [] [] s') : s.le s' :=
  ⟨swp l, ⟨swp_inj l, fun b hb => swp_high n l hl b (hn ▸ hb)⟩, h⟩

section leX
variable {f : Nat → Nat} {ts bs : List Nat} {s c : St}
theorem leX_put {t : Nat} {r : AV} (h : s.get t = r.ren f) (k : s.leX f (t :: ts) bs c) : s.leX f ts bs (c.put (some t) r) :=
  ⟨k.len.trans (put_n' t r).symm, fun u hu => by
    rw [St.get_put]
    split
    · rename_i e; cases e; exact .inr (.inl h)
    · rename_i e
      refine k.get u ?_
      have : (u == t) = false := by simpa using fun e' => e (by rw [e'])
      simp only [List.contains_cons, this, hu, Bool.or_false], k.box⟩
theorem leX_nil {t B sz : Nat} (h : s.get t = .c (.lit (.slice none 0 0))) (k : s.leX f (t :: ts) bs c) : s.leX f ts bs (c.put (some t) (.c (.sl B 0 sz true))) :=
  ⟨k.len.trans (put_n' t _).symm, fun u hu => by
    rw [St.get_put]
    split
    · rename_i e; cases e; exact .inr (.inr ⟨h, B, sz, rfl⟩)
    · rename_i e
      refine k.get u ?_
      have : (u == t) = false := by simpa using fun e' => e (by rw [e'])
      simp only [List.contains_cons, this, hu, Bool.or_false], k.box⟩
theorem leX_any {t : Nat} (k : s.leX f (t :: ts) bs c) : s.leX f ts bs (c.put (some t) (.c .junk)) :=
  ⟨k.len.trans (put_n' t _).symm, fun u hu => by
    rw [St.get_put]
    split
    · exact .inl rfl
    · rename_i e
      refine k.get u ?_
      have : (u == t) = false := by simpa using fun e' => e (by rw [e'])
      simp only [List.contains_cons, this, hu, Bool.or_false], k.box⟩
theorem leX_boxO {b : Nat} {x : Option Box} (h : x = none ∨ (∃ r, x = some ⟨[], 0, true, r⟩) ∨ ∃ bx, x = some bx ∧ s.box (f b) = some (bx.ren f)) (k : s.leX f ts (b :: bs) c) : s.leX f ts bs (c.setB b x) :=
  ⟨k.len, k.get, fun b' hb => by
    rw [St.setB_box]
    split
    · rename_i e; subst e; exact h
    · rename_i e
      refine k.box b' ?_
      have : (b' == b) = false := by simpa using e
      simp only [List.contains_cons, this, hb, Bool.or_false]⟩
theorem leX_box {b : Nat} {bx : Box} (h : s.box (f b) = some (bx.ren f)) (k : s.leX f ts (b :: bs) c) : s.leX f ts bs (c.setB b (some bx)) := leX_boxO (.inr (.inr ⟨bx, rfl, h⟩)) k
theorem leX_boxnil {b : Nat} {r : Bool} (k : s.leX f ts (b :: bs) c) : s.leX f ts bs (c.setB b (some ⟨[], 0, true, r⟩)) := leX_boxO (.inr (.inl ⟨r, rfl⟩)) k
theorem leX_boxnone {b : Nat} (k : s.leX f ts (b :: bs) c) : s.leX f ts bs (c.setB b none) := leX_boxO (.inl rfl) k
theorem leX_base {n : Nat} (h : s.n = n) : s.leX f ts bs (baseSt n) := ⟨h, fun _ _ => .inl rfl, fun _ _ => .inl rfl⟩
end leX

/-- From the slot lo on nothing is known. -/
def St.junkF (s : St) (lo : Nat) : St := ⟨s.n, fun t => if lo ≤ t then .c .junk else s.T t, s.B⟩
@[go_sem ↓] theorem junkF_get (s : St) (lo t : Nat) : (s.junkF lo).get t = if lo ≤ t then .c .junk else s.get t := rfl
@[go_sem ↓] theorem junkF_box (s : St) (lo b : Nat) : (s.junkF lo).box b = s.box b := rfl
@[go_sem ↓] theorem junkF_n (s : St) (lo : Nat) : (s.junkF lo).n = s.n := rfl
theorem nomen_j {s : St} {lo b : Nat} {d : Option Nat} (h : NoMen s b d) : NoMen (s.junkF lo) b d :=
  ⟨fun t ht => by
    rw [junkF_get]
    split
    · rfl
    · exact h.1 t ht, h.2⟩
theorem nomen_iB {args : List AV} {n b : Nat} {d : Option Nat} {i : Nat} {x y : Box} (h1 : args.all (argOk n) = true) (h2 : puresB x.cells = true) (hb : b < n) : NoMen (initB args n [(i, x, y)]) b d := by
  refine ⟨fun t _ => ?_, fun b' bx e => ?_⟩
  · rw [initB_get, List.getD_eq_getElem?_getD]
    cases ht : args[t]? with
    | none => rfl
    | some z =>
      have hz := List.all_eq_true.1 h1 z (List.mem_of_getElem? ht)
      simp only [Option.getD_some]
      cases z with
      | c a =>
        cases a with
        | ptr b' o =>
          simp only [argOk, decide_eq_true_eq] at hz
          show (b' == b) = false
          simp; omega
        | sl _ _ _ _ => simp [argOk, pure1, AC.pure] at hz
        | _ => rfl
      | agg cs =>
        show cs.any (·.men b) = false
        rw [List.any_eq_false]
        intro y hy
        have := pure_men (List.all_eq_true.1 hz y hy) b
        simp [this]
      | tup _ => simp [argOk, pure1] at hz
  · rw [initB_box] at e
    split at e
    · cases e
      simp only [Box.men]
      have : x.cells.any (fun a => a.men b) = false := by
        rw [List.any_eq_false]
        intro y hy
        have := pure_men (List.all_eq_true.1 h2 y hy) b
        simp [this]
      rw [this, Bool.and_false]
    · cases e

/-- What of a state stays while a loop is gone round: the slots below lo that are not in ts, and the boxes that are not in bs. -/
structure St.kp (f : Nat → Nat) (lo : Nat) (ts bs : List Nat) (s s0 : St) : Prop where
  len : s.n = s0.n
  get : ∀ t, t < lo → ts.contains t = false → s.get t = (s0.get t).ren f
  box : ∀ b, bs.contains b = false → s0.box b = none ∨ ∃ bx, s0.box b = some bx ∧ s.box (f b) = some (bx.ren f)
theorem leX_junkF {f : Nat → Nat} {lo : Nat} {ts bs : List Nat} {s s0 : St} (h : St.kp f lo ts bs s s0) : s.leX f ts bs (s0.junkF lo) :=
  ⟨h.len, fun t ht => by
    rw [junkF_get]
    split
    · exact .inl rfl
    · exact .inr (.inl (h.get t (by omega) ht)), fun b hb => by
    rcases h.box b hb with g | g
    · exact .inl g
    · exact .inr (.inr g)⟩
section kp
variable {l : List (Nat × Nat)} {f : Nat → Nat} {lo : Nat} {ts bs : List Nat} {s s0 : St}
theorem kp_put {t : Nat} {r : AV} (h : (decide (lo ≤ t) || ts.contains t) = true) (k : St.kp f lo ts bs s s0) : St.kp f lo ts bs (s.put (some t) r) s0 := by
  refine ⟨(put_n' t r).trans k.len, fun u h1 h2 => ?_, k.box⟩
  rw [St.get_put, if_neg, k.get u h1 h2]
  intro e
  cases e
  simp only [Bool.or_eq_true, decide_eq_true_eq, h2] at h
  rcases h with h | h
  · omega
  · cases h
theorem swp_back (l : List (Nat × Nat)) : ∀ b, swp l.reverse (swp l b) = b := by
  have app : ∀ (l m : List (Nat × Nat)) b, swp (l ++ m) b = swp l (swp m b) := by
    intro l
    induction l with
    | nil => intro m b; rfl
    | cons p l ih => intro m b; simp only [List.cons_append, swp, ih]
  have inv : ∀ x y b, sw1 x y (sw1 x y b) = b := by
    intro x y b
    unfold sw1
    repeat' split
    all_goals omega
  induction l with
  | nil => intro b; rfl
  | cons p l ih =>
    intro b
    rw [List.reverse_cons, app]
    simp only [swp, inv, ih]
theorem kp_setB {c : Nat} {x : Option Box} (h : bs.contains (swp l.reverse c) = true ∨ s0.box (swp l.reverse c) = none) (k : St.kp (swp l) lo ts bs s s0) : St.kp (swp l) lo ts bs (s.setB c x) s0 :=
  ⟨k.len, k.get, fun b hb => by
    rcases k.box b hb with g | ⟨bx, g, e⟩
    · exact .inl g
    · refine .inr ⟨bx, g, ?_⟩
      rw [St.setB_box, if_neg, e]
      intro e'
      have : swp l.reverse c = b := by rw [← e', swp_back]
      rw [this] at h
      rcases h with h | h
      · rw [hb] at h; cases h
      · rw [g] at h; cases h⟩
theorem kp_junkF {lo' : Nat} (h : lo ≤ lo') (k : St.kp f lo ts bs s s0) : St.kp f lo ts bs (s.junkF lo') s0 :=
  ⟨k.len, fun t h1 h2 => by rw [junkF_get, if_neg (by omega)]; exact k.get t h1 h2, k.box⟩
theorem ren_id (a : AV) : a.ren (swp []) = a := by
  have hc : ∀ a : AC, a.ren (swp []) = a := fun a => by cases a <;> rfl
  have hl : ∀ cs : List AC, renL (swp []) cs = cs := fun cs => by
    have : (fun a : AC => a.ren (swp [])) = id := funext hc
    simp [renL, this]
  have h1 : ∀ a, ren1 (swp []) a = a := fun a => by cases a <;> simp [ren1, hc, hl]
  cases a with
  | c a => exact h1 (.c a)
  | agg cs => exact h1 (.agg cs)
  | tup vs =>
    have : (ren1 (swp [])) = id := funext h1
    simp [AV.ren, this]
theorem boxren_id (x : Box) : x.ren (swp []) = x := by
  have hc : ∀ a : AC, a.ren (swp []) = a := fun a => by cases a <;> rfl
  have : (fun a : AC => a.ren (swp [])) = id := funext hc
  cases x; simp [Box.ren, renL, this]
theorem kp_refl : St.kp (swp []) lo ts bs s s :=
  ⟨rfl, fun _ _ _ => (ren_id _).symm, fun b _ => by
    cases h : s.box b with
    | none => exact .inl rfl
    | some bx => exact .inr ⟨bx, rfl, by rw [boxren_id]; exact h⟩⟩
/-- What does not name the boxes that change places, is as it was. -/
theorem ren_same {x y : Nat} {a : AV} (h1 : a.men x = false) (h2 : a.men y = false) : a.ren (swp [(x, y)]) = a := by
  have hc : ∀ a : AC, a.men x = false → a.men y = false → a.ren (swp [(x, y)]) = a := fun a h1 h2 => by
    cases a with
    | ptr b o =>
      have h1 : (b == x) = false := h1
      have h2 : (b == y) = false := h2
      simp at h1 h2
      simp [AC.ren, swp, sw1, h1, h2]
    | sl b n sz nl =>
      have h1 : (b == x) = false := h1
      have h2 : (b == y) = false := h2
      simp at h1 h2
      simp [AC.ren, swp, sw1, h1, h2]
    | _ => rfl
  have hl : ∀ cs : List AC, cs.any (·.men x) = false → cs.any (·.men y) = false → renL (swp [(x, y)]) cs = cs := fun cs h1 h2 => by
    rw [List.any_eq_false] at h1 h2
    have : cs.map (fun a : AC => a.ren (swp [(x, y)])) = cs.map id := List.map_congr_left fun a ha => hc a (by simpa using h1 a ha) (by simpa using h2 a ha)
    simpa [renL] using this
  have h1' : ∀ a, men1 x a = false → men1 y a = false → ren1 (swp [(x, y)]) a = a := fun a g1 g2 => by
    cases a with
    | c a => simp only [ren1]; rw [hc a g1 g2]
    | agg cs => simp only [ren1]; rw [hl cs g1 g2]
    | tup _ => rfl
  cases a with
  | c a => exact h1' (.c a) h1 h2
  | agg cs => exact h1' (.agg cs) h1 h2
  | tup vs =>
    have h1 : vs.any (men1 x) = false := h1
    have h2 : vs.any (men1 y) = false := h2
    rw [List.any_eq_false] at h1 h2
    have : vs.map (ren1 (swp [(x, y)])) = vs.map id := List.map_congr_left fun a ha => h1' a (by simpa using h1 a ha) (by simpa using h2 a ha)
    simp only [AV.ren, this, List.map_id]
theorem boxren_same {x y : Nat} {bx : Box} (h1 : bx.men x = false) (h2 : bx.men y = false) (hr : bx.row = false) : bx.ren (swp [(x, y)]) = bx := by
  obtain ⟨cs, p, nl, row⟩ := bx
  subst hr
  have := ren_same (x := x) (y := y) (a := .agg cs) (by simpa [Box.men, AV.men, men1] using h1) (by simpa [Box.men, AV.men, men1] using h2)
  simp only [AV.ren, ren1, AV.agg.injEq] at this
  simp only [Box.ren, this]
/-- Nothing that stays names the boxes x and y: below lo, but the slots ts; of the boxes, but bs (which x is one of, and y is none). -/
structure St.fx (x y lo : Nat) (ts bs : List Nat) (s : St) : Prop where
  get : ∀ t, t < lo → ts.contains t = false → (s.get t).men x = false ∧ (s.get t).men y = false
  box : ∀ b, bs.contains b = false → b ≠ y → ∀ bx, s.box b = some bx → bx.men x = false ∧ bx.men y = false ∧ bx.row = false
theorem kp_fx {x y : Nat} (hx : bs.contains x = true) (hy : bs.contains y = true ∨ s.box y = none) (h : St.fx x y lo ts bs s) : St.kp (swp [(x, y)]) lo ts bs s s :=
  ⟨rfl, fun t h1 h2 => by obtain ⟨g1, g2⟩ := h.get t h1 h2; rw [ren_same g1 g2], fun b hb => by
    cases e : s.box b with
    | none => exact .inl rfl
    | some bx =>
      by_cases hby : b = y
      · subst hby
        rcases hy with hy | hy
        · rw [hb] at hy; cases hy
        · rw [hy] at e; cases e
      · have hbx : b ≠ x := fun e' => by subst e'; rw [hx] at hb; cases hb
        obtain ⟨g1, g2, g3⟩ := h.box b hb hby bx e
        refine .inr ⟨bx, rfl, ?_⟩
        rw [boxren_same g1 g2 g3]
        have hsw : swp [(x, y)] b = b := by simp [swp, sw1, hbx, hby]
        rw [hsw]; exact e⟩
theorem fx_put {x y t : Nat} {r : AV} (h : (decide (lo ≤ t) || ts.contains t || (!r.men x && !r.men y)) = true) (k : St.fx x y lo ts bs s) : St.fx x y lo ts bs (s.put (some t) r) :=
  ⟨fun u h1 h2 => by
    rw [St.get_put]
    split
    · rename_i e; cases e
      simp only [Bool.or_eq_true, decide_eq_true_eq, h2, Bool.and_eq_true, Bool.not_eq_true'] at h
      rcases h with (h | h) | h
      · omega
      · cases h
      · exact h
    · exact k.get u h1 h2, k.box⟩
theorem fx_setB {x y c : Nat} {bx : Box} (h : (bs.contains c || c == y || (!bx.men x && !bx.men y && !bx.row)) = true) (k : St.fx x y lo ts bs s) : St.fx x y lo ts bs (s.setB c (some bx)) :=
  ⟨k.get, fun b hb hby z e => by
    rw [St.setB_box] at e
    split at e
    · rename_i e'; subst e'
      cases e
      have hby' : (b == y) = false := by simpa using hby
      simp only [hb, hby', Bool.false_or, Bool.and_eq_true, Bool.not_eq_true'] at h
      exact ⟨h.1.1, h.1.2, h.2⟩
    · exact k.box b hb hby z e⟩
theorem fx_setN {x y c : Nat} (k : St.fx x y lo ts bs s) : St.fx x y lo ts bs (s.setB c none) :=
  ⟨k.get, fun b hb hby z e => by
    rw [St.setB_box] at e
    split at e
    · cases e
    · exact k.box b hb hby z e⟩
theorem fx_junkF {x y lo' : Nat} (k : St.fx x y lo ts bs s) : St.fx x y lo ts bs (s.junkF lo') :=
  ⟨fun t h1 h2 => by
    rw [junkF_get]
    split
    · exact ⟨rfl, rfl⟩
    · exact k.get t h1 h2, k.box⟩
theorem fx_init {x y n : Nat} {args : List AV} (h : args.all pure1 = true) : St.fx x y lo ts bs (initSt args n) :=
  ⟨fun t _ _ => ⟨(nomen_init args n x none h).1 t (by simp), (nomen_init args n y none h).1 t (by simp)⟩, fun b _ _ bx e => by cases e⟩
theorem fx_initB {x y n i : Nat} {args : List AV} {z w : Box} (h1 : args.all (argOk n) = true) (h2 : puresB z.cells = true) (hr : z.row = false) (hx : x < n) (hy : y < n) : St.fx x y lo ts bs (initB args n [(i, z, w)]) := by
  have a := nomen_iB (d := none) (i := i) (y := w) h1 h2 hx
  have b := nomen_iB (d := none) (i := i) (y := w) h1 h2 hy
  refine ⟨fun t _ _ => ⟨a.1 t (by simp), b.1 t (by simp)⟩, fun c _ _ bx e => ⟨a.2 c bx e, b.2 c bx e, ?_⟩⟩
  rw [initB_box] at e
  split at e
  · cases e; exact hr
  · cases e
theorem fx_base {x y n : Nat} : St.fx x y lo ts bs (baseSt n) := ⟨fun _ _ _ => ⟨rfl, rfl⟩, fun _ _ _ _ e => by cases e⟩
end kp

theorem le_base {s : St} {n : Nat} (h : s.n = n) : s.le (baseSt n) := ⟨swp [], ⟨swp_inj [], fun _ _ => rfl⟩, leX_base h⟩

def St.puts (s : St) : List (Nat × AV) → St
  | [] => s
  | (t, r) :: l => (s.puts l).put (some t) r
def St.setBs (s : St) : List (Nat × Option Box) → St
  | [] => s
  | (b, x) :: l => (s.setBs l).setB b x
@[go_sem ↓] theorem puts_nil (s : St) : s.puts [] = s := rfl
@[go_sem ↓] theorem puts_cons (s : St) (t : Nat) (r : AV) (l : List (Nat × AV)) : s.puts ((t, r) :: l) = (s.puts l).put (some t) r := rfl
@[go_sem ↓] theorem setBs_nil (s : St) : s.setBs [] = s := rfl
@[go_sem ↓] theorem setBs_cons (s : St) (b : Nat) (x : Option Box) (l : List (Nat × Option Box)) : s.setBs ((b, x) :: l) = (s.setBs l).setB b x := rfl

/-- Round again: with less to do. -/
def Again {α : Type} (I : α → St) (P : α → Prop) (m : α → Nat) (n : Nat) (s2 : St) : Prop := ∃ n' s3, s2.le s3 ∧ (∃ a, P a ∧ s3 = I a ∧ m a = n') ∧ n' < n
theorem again_of {α : Type} {I : α → St} {P : α → Prop} {m : α → Nat} {n : Nat} {s2 : St} (a : α) (hl : s2.le (I a)) (hp : P a) (hm : m a < n) : Again I P m n s2 := ⟨m a, I a, hl, ⟨a, hp, rfl, rfl⟩, hm⟩
/-- A loop, by what holds at each round's begin, and what grows less. -/
theorem loop_rule {C : Cfg} {Γ : Ctx} {c : Code} {K : Ex → St → Prop} {s : St} {α : Type} (I : α → St) (P : α → Prop) (m : α → Nat) (a0 : α) (h0 : s.le (I a0)) (p0 : P a0)
    (step : ∀ a, P a → WPe C Γ c (St.goes (Again I P m (m a)) K) (I a)) : WPe C Γ (.loop c) K s := by
  refine ⟨fun n s1 => ∃ a, P a ∧ s1 = I a ∧ m a = n, ⟨m a0, I a0, h0, a0, p0, rfl, rfl⟩, fun n s1 hs => ?_⟩
  obtain ⟨a, hp, rfl, rfl⟩ := hs
  exact step a hp

/-- A loop, in the state s: from the slot lo on nothing is known at a round's begin but what 'tv' says; the other slots, and the boxes, are as they were, but for those that 'tv' and 'bv' name. -/
theorem loop_at {C : Cfg} {Γ : Ctx} {c : Code} {K : Ex → St → Prop} {s : St} {α : Type} (lo : Nat) (tv : α → List (Nat × AV)) (bv : α → List (Nat × Option Box)) (P : α → Prop) (m : α → Nat) (a0 : α)
    (h0 : s.le (((s.junkF lo).setBs (bv a0)).puts (tv a0))) (p0 : P a0)
    (step : ∀ a, P a → WPe C Γ c (St.goes (Again (fun a => ((s.junkF lo).setBs (bv a)).puts (tv a)) P m (m a)) K) (((s.junkF lo).setBs (bv a)).puts (tv a))) : WPe C Γ (.loop c) K s :=
  loop_rule (fun a => ((s.junkF lo).setBs (bv a)).puts (tv a)) P m a0 h0 p0 step

/-! ### contracts as functions -/

/-- What a relation between arguments and result says, as a function. -/
noncomputable def ofRel (R : List AV → AV → Prop) (args : List AV) : Option AV :=
  open Classical in if h : ∃ r, R args r then some (Classical.choose h) else none

theorem ofRel_eq {R : List AV → AV → Prop} {args : List AV} {r : AV} (h : R args r) (u : ∀ r', R args r' → r' = r) : ofRel R args = some r := by
  have h' : ∃ r, R args r := ⟨r, h⟩
  unfold ofRel
  rw [dif_pos h', u _ (Classical.choose_spec h')]

theorem ofRel_some {R : List AV → AV → Prop} {args : List AV} {r : AV} (h : ofRel R args = some r) : R args r := by
  unfold ofRel at h
  split at h
  · rename_i h'; cases h; exact Classical.choose_spec h'
  · cases h

/-- A contract function is true of function k. -/
def Good (C : Cfg) (k : FuncId) (f : List AV → Option AV) : Prop := ∀ args r, f args = some r → FnOk C k args r ∧ args.any isTup = false
/-- The same, for functions that are handed boxes. -/
def GoodB (C : Cfg) (k : FuncId) (f : List AV → (Nat → Option Box) → Option (AV × List (Nat × Option Box))) : Prop := ∀ args pre r ups, f args pre = some (r, ups) → FnOkB C k args pre r ups ∧ args.any isTup = false
/-- A function that is handed no box. -/
def plain (f : List AV → Option AV) (args : List AV) (_ : Nat → Option Box) : Option (AV × List (Nat × Option Box)) := (f args).map fun r => (r, [])
def plainR : Option AV → Option (AV × List (Nat × Option Box))
  | some r => some (r, [])
  | none => none
@[go_sem ↓] theorem plain_eq (f : List AV → Option AV) (args : List AV) (pre : Nat → Option Box) : plain f args pre = plainR (f args) := by
  unfold plain plainR; cases f args <;> rfl
@[go_sem] theorem plainR_some (r : AV) : plainR (some r) = some (r, []) := rfl

theorem good_nil {C : Cfg} : Ctx.sound C [] := fun k args pre r ups h => by cases h
theorem good_consB {C : Cfg} {k : FuncId} {f : List AV → (Nat → Option Box) → Option (AV × List (Nat × Option Box))} {Γ : Ctx} (h : GoodB C k f) (t : Ctx.sound C Γ) : Ctx.sound C ((k, f) :: Γ) := by
  intro j args pre r ups e
  simp only [Ctx.ask] at e
  cases hj : k == j with
  | true =>
    have : k = j := by simpa using hj
    subst this
    rw [hj] at e; exact h args pre r ups e
  | false => rw [hj] at e; exact t j args pre r ups e
theorem good_cons {C : Cfg} {k : FuncId} {f : List AV → Option AV} {Γ : Ctx} (h : Good C k f) (t : Ctx.sound C Γ) : Ctx.sound C ((k, plain f) :: Γ) :=
  good_consB (fun args pre r ups e => by
    unfold plain at e
    obtain ⟨r', hr, e⟩ := Option.map_eq_some_iff.1 e
    cases e
    exact ⟨(h args _ hr).1 pre, (h args _ hr).2⟩) t

/-- What a relation between arguments, a box handed over by the first of them, and result says, as a function. -/
noncomputable def ofRelB (R : List AV → Box → AV → Box → Prop) (args : List AV) (pre : Nat → Option Box) : Option (AV × List (Nat × Option Box)) :=
  match args with
  | .c (.ptr b 0) :: as => match pre b with
    | some bx => open Classical in if h : ∃ p : AV × Box, R as bx p.1 p.2 then some ((Classical.choose h).1, [(b, some (Classical.choose h).2)]) else none
    | none => none
  | _ => none
noncomputable def relB (R : List AV → Box → AV → Box → Prop) (b : Nat) (as : List AV) : Option Box → Option (AV × List (Nat × Option Box))
  | some bx => open Classical in if h : ∃ p : AV × Box, R as bx p.1 p.2 then some ((Classical.choose h).1, [(b, some (Classical.choose h).2)]) else none
  | none => none
theorem ofRelB_ptr (R : List AV → Box → AV → Box → Prop) (b : Nat) (as : List AV) (pre : Nat → Option Box) : ofRelB R (.c (.ptr b 0) :: as) pre = relB R b as (pre b) := rfl
theorem relB_eq {R : List AV → Box → AV → Box → Prop} {b : Nat} {as : List AV} {bx : Box} {r : AV} {by' : Box} (h : R as bx r by') (u : ∀ r' b', R as bx r' b' → r' = r ∧ b' = by') : relB R b as (some bx) = some (r, [(b, some by')]) := by
  have h' : ∃ p : AV × Box, R as bx p.1 p.2 := ⟨(r, by'), h⟩
  unfold relB
  simp only [dif_pos h']
  obtain ⟨e1, e2⟩ := u _ _ (Classical.choose_spec h')
  rw [e1, e2]
theorem ofRelB_some {R : List AV → Box → AV → Box → Prop} {args : List AV} {pre : Nat → Option Box} {r : AV} {ups : List (Nat × Option Box)} (h : ofRelB R args pre = some (r, ups)) :
    ∃ b as bx by', args = .c (.ptr b 0) :: as ∧ pre b = some bx ∧ ups = [(b, some by')] ∧ R as bx r by' := by
  unfold ofRelB at h
  split at h
  · rename_i b as
    split at h
    · rename_i bx hb
      split at h
      · rename_i h'
        cases h
        exact ⟨b, as, bx, _, rfl, hb, rfl, Classical.choose_spec h'⟩
      · cases h
    · cases h
  · cases h

attribute [go_sem] true_and and_true true_or or_true false_or or_false false_and and_false if_true if_false not_true_eq_false not_false_eq_true true_implies false_implies implies_true ne_eq
  Bool.false_eq_true Bool.true_eq_false beq_self_eq_true exists_eq_left' exists_eq_left and_self Option.some.injEq reduceCtorEq
  List.map_cons List.map_nil List.all_cons List.all_nil List.any_cons List.any_nil Bool.and_true Bool.true_and Bool.and_false Bool.false_and Bool.or_false Bool.false_or Bool.or_true Bool.true_or Bool.not_true Bool.not_false Bool.and_self Bool.or_self
  List.length_cons List.length_nil List.cons_append List.nil_append List.append_nil List.drop_zero List.drop_succ_cons List.drop_nil List.take_zero List.take_succ_cons List.take_nil Nat.add_zero Nat.zero_add Nat.le_refl Nat.zero_le
  Value.cells List.toList_toArray not_false_eq_true

end Go.Ev
