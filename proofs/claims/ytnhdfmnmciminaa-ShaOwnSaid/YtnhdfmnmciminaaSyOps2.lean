/-
  Symbolic values, part 3: the operations one by one.
-/
import Derived.Test.YtnhdfmnmciminaaSyOps
namespace Go.Sy
open Go.Ev
set_option linter.unusedVariables false
set_option linter.unusedSimpArgs false

def denR (ρ : Operand → SV) (x : Operand) : AV := (ρ x).den
def denB (bx : Nat → Option SB) (b : Nat) : Option Box := (bx b).map SB.den
/-- The first o cells struck, of cells that nobody writes. -/
def dropE : List Ec → Nat → Option (List Ec)
  | [], o => match o with
    | 0 => some []
    | _ + 1 => none
  | .c k x :: l, o => match o with
    | 0 => some (.c k x :: l)
    | o + 1 => dropE l o
  | .arr k n xs :: l, o => match o with
    | 0 => some (.arr k n xs :: l)
    | o + 1 => bif Nat.ble n (o + 1) then dropE l (o + 1 - n) else none
theorem denE_cons (e : Ec) (l : List Ec) : denE (e :: l) = e.den ++ denE l := rfl
theorem dropE_ok : ∀ {l : List Ec} {o : Nat} {r : List Ec}, dropE l o = some r → (denE l).drop o = denE r
  | [], 0, r, h => by cases h; rfl
  | [], o + 1, r, h => by cases h
  | .c k y :: l, 0, r, h => by cases h; rfl
  | .c k y :: l, o + 1, r, h => by
    have h1 := dropE_ok (l := l) (o := o) h
    rw [denE_cons]; exact h1
  | .arr k n xs :: l, 0, r, h => by cases h; rfl
  | .arr k n xs :: l, o + 1, r, h => by
    unfold dropE at h
    simp only at h
    obtain ⟨hb, h⟩ := bif_some h
    have hle := Nat.le_of_ble_eq_true hb
    rw [denE_cons]
    show (arrL k n xs ++ denE l).drop _ = _
    rw [List.drop_append, arrL_length, List.drop_of_length_le (by rw [arrL_length]; exact hle), List.nil_append]
    exact dropE_ok h

section ops
variable {C : Cfg} {dst : Option Tmp} {ty : TypeId} {pos : String} {after : Array Edge} {guard : Option (Nat × Bool)} {ρ : Operand → SV} {bx : Nat → Option SB}

/-- What is claimed of an operation. -/
def Ok (C : Cfg) (o : Oper) (ρ : Operand → SV) (bx : Nat → Option SB) (r : Res) : Prop := r.g = true → OpOk C o (denR ρ) r.rd (denB bx) r.r.den (denU r.ups)

def pickC (t : Bool) : Cl → Cl → Option Cl
  | .int k a, .int k' b => bif decide (k = k') then some (.int k (bif t then a else b)) else none
  | .bool a, .bool b => some (.bool (bif t then a else b))
  | .str a, .str b => some (.str (bif t then a else b))
  | _, _ => none
theorem pickC_ok {t : Bool} {x y z : Cl} (h : pickC t x y = some z) : z.den = bif t then x.den else y.den := by
  unfold pickC at h
  split at h
  · obtain ⟨h1, h2⟩ := bif_some h; cases h2; have := of_decide_eq_true h1; subst this; cases t <;> rfl
  · cases h; cases t <;> rfl
  · cases h; cases t <;> rfl
  · cases h
/-- One of two: what was left out may not be taken. -/
def sPick : SV → SV → SV → Option Res
  | .one (.c (.bool t)), x, y => match x, y with
    | .tup [], y => some ⟨!t, [], y, []⟩
    | x, .tup [] => some ⟨t, [], x, []⟩
    | .one (.c x), .one (.c y) => (pickC t x y).map fun z => ⟨true, [], c1 z, []⟩
    | _, _ => none
  | _, _, _ => none
theorem sPick_ok {c x y : Operand} {r : Res} (h : sPick (ρ c) (ρ x) (ρ y) = some r) : Ok C ⟨dst, .pick c x y, ty, pos, after, guard⟩ ρ bx r := by
  intro hg
  unfold sPick at h
  split at h
  · rename_i t hc
    have e := ok_pick (C := C) (dst := dst) (ty := ty) (pos := pos) (after := after) (guard := guard) (ρ := denR ρ) (pre := denB bx) (c := c) (x := x) (y := y) (b := t) (by show (ρ c).den = _; rw [hc]; rfl)
    split at h
    · cases h
      have ht : t = false := by simpa using hg
      subst ht
      exact e
    · cases h
      have ht : t = true := hg
      subst ht
      exact e
    · rename_i a b hx hy
      obtain ⟨z, hz, rfl⟩ := Option.map_eq_some_iff.1 h
      have e2 : (bif t then denR ρ x else denR ρ y) = (c1 z).den := by
        show (bif t then (ρ x).den else (ρ y).den) = AV.c z.den
        rw [hx, hy, pickC_ok hz]; cases t <;> rfl
      rw [e2] at e; exact e
    · cases h
  · cases h

def isNone {α : Type} : Option α → Bool
  | none => true
  | some _ => false
theorem isNone_iff {α : Type} (x : Option α) : isNone x = true ↔ x = none := by cases x <;> simp [isNone]
theorem denB_none {b : Nat} (h : isNone (bx b) = true) : denB bx b = none := by
  have := (isNone_iff _).1 h
  simp [denB, this]
def sBox (d : Nat) (x : SV) (bd : Option SB) : Option Res :=
  match segsOf x with
  | some l => bif isNone bd && !anyB (Sg.men d) l then some ⟨true, [], c1 (.ptr d 0), [(d, some ⟨.sg l, 0, false⟩)]⟩ else none
  | none => none
theorem sBox_ok {T : TypeId} {d : Nat} {x : Operand} {r : Res} (h : sBox d (ρ x) (bx d) = some r) : Ok C ⟨some d, .box T x, ty, pos, after, guard⟩ ρ bx r := by
  intro _
  unfold sBox at h
  split at h
  · rename_i l hl
    obtain ⟨h1, h2⟩ := bif_some h
    cases h2
    simp only [Bool.and_eq_true, Bool.not_eq_true'] at h1
    exact ok_box (denB_none h1.1) (segsOf_ok hl) (show menL d (denS l) = false by rw [menL, denS_men]; exact h1.2)
  · cases h
def sAlloc (P : Program) (T : TypeId) (d : Nat) (bd : Option SB) : Option Res :=
  match zeroS P T with
  | some l => bif isNone bd then some ⟨true, [], c1 (.ptr d 0), [(d, some ⟨.sg l, 0, false⟩)]⟩ else none
  | none => none
theorem sAlloc_ok {T : TypeId} {d : Nat} {r : Res} (h : sAlloc C.P T d (bx d) = some r) : Ok C ⟨some d, .alloc T, ty, pos, after, guard⟩ ρ bx r := by
  intro _
  unfold sAlloc at h
  split at h
  · rename_i l hl
    obtain ⟨h1, h2⟩ := bif_some h
    cases h2
    obtain ⟨z, hz, e⟩ := zeroS_ok hl
    have := ok_alloc (C := C) (ty := ty) (pos := pos) (after := after) (guard := guard) (ρ := denR ρ) (pre := denB bx) (T := T) (d := d) (denB_none h1) hz
    rw [← e] at this; exact this
  · cases h

def sLoad (P : Program) (T : TypeId) (bx : Nat → Option SB) : SV → Option Res
  | .one (.c (.ptr b off)) => match bx b with
    | some ⟨.sg l, _, nl⟩ => (loadS P T l off).map fun r => ⟨!nl, [b], .one r, []⟩
    | _ => none
  | .one (.c (.pti b off i z)) => match bx b with
    | some ⟨ct, _, nl⟩ => (match loadI P T off i z ct with
      | some (g, r) => some ⟨!nl && g, [b], .one r, []⟩
      | none => none)
    | none => none
  | .one (.c (.ept es)) => (loadS P T (sgE es) 0).map fun r => ⟨true, [], .one r, []⟩
  | _ => none
theorem sLoad_ok {T : TypeId} {x : Operand} {r : Res} (h : sLoad C.P T bx (ρ x) = some r) : Ok C ⟨dst, .load T x, ty, pos, after, guard⟩ ρ bx r := by
  intro hg
  unfold sLoad at h
  split at h
  · rename_i b off hx
    split at h
    · rename_i l pub nl hb
      obtain ⟨s, hs, rfl⟩ := Option.map_eq_some_iff.1 h
      have hnl : nl = false := by simpa using hg
      exact ok_load (b := b) (off := off) (bx := SB.den ⟨.sg l, pub, nl⟩) (by show (ρ x).den = _; rw [hx]; rfl) (by simp [denB, hb]) hnl (loadS_ok hs)
    · cases h
  · rename_i b off i z hx
    split at h
    · rename_i ct pub nl hb
      split at h
      case h_2 => cases h
      rename_i g s hs
      cases h
      simp only [Bool.and_eq_true, Bool.not_eq_true'] at hg
      exact ok_load (b := b) (off := off + i.toNat * z) (bx := SB.den ⟨ct, pub, nl⟩) (by show (ρ x).den = _; rw [hx]; rfl) (by simp [denB, hb]) hg.1 (loadI_ok hs hg.2)
    · cases h
  · rename_i es hx
    obtain ⟨s, hs, rfl⟩ := Option.map_eq_some_iff.1 h
    exact ok_load_i (flat := denE es) (by show (ρ x).den = _; rw [hx]; rfl) (by rw [← sgE_den]; exact loadS_ok hs)
  · cases h

def pubOk (pub o : Nat) : Bool := match pub with
  | 0 => true
  | p + 1 => Nat.ble (p + 1) o
theorem pubOk_iff {pub o : Nat} (h : pubOk pub o = true) : pub ≤ o := by
  cases pub with
  | zero => exact Nat.zero_le _
  | succ p => exact Nat.le_of_ble_eq_true h
def sStore (P : Program) (T : TypeId) (bx : Nat → Option SB) (y : SV) : SV → Option Res
  | .one (.c (.ptr b off)) => match bx b, segsOf y with
    | some ⟨.sg l, pub, nl⟩, some m => match putS l off m, tySize P T with
      | some l', some n => bif Nat.beq n (lenS m) then some ⟨!nl && pubOk pub off, [], c1 .junk, [(b, some ⟨.sg l', pub, nl⟩)]⟩ else none
      | _, _ => none
    | _, _ => none
  | .one (.c (.pti b off i z)) => match bx b, segsOf y with
    | some ⟨ct, pub, nl⟩, some m => match storeI off i z m ct, tySize P T with
      | some (g, ct'), some n => bif Nat.beq n (lenS m) then some ⟨!nl && pubOk pub (off + i.toNat * z) && g, [], c1 .junk, [(b, some ⟨ct', pub, nl⟩)]⟩ else none
      | _, _ => none
    | _, _ => none
  | _ => none
theorem sStore_ok {T : TypeId} {x y : Operand} {r : Res} (h : sStore C.P T bx (ρ y) (ρ x) = some r) : Ok C ⟨none, .store T x y, ty, pos, after, guard⟩ ρ bx r := by
  intro hg
  unfold sStore at h
  split at h
  · rename_i b off hx
    split at h
    · rename_i l pub nl m hb hm
      split at h
      · rename_i l' n hl hn
        obtain ⟨h1, h2⟩ := bif_some h
        cases h2
        simp only [Bool.and_eq_true, Bool.not_eq_true'] at hg
        have hn' := Nat.eq_of_beq_eq_true h1
        obtain ⟨p1, p2⟩ := putS_ok hl
        have := ok_store (C := C) (ty := ty) (pos := pos) (after := after) (guard := guard) (ρ := denR ρ) (pre := denB bx) (T := T) (x := x) (y := y) (b := b) (off := off) (bx := SB.den ⟨.sg l, pub, nl⟩) (cs := denS m)
          (by show (ρ x).den = _; rw [hx]; rfl) (by simp [denB, hb]) hg.1 (segsOf_ok hm) (by rw [hn, hn', lenS_ok]) (pubOk_iff hg.2) p2 (by intro h; cases h)
        have e : ({ SB.den ⟨.sg l, pub, nl⟩ with cells := spliceA (SB.den ⟨.sg l, pub, nl⟩).cells (denS m) off } : Box) = SB.den ⟨.sg l', pub, nl⟩ := by
          show Box.mk (spliceA (denS l) (denS m) off) pub nl false = Box.mk (denS l') pub nl false
          rw [p1]
        rw [e] at this; exact this
      · cases h
    · cases h
  · rename_i b off i z hx
    split at h
    · rename_i ct pub nl m hb hm
      split at h
      · rename_i g ct' n hl hn
        obtain ⟨h1, h2⟩ := bif_some h
        cases h2
        simp only [Bool.and_eq_true, Bool.not_eq_true'] at hg
        have hn' := Nat.eq_of_beq_eq_true h1
        obtain ⟨p1, p2⟩ := storeI_ok hl hg.2
        have := ok_store (C := C) (ty := ty) (pos := pos) (after := after) (guard := guard) (ρ := denR ρ) (pre := denB bx) (T := T) (x := x) (y := y) (b := b) (off := off + i.toNat * z) (bx := SB.den ⟨ct, pub, nl⟩) (cs := denS m)
          (by show (ρ x).den = _; rw [hx]; rfl) (by simp [denB, hb]) hg.1.1 (segsOf_ok hm) (by rw [hn, hn', lenS_ok]) (pubOk_iff hg.1.2) p2 (by intro h; cases h)
        have e : ({ SB.den ⟨ct, pub, nl⟩ with cells := spliceA (SB.den ⟨ct, pub, nl⟩).cells (denS m) (off + i.toNat * z) } : Box) = SB.den ⟨ct', pub, nl⟩ := by
          show Box.mk (spliceA ct.den (denS m) (off + i.toNat * z)) pub nl false = Box.mk ct'.den pub nl false
          rw [p1]
        rw [e] at this; exact this
      · cases h
    · cases h
  · cases h

def sNil : SV → Option Res
  | .one (.c (.ptr b off)) => some ⟨true, [], c1 (.ptr b off), []⟩
  | .one (.c (.pti b off i z)) => some ⟨true, [], c1 (.pti b off i z), []⟩
  | .one (.c (.ept es)) => some ⟨true, [], c1 (.ept es), []⟩
  | _ => none
theorem sNil_ok {x : Operand} {r : Res} (h : sNil (ρ x) = some r) : Ok C ⟨dst, .nilCheck x, ty, pos, after, guard⟩ ρ bx r := by
  intro _
  unfold sNil at h
  split at h
  · rename_i hx; cases h; exact ok_nil_ptr (by show (ρ x).den = _; rw [hx]; rfl)
  · rename_i hx; cases h; exact ok_nil_ptr (by show (ρ x).den = _; rw [hx]; rfl)
  · rename_i hx; cases h; exact ok_nil_iptr (by show (ρ x).den = _; rw [hx]; rfl)
  · cases h

/-! ### == of arrays -/
def nrm (n : Nat) (l : List Int) : List Int := (List.range n).map fun i => l.getD i 0
theorem nrm_eq {n : Nat} {l : List Int} (h : l.length = n) : nrm n l = l := by
  subst h
  unfold nrm
  apply List.ext_getElem
  · simp
  · intro i h1 h2
    simp [List.getD_eq_getElem?_getD, h2]
theorem arrL_nrm (k : IntKind) (n : Nat) (l : List Int) : arrL k n l = IL k (nrm n l) := by simp [arrL, IL, nrm]
def isEq : BinOp → Bool
  | .eql => true
  | .neq => true
  | _ => false
def eqR : BinOp → Bool → Bool
  | .eql, r => r
  | _, r => !r
def sEqAgg (P : Program) (op : BinOp) (T : TypeId) (as bs : List Sg) : Option Res :=
  match as, bs, tyArr P T with
  | [.arr k n a], [.arr k' n' b], some (len, E) => match tyInt P E with
    | some k2 => bif decide (k = k') && decide (k = k2) && Nat.beq n len && Nat.beq n' len && (match tySize P E with | some s => Nat.beq s 1 | none => false) && !(P.eqGuardType P.depth T) then
        some ⟨true, [], c1 (.bool (eqR op (decide (nrm len a = nrm len b)))), []⟩ else none
    | none => none
  | _, _, none => match eqT P T (denS as) (denS bs) with
    | some r => some ⟨true, [], c1 (.bool (eqR op r)), []⟩
    | none => none
  | _, _, _ => none
theorem op_bool (op : BinOp) (h : isEq op = true) (r : Bool) : (r == decide (op = .eql)) = eqR op r := by
  cases op <;> simp [isEq, eqR] at h ⊢
theorem isEq_or {op : BinOp} (h : isEq op = true) : op = .eql ∨ op = .neq := by cases op <;> simp [isEq] at h ⊢
theorem sEqAgg_ok {op : BinOp} {T T' : TypeId} {x y : Operand} {as bs : List Sg} {r : Res} (hop : isEq op = true) (hx : ρ x = .one (.agg as)) (hy : ρ y = .one (.agg bs)) (h : sEqAgg C.P op T as bs = some r) :
    Ok C ⟨dst, .binOp op T x y T', ty, pos, after, guard⟩ ρ bx r := by
  intro _
  unfold sEqAgg at h
  split at h
  · rename_i k n a k' n' b len E ht
    split at h
    · rename_i k2 hk
      obtain ⟨h1, h2⟩ := bif_some h
      cases h2
      simp only [Bool.and_eq_true, Bool.not_eq_true', decide_eq_true_eq] at h1
      obtain ⟨⟨⟨⟨⟨rfl, rfl⟩, h3⟩, h4⟩, h5⟩, h6⟩ := h1
      have := Nat.eq_of_beq_eq_true h3
      subst this
      have := Nat.eq_of_beq_eq_true h4
      subst this
      have hs : tySize C.P E = some 1 := by
        split at h5
        · rename_i s hs; rw [hs, Nat.eq_of_beq_eq_true h5]
        · cases h5
      have := ok_eq_arr (C := C) (dst := dst) (ty := ty) (pos := pos) (after := after) (guard := guard) (ρ := denR ρ) (pre := denB bx) (T := T) (T' := T') (x := x) (y := y) (a := nrm n' a) (b := nrm n' b) (isEq_or hop)
        (by show (ρ x).den = _; rw [hx]; simp [SV.den, S1.den, denS, Sg.den, arrL_nrm]) (by show (ρ y).den = _; rw [hy]; simp [SV.den, S1.den, denS, Sg.den, arrL_nrm]) ht hk hs h6 (by simp [nrm]) (by simp [nrm])
      rw [op_bool op hop] at this; exact this
    · cases h
  · split at h
    · rename_i b hb
      cases h
      have := ok_eq_agg (C := C) (dst := dst) (ty := ty) (pos := pos) (after := after) (guard := guard) (ρ := denR ρ) (pre := denB bx) (T := T) (T' := T') (x := x) (y := y) (isEq_or hop)
        (by show (ρ x).den = _; rw [hx]; rfl) (by show (ρ y).den = _; rw [hy]; rfl) hb
      rw [op_bool op hop] at this; exact this
    · cases h
  · cases h
def sBin (P : Program) (op : BinOp) (T : TypeId) : SV → SV → Option Res
  | .one (.c x), .one (.c y) => match binS P op T x y with
    | some (g, z) => some ⟨g, [], c1 z, []⟩
    | none => none
  | .one (.agg as), .one (.agg bs) => bif isEq op then sEqAgg P op T as bs else none
  | _, _ => none
theorem sBin_ok {op : BinOp} {T T' : TypeId} {x y : Operand} {r : Res} (h : sBin C.P op T (ρ x) (ρ y) = some r) : Ok C ⟨dst, .binOp op T x y T', ty, pos, after, guard⟩ ρ bx r := by
  unfold sBin at h
  split at h
  · rename_i a b hx hy
    split at h
    case h_2 => cases h
    rename_i g z hz
    cases h
    intro hg
    obtain ⟨a', b', r, e1, e2, e3, e4⟩ := binS_ok hz hg
    have := ok_bin (C := C) (dst := dst) (ty := ty) (pos := pos) (after := after) (guard := guard) (ρ := denR ρ) (pre := denB bx) (T := T) (T' := T') (x := x) (y := y) (a := a') (b := b') (r := r)
      (by show (ρ x).den = _; rw [hx, ← e1]; rfl) (by show (ρ y).den = _; rw [hy, ← e2]; rfl) e4
    rw [← e3] at this; exact this
  · rename_i as bs hx hy
    obtain ⟨h1, h2⟩ := bif_some h
    exact sEqAgg_ok h1 hx hy h2
  · cases h
def sUn (op : UnOp) : SV → Option Res
  | .one (.c x) => (unS op x).map fun z => ⟨true, [], c1 z, []⟩
  | _ => none
theorem sUn_ok {op : UnOp} {T : TypeId} {x : Operand} {r : Res} (h : sUn op (ρ x) = some r) : Ok C ⟨dst, .unOp op T x, ty, pos, after, guard⟩ ρ bx r := by
  unfold sUn at h
  split at h
  · rename_i a hx
    obtain ⟨z, hz, rfl⟩ := Option.map_eq_some_iff.1 h
    intro _
    obtain ⟨a', r, e1, e2, e3⟩ := unS_ok hz
    have := ok_un (C := C) (dst := dst) (ty := ty) (pos := pos) (after := after) (guard := guard) (ρ := denR ρ) (pre := denB bx) (T := T) (x := x) (by show (ρ x).den = .c (.lit a'); rw [hx, ← e1]; rfl) e3
    rw [← e2] at this; exact this
  · cases h

/-! ### addresses -/

def sField (P : Program) (T : TypeId) (f : Nat) (x : SV) : Option Res :=
  match tyField P T f with
  | some (o, U) => match tySize P U with
    | some (_ + 1) => match x with
      | .one (.c (.ptr b off)) => some ⟨true, [], c1 (.ptr b (off + o)), []⟩
      | .one (.c (.pti b off i z)) => some ⟨true, [], c1 (.pti b (off + o) i z), []⟩
      | .one (.c (.ept es)) => (dropE es o).map fun r => ⟨true, [], c1 (.ept r), []⟩
      | _ => none
    | _ => none
  | none => none
theorem sField_ok {T : TypeId} {f : Nat} {x : Operand} {r : Res} (h : sField C.P T f (ρ x) = some r) : Ok C ⟨dst, .fieldAddr T x f, ty, pos, after, guard⟩ ρ bx r := by
  intro _
  unfold sField at h
  split at h
  · rename_i o U ht
    split at h
    · rename_i n hn
      split at h
      · rename_i b off hx
        cases h
        exact ok_field_ptr (by show (ρ x).den = _; rw [hx]; rfl) ht hn
      · rename_i b off i z hx
        cases h
        have := ok_field_ptr (C := C) (dst := dst) (ty := ty) (pos := pos) (after := after) (guard := guard) (ρ := denR ρ) (pre := denB bx) (x := x) (b := b) (off := off + i.toNat * z) (by show (ρ x).den = _; rw [hx]; rfl) ht hn
        show OpOk C _ _ _ _ (.c (.ptr b (off + o + i.toNat * z))) _
        rw [show off + o + i.toNat * z = off + i.toNat * z + o by omega]; exact this
      · rename_i es hx
        obtain ⟨r', hr, rfl⟩ := Option.map_eq_some_iff.1 h
        have := ok_field_iptr (C := C) (dst := dst) (ty := ty) (pos := pos) (after := after) (guard := guard) (ρ := denR ρ) (pre := denB bx) (x := x) (flat := denE es) (by show (ρ x).den = _; rw [hx]; rfl) ht hn
        rw [dropE_ok hr] at this; exact this
      · cases h
    · cases h
  · cases h

def isConst : Operand → Bool
  | .const _ => true
  | _ => false
def intOfS : SV → Option Int
  | .one (.c (.int _ i)) => some i
  | _ => none
theorem intOfS_ok {x : SV} {i : Int} (h : intOfS x = some i) : ∃ k, x.den = .c (.lit (.int k i)) := by
  unfold intOfS at h
  split at h
  · rename_i k j; cases h; exact ⟨k, rfl⟩
  · cases h
def ixArr (n len : Nat) (st : Bool) (i : Int) : Cl → Option Res
  | .ptr b off => some ⟨inB i len, [], c1 (bif st then .ptr b (off + i.toNat * n) else .pti b off i n), []⟩
  | .ept (.arr k m xs :: _) => bif Nat.beq n 1 && Nat.ble len m then some ⟨inB i len, [], c1 (.ept [.c (.int k) (.i (xs.getD i.toNat 0))]), []⟩ else none
  | .ept es => bif st then (dropE es (i.toNat * n)).map fun r => ⟨inB i len, [], c1 (.ept r), []⟩ else none
  | _ => none
def ixSl (n : Nat) (i : Int) : Cl → Option Res
  | .ints k l => bif Nat.beq n 1 then some ⟨inB i l.length, [], c1 (.ept [.c (.int k) (.i (l.getD i.toNat 0))]), []⟩ else none
  | .rows ks l => bif Nat.beq n ks.length && Nat.blt 0 n then some ⟨inB i l.length, [], c1 (.ept (rowE (l.getD i.toNat []) ks 0)), []⟩ else none
  | .sl b len z nl => bif Nat.beq n z then some ⟨!nl && inB i len, [], c1 (.pti b 0 i z), []⟩ else none
  | _ => none
def sIxA (P : Program) (T : TypeId) (st : Bool) (x y : SV) : Option Res :=
  match intOfS y, x with
  | some i, .one (.c c) => match tyArr P T with
    | some (len, E) => match tySize P E with
      | some n => ixArr n len st i c
      | none => none
    | none => match tySlice P T with
      | some E => match tySize P E with
        | some n => ixSl n i c
        | none => none
      | none => none
  | _, _ => none
theorem sIxA_ok {T : TypeId} {st : Bool} {x y : Operand} {r : Res} (h : sIxA C.P T st (ρ x) (ρ y) = some r) : Ok C ⟨dst, .indexAddr T x y, ty, pos, after, guard⟩ ρ bx r := by
  intro hg
  unfold sIxA at h
  split at h
  · rename_i i c hi hx
    obtain ⟨k, hy⟩ := intOfS_ok hi
    have hx' : denR ρ x = .c c.den := by show (ρ x).den = _; rw [hx]; rfl
    split at h
    · rename_i len E ht
      split at h
      · rename_i n hn
        unfold ixArr at h
        split at h
        · rename_i b off
          cases h
          obtain ⟨h0, h1⟩ := (inB_iff _ _).1 hg
          have := ok_ix_ptr (C := C) (dst := dst) (ty := ty) (pos := pos) (after := after) (guard := guard) (ρ := denR ρ) (pre := denB bx) (x := x) (y := y) hx' hy ht hn h0 h1
          cases st <;> exact this
        · rename_i k' m xs tl
          obtain ⟨h2, h3⟩ := bif_some h
          cases h3
          obtain ⟨h0, h1⟩ := (inB_iff _ _).1 hg
          simp only [Bool.and_eq_true] at h2
          have := Nat.eq_of_beq_eq_true h2.1
          subst this
          have hle := Nat.le_of_ble_eq_true h2.2
          have := ok_ix_iptr (C := C) (dst := dst) (ty := ty) (pos := pos) (after := after) (guard := guard) (ρ := denR ρ) (pre := denB bx) (x := x) (y := y) (flat := denE (.arr k' m xs :: tl)) hx' hy ht hn h0 h1
          refine OpOk.weak this fun μ M v hv => ?_
          have e : (denE (.arr k' m xs :: tl)).drop (i.toNat * 1) = denE [.c (.int k') (.i (xs.getD i.toNat 0))] ++ (denE (.arr k' m xs :: tl)).drop (i.toNat + 1) := by
            rw [Nat.mul_one]
            have hlt : i.toNat < (denE (.arr k' m xs :: tl)).length := by
              rw [denE_cons, List.length_append]; show _ < (arrL k' m xs).length + _; rw [arrL_length]; omega
            rw [List.drop_eq_getElem_cons hlt]
            congr 1
            have : (denE (.arr k' m xs :: tl))[i.toNat]? = some (.lit (.int k' (xs.getD i.toNat 0))) := by
              rw [denE_cons]; show (arrL k' m xs ++ _)[_]? = _
              rw [List.getElem?_append_left (by rw [arrL_length]; omega), arrL_get _ _ _ _ (by omega)]
            rw [List.getElem?_eq_getElem hlt] at this
            exact Option.some.inj this
          rw [e] at hv
          exact RepV.iptr_take hv
        · rename_i es hne
          obtain ⟨h2, h3⟩ := bif_some h
          obtain ⟨r', hr, rfl⟩ := Option.map_eq_some_iff.1 h3
          obtain ⟨h0, h1⟩ := (inB_iff _ _).1 hg
          have := ok_ix_iptr (C := C) (dst := dst) (ty := ty) (pos := pos) (after := after) (guard := guard) (ρ := denR ρ) (pre := denB bx) (x := x) (y := y) (flat := denE es) hx' hy ht hn h0 h1
          rw [dropE_ok hr] at this; exact this
        · cases h
      · cases h
    · split at h
      · rename_i E ht
        split at h
        · rename_i n hn
          unfold ixSl at h
          split at h
          · rename_i k' l
            obtain ⟨h2, h3⟩ := bif_some h
            cases h3
            have := Nat.eq_of_beq_eq_true h2
            subst this
            obtain ⟨h0, h1⟩ := (inB_iff _ _).1 hg
            have := ok_ix_list (C := C) (dst := dst) (ty := ty) (pos := pos) (after := after) (guard := guard) (ρ := denR ρ) (pre := denB bx) (x := x) (y := y) (flat := IL k' l) hx' hy ht hn h0 h1 (by rw [IL_length]; omega)
            refine OpOk.weak this fun μ M v hv => ?_
            have e : (IL k' l).drop (i.toNat * 1) = denE [.c (.int k') (.i (l.getD i.toNat 0))] ++ (IL k' l).drop (i.toNat + 1) := by
              rw [Nat.mul_one]
              have hlt : i.toNat < (IL k' l).length := by rw [IL_length]; omega
              rw [List.drop_eq_getElem_cons hlt]
              congr 1
              have := IL_get k' l (i := i.toNat) (by omega)
              rw [List.getElem?_eq_getElem hlt] at this
              exact Option.some.inj this
            rw [e] at hv
            exact RepV.iptr_take hv
          · rename_i ks l
            obtain ⟨h2, h3⟩ := bif_some h
            cases h3
            simp only [Bool.and_eq_true] at h2
            have := Nat.eq_of_beq_eq_true h2.1
            subst this
            have hpos := (blt_iff _ _).1 h2.2
            obtain ⟨h0, h1⟩ := (inB_iff _ _).1 hg
            have hlt : i.toNat < l.length := by omega
            have := ok_ix_list (C := C) (dst := dst) (ty := ty) (pos := pos) (after := after) (guard := guard) (ρ := denR ρ) (pre := denB bx) (x := x) (y := y) (flat := rowsL ks l) hx' hy ht hn h0 h1 (by
              rw [rowsL_length]; exact Nat.mul_lt_mul_of_pos_right hlt hpos)
            refine OpOk.weak this fun μ M v hv => ?_
            rw [rowsL_at ks hlt, ← rowE_den] at hv
            exact RepV.iptr_take hv
          · rename_i b len z nl
            obtain ⟨h2, h3⟩ := bif_some h
            cases h3
            have := Nat.eq_of_beq_eq_true h2
            subst this
            simp only [Bool.and_eq_true, Bool.not_eq_true'] at hg
            obtain ⟨rfl, hg⟩ := hg
            obtain ⟨h0, h1⟩ := (inB_iff _ _).1 hg
            have := ok_ix_sl (C := C) (dst := dst) (ty := ty) (pos := pos) (after := after) (guard := guard) (ρ := denR ρ) (pre := denB bx) (x := x) (y := y) hx' hy ht hn h0 h1
            show OpOk C _ _ _ _ (.c (.ptr b (0 + i.toNat * n))) _
            rw [Nat.zero_add]; exact this
          · cases h
        · cases h
      · cases h
  · cases h

/-! ### values by place -/

def sIx (P : Program) (T : TypeId) (st : Bool) (x y : SV) : Option Res :=
  match intOfS y, x with
  | some i, .one (.c (.str s)) => bif tyIs P T (· matches .string) then some ⟨inB i s.size, [], c1 (.int .u8 ((bytesI s).getD i.toNat 0)), []⟩ else none
  | some i, .one (.agg l) => match tyArr P T with
    | some (len, E) => match tySize P E with
      | some n => bif st then (loadS P E l (i.toNat * n)).map fun r => ⟨inB i len, [], .one r, []⟩ else (match loadI P E 0 i n (.sg l) with
        | some (g, r) => some ⟨inB i len && g, [], .one r, []⟩
        | none => none)
      | none => none
    | none => none
  | _, _ => none
theorem sIx_ok {T : TypeId} {st : Bool} {x y : Operand} {r : Res} (h : sIx C.P T st (ρ x) (ρ y) = some r) : Ok C ⟨dst, .index T x y, ty, pos, after, guard⟩ ρ bx r := by
  intro hg
  unfold sIx at h
  split at h
  · rename_i i s hi hx
    obtain ⟨k, hy⟩ := intOfS_ok hi
    obtain ⟨h1, h2⟩ := bif_some h
    cases h2
    obtain ⟨h3, h4⟩ := (inB_iff _ _).1 hg
    exact ok_index_str (by show (ρ x).den = _; rw [hx]; rfl) hy h1 h3 h4
  · rename_i i l hi hx
    obtain ⟨k, hy⟩ := intOfS_ok hi
    split at h
    · rename_i len E ht
      split at h
      · rename_i n hn
        cases st with
        | true =>
          obtain ⟨s, hs, rfl⟩ := Option.map_eq_some_iff.1 (show (loadS C.P E l (i.toNat * n)).map _ = _ from h)
          obtain ⟨h3, h4⟩ := (inB_iff _ _).1 hg
          exact ok_index_arr (by show (ρ x).den = _; rw [hx]; rfl) hy ht hn h3 h4 (loadS_ok hs)
        | false =>
          simp only [cond_false] at h
          split at h
          case h_2 => cases h
          rename_i g s hs
          cases h
          simp only [Bool.and_eq_true] at hg
          obtain ⟨h3, h4⟩ := (inB_iff _ _).1 hg.1
          have := loadI_ok hs hg.2
          rw [Nat.zero_add] at this
          exact ok_index_arr (by show (ρ x).den = _; rw [hx]; rfl) hy ht hn h3 h4 this
      · cases h
    · cases h
  · cases h
def sFld (P : Program) (T : TypeId) (f : Nat) : SV → Option Res
  | .one (.agg l) => match tyField P T f with
    | some (o, U) => (loadS P U l o).map fun r => ⟨true, [], .one r, []⟩
    | none => none
  | _ => none
theorem sFld_ok {T : TypeId} {f : Nat} {x : Operand} {r : Res} (h : sFld C.P T f (ρ x) = some r) : Ok C ⟨dst, .field T x f, ty, pos, after, guard⟩ ρ bx r := by
  intro _
  unfold sFld at h
  split at h
  · rename_i l hx
    split at h
    · rename_i o U ht
      obtain ⟨s, hs, rfl⟩ := Option.map_eq_some_iff.1 h
      exact ok_field (by show (ρ x).den = _; rw [hx]; rfl) ht (loadS_ok hs)
    · cases h
  · cases h
def nthS {α : Type} : List α → Nat → Option α
  | [], _ => none
  | a :: l, i => match i with
    | 0 => some a
    | i + 1 => nthS l i
theorem nthS_eq {α : Type} : ∀ (l : List α) (i : Nat), nthS l i = l[i]?
  | [], _ => by simp [nthS]
  | a :: l, 0 => rfl
  | a :: l, i + 1 => by rw [nthS, nthS_eq l i]; simp
def sExt (i : Nat) : SV → Option Res
  | .tup l => (nthS l i).map fun r => ⟨true, [], .one r, []⟩
  | _ => none
theorem sExt_ok {i : Nat} {x : Operand} {r : Res} (h : sExt i (ρ x) = some r) : Ok C ⟨dst, .extract x i, ty, pos, after, guard⟩ ρ bx r := by
  intro _
  unfold sExt at h
  split at h
  · rename_i l hx
    obtain ⟨s, hs, rfl⟩ := Option.map_eq_some_iff.1 h
    rw [nthS_eq] at hs
    exact ok_extract (vs := l.map S1.den) (by show (ρ x).den = _; rw [hx]; rfl) (by rw [List.getElem?_map, hs]; rfl)
  · cases h

/-! ### structs by parts -/

def fillS (place : Nat → Option (Nat × Nat)) : List Sg → List (Nat × SV) → Option (List Sg)
  | l, [] => some l
  | l, (i, v) :: ps => match place i, segsOf v with
    | some (o, n), some m => match putS l o m with
      | some l' => bif Nat.beq (lenS m) n then fillS place l' ps else none
      | none => none
    | _, _ => none
theorem fillS_ok {place : Nat → Option (Nat × Nat)} : ∀ {ps : List (Nat × SV)} {l r : List Sg}, fillS place l ps = some r → fillA place (denS l) (ps.map fun p => (p.1, p.2.den)) = some (denS r)
  | [], l, r, h => by cases h; rfl
  | (i, v) :: ps, l, r, h => by
    unfold fillS at h
    split at h
    · rename_i o n m hp hm
      split at h
      · rename_i l' hl
        obtain ⟨h1, h2⟩ := bif_some h
        have := Nat.eq_of_beq_eq_true h1
        subst this
        obtain ⟨p1, p2⟩ := putS_ok hl
        have ih := fillS_ok h2
        rw [List.map_cons]
        simp only [fillA, hp, segsOf_ok hm]
        rw [lenS_ok, if_neg (by simp; omega)]
        rw [p1] at ih; exact ih
      · cases h
    · cases h
def partsS (ρ : Operand → SV) : List (Nat × Operand) → List (Nat × SV)
  | [] => []
  | p :: ps => (p.1, ρ p.2) :: partsS ρ ps
theorem partsS_den (ρ : Operand → SV) (ps : List (Nat × Operand)) : (partsS ρ ps).map (fun p => (p.1, p.2.den)) = ps.map fun p => (p.1, denR ρ p.2) := by
  induction ps with
  | nil => rfl
  | cons p ps ih => simp only [partsS, List.map_cons, ih]; rfl
def sized (P : Program) : List Field → Bool
  | [] => true
  | f :: fs => match tySize P f.type with
    | some _ => sized P fs
    | none => false
theorem sized_ok {P : Program} : ∀ {fs : List Field}, sized P fs = true → ∀ x ∈ fs, (tySize P x.type).isSome = true
  | [], _, x, hx => by cases hx
  | f :: fs, h, x, hx => by
    unfold sized at h
    split at h
    · rename_i n hn
      rcases List.mem_cons.1 hx with rfl | hx
      · rw [hn]; rfl
      · exact sized_ok h x hx
    · cases h
def sBuild (P : Program) (T : TypeId) (ps : List (Nat × SV)) : Option Res :=
  match zeroS P T with
  | some z => match fillS (buildPlace P T) z ps with
    | some l => match P.underlying T with
      | some (.struct fs) => bif sized P fs.toList then some ⟨true, [], .one (.agg l), []⟩ else none
      | some (.array _ E) => match tySize P E with
        | some _ => some ⟨true, [], .one (.agg l), []⟩
        | none => none
      | _ => none
    | none => none
  | none => none
theorem sBuild_ok {T : TypeId} {parts : Array (Nat × Operand)} {r : Res} (h : sBuild C.P T (partsS ρ parts.toList) = some r) : Ok C ⟨dst, .build T parts, ty, pos, after, guard⟩ ρ bx r := by
  intro _
  unfold sBuild at h
  split at h
  · rename_i z hz
    split at h
    · rename_i l hl
      obtain ⟨v, hv, e⟩ := zeroS_ok hz
      have hb : buildA C.P T (parts.toList.map fun p => (p.1, denR ρ p.2)) = some (denS l) := by
        simp only [buildA, hv]
        rw [← e, ← partsS_den]; exact fillS_ok hl
      split at h
      · rename_i fs hu
        obtain ⟨h1, h2⟩ := bif_some h
        cases h2
        exact ok_build hu (sized_ok h1) hb
      · rename_i n E hu
        split at h
        · rename_i m hm
          cases h
          exact ok_build_arr hu hm hb
        · cases h
      · cases h
    · cases h
  · cases h
end ops
end Go.Sy
