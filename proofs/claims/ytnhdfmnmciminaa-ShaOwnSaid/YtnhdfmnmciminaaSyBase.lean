/-
  Symbolic values over the abstract ones, part 1: what they are, what they stand for.
-/
import Derived.Test.YtnhdfmnmciminaaEvSl6
namespace Go.Sy
open Go.Ev
set_option linter.unusedVariables false

/-- A datum of one cell; what kind of cell it is. -/
inductive D where
  | i (n : Int)
  | b (b : Bool)
  | s (s : ByteArray)
  | l (l : List Int)
inductive Kd where
  | int (k : IntKind)
  | bool
  | str
  | ints (k : IntKind)
def D.toI : D → Int
  | .i n => n
  | _ => 0
def D.toB : D → Bool
  | .b x => x
  | _ => false
def D.toS : D → ByteArray
  | .s x => x
  | _ => .empty
def D.toL : D → List Int
  | .l x => x
  | _ => []
def Kd.den : Kd → D → AC
  | .int k, x => .lit (.int k x.toI)
  | .bool, x => .lit (.bool x.toB)
  | .str, x => .lit (.string x.toS)
  | .ints k, x => .list x.toL.length (IL k x.toL)
/-- The cells of an element, from its j-th on. -/
def cellsK (row : List D) : List Kd → Nat → List AC
  | [], _ => []
  | k :: ks, j => k.den (row.getD j (.i 0)) :: cellsK row ks (j + 1)
/-- Cells that nobody writes: one, or an array of whole numbers. -/
inductive Ec where
  | c (k : Kd) (x : D)
  | arr (k : IntKind) (n : Nat) (l : List Int)
def arrL (k : IntKind) (n : Nat) (l : List Int) : List AC := (List.range n).map fun i => .lit (.int k (l.getD i 0))
def Ec.den : Ec → List AC
  | .c k x => [k.den x]
  | .arr k n l => arrL k n l
def denE (es : List Ec) : List AC := es.flatMap Ec.den

inductive Cl where
  | int (k : IntKind) (n : Int)
  | bool (b : Bool)
  | str (s : ByteArray)
  | val (v : Value)
  | ints (k : IntKind) (l : List Int)
  | rows (ks : List Kd) (l : List (List D))
  | ptr (b off : Nat)
  | pti (b off : Nat) (i : Int) (z : Nat)
  | sl (b n z : Nat) (nl : Bool)
  | ept (es : List Ec)
  | clo (k : FuncId) (fs cs : List Ec)
  | junk
def rowsL (ks : List Kd) (l : List (List D)) : List AC := l.flatMap fun row => cellsK row ks 0
def Cl.den : Cl → AC
  | .int k n => .lit (.int k n)
  | .bool b => .lit (.bool b)
  | .str s => .lit (.string s)
  | .val v => .lit v
  | .ints k l => .list l.length (IL k l)
  | .rows ks l => .list l.length (rowsL ks l)
  | .ptr b off => .ptr b off
  | .pti b off i z => .ptr b (off + i.toNat * z)
  | .sl b n z nl => .sl b n z nl
  | .ept es => .iptr (denE es)
  | .clo k fs cs => .clo k (denE fs) (denE cs)
  | .junk => .junk
inductive Sg where
  | c (x : Cl)
  | arr (k : IntKind) (n : Nat) (l : List Int)
def Sg.den : Sg → List AC
  | .c x => [x.den]
  | .arr k n l => arrL k n l
def denS (l : List Sg) : List AC := l.flatMap Sg.den
inductive S1 where
  | c (x : Cl)
  | agg (l : List Sg)
def S1.den : S1 → AV
  | .c x => .c x.den
  | .agg l => .agg (denS l)
inductive SV where
  | one (x : S1)
  | tup (l : List S1)
def SV.den : SV → AV
  | .one x => x.den
  | .tup l => .tup (l.map S1.den)
/-- What a box holds: cells, or a row of numbers, or of elements. -/
inductive Ct where
  | sg (l : List Sg)
  | ints (k : IntKind) (l : List Int)
  | rows (ks : List Kd) (l : List (List D))
def Ct.den : Ct → List AC
  | .sg l => denS l
  | .ints k l => IL k l
  | .rows ks l => rowsL ks l
structure SB where
  ct : Ct
  pub : Nat
  nl : Bool
def SB.den (b : SB) : Box := ⟨b.ct.den, b.pub, b.nl, false⟩

/-- A state: slots and boxes, the last word first. -/
structure SS where
  n : Nat
  t : List (Nat × SV)
  b : List (Nat × Option SB)
def look {α : Type} (d : α) : List (Nat × α) → Nat → α
  | [], _ => d
  | (j, x) :: l, i => bif Nat.beq j i then x else look d l i
def SS.get (s : SS) (t : Nat) : SV := look (.one (.c .junk)) s.t t
def SS.box (s : SS) (b : Nat) : Option SB := look none s.b b
def SS.den (s : SS) : St := ⟨s.n, fun t => (s.get t).den, fun b => (s.box b).map SB.den⟩
def SS.put (s : SS) : Option Nat → SV → SS
  | some d, r => ⟨s.n, (d, r) :: s.t, s.b⟩
  | none, _ => s
def SS.upd (s : SS) (ups : List (Nat × Option SB)) : SS := ⟨s.n, s.t, ups ++ s.b⟩
def denU (ups : List (Nat × Option SB)) : List (Nat × Option Box) := ups.map fun u => (u.1, u.2.map SB.den)

theorem den_put (s : SS) (d : Option Nat) (r : SV) : (s.put d r).den = s.den.put d r.den := by
  cases d with
  | none => rfl
  | some d =>
    simp only [SS.put, SS.den, St.put]
    congr 1
    funext t
    simp only [SS.get, look]
    by_cases h : t = d
    · subst h; simp
    · have : Nat.beq d t = false := by
        cases hb : Nat.beq d t with
        | false => rfl
        | true => exact absurd (Nat.eq_of_beq_eq_true hb).symm h
      rw [this, if_neg h]; rfl
theorem den_upd (s : SS) (ups : List (Nat × Option SB)) : (s.upd ups).den = s.den.upd (denU ups) := by
  induction ups with
  | nil => rfl
  | cons u ups ih =>
    obtain ⟨b, x⟩ := u
    show _ = (s.den.upd (denU ups)).setB b (x.map SB.den)
    rw [← ih]
    simp only [SS.upd, SS.den, St.setB, List.cons_append]
    congr 1
    funext c
    simp only [SS.box, look]
    by_cases h : c = b
    · subst h; simp
    · have : Nat.beq b c = false := by
        cases hb : Nat.beq b c with
        | false => rfl
        | true => exact absurd (Nat.eq_of_beq_eq_true hb).symm h
      rw [this, if_neg h]; rfl

/-! ### which box a value names -/

def Cl.men (b : Nat) : Cl → Bool
  | .ptr b' _ => Nat.beq b' b
  | .pti b' _ _ _ => Nat.beq b' b
  | .sl b' _ _ _ => Nat.beq b' b
  | _ => false
def Sg.men (b : Nat) : Sg → Bool
  | .c x => x.men b
  | .arr .. => false
def anyB {α : Type} (f : α → Bool) : List α → Bool
  | [] => false
  | a :: l => bif f a then true else anyB f l
def allB {α : Type} (f : α → Bool) : List α → Bool
  | [] => true
  | a :: l => bif f a then allB f l else false
theorem anyB_eq {α : Type} (f : α → Bool) (l : List α) : anyB f l = l.any f := by
  induction l with
  | nil => rfl
  | cons a l ih => simp only [anyB, List.any_cons, ih]; cases f a <;> rfl
theorem allB_eq {α : Type} (f : α → Bool) (l : List α) : allB f l = l.all f := by
  induction l with
  | nil => rfl
  | cons a l ih => simp only [allB, List.all_cons, ih]; cases f a <;> rfl
def S1.men (b : Nat) : S1 → Bool
  | .c x => x.men b
  | .agg l => anyB (Sg.men b) l
def SV.men (b : Nat) : SV → Bool
  | .one x => x.men b
  | .tup l => anyB (S1.men b) l
def Ct.men (b : Nat) : Ct → Bool
  | .sg l => anyB (Sg.men b) l
  | _ => false
theorem beq_nat (a b : Nat) : Nat.beq a b = (a == b) := by rw [Bool.eq_iff_iff, Nat.beq_eq, beq_iff_eq]
theorem Kd.men_den (k : Kd) (x : D) (b : Nat) : (k.den x).men b = false := by cases k <;> rfl
theorem Cl.men_den (x : Cl) (b : Nat) : x.den.men b = x.men b := by cases x <;> first | rfl | exact (beq_nat _ _).symm
theorem arrL_men (k : IntKind) (n : Nat) (l : List Int) (b : Nat) : (arrL k n l).any (·.men b) = false := by
  rw [List.any_eq_false]; intro x hx; simp only [arrL, List.mem_map] at hx; obtain ⟨i, _, rfl⟩ := hx; simp [AC.men]
theorem Sg.men_den (x : Sg) (b : Nat) : x.den.any (·.men b) = x.men b := by
  cases x with
  | c x => simp [Sg.den, Cl.men_den, Sg.men]
  | arr k n l => simp only [Sg.den, arrL_men, Sg.men]
theorem denS_men (l : List Sg) (b : Nat) : (denS l).any (·.men b) = anyB (Sg.men b) l := by
  rw [anyB_eq]
  induction l with
  | nil => rfl
  | cons x l ih => rw [denS, List.flatMap_cons, List.any_append, Sg.men_den, List.any_cons]; rw [denS] at ih; rw [ih]
theorem S1.men_den (x : S1) (b : Nat) : men1 b x.den = x.men b := by
  cases x with
  | c x => exact Cl.men_den x b
  | agg l => exact denS_men l b
theorem SV.men_den (x : SV) (b : Nat) : x.den.men b = x.men b := by
  cases x with
  | one x => cases x with
    | c x => exact Cl.men_den x b
    | agg l => exact denS_men l b
  | tup l =>
    show (l.map S1.den).any (men1 b) = anyB (S1.men b) l
    rw [anyB_eq]
    induction l with
    | nil => rfl
    | cons x l ih => rw [List.map_cons, List.any_cons, S1.men_den, List.any_cons, ih]
theorem IL_men (k : IntKind) (l : List Int) (b : Nat) : (IL k l).any (·.men b) = false := by
  rw [List.any_eq_false]; intro x hx; simp only [IL, List.mem_map] at hx; obtain ⟨i, _, rfl⟩ := hx; simp [AC.men]
theorem cellsK_men (row : List D) (b : Nat) : ∀ (ks : List Kd) (j : Nat), (cellsK row ks j).any (·.men b) = false
  | [], _ => rfl
  | k :: ks, j => by simp [cellsK, Kd.men_den, cellsK_men row b ks (j + 1)]
theorem rowsL_men (ks : List Kd) (l : List (List D)) (b : Nat) : (rowsL ks l).any (·.men b) = false := by
  induction l with
  | nil => rfl
  | cons r l ih => rw [rowsL, List.flatMap_cons, List.any_append, cellsK_men]; rw [rowsL] at ih; rw [ih]; rfl
theorem Ct.men_den (x : Ct) (b : Nat) : x.den.any (·.men b) = x.men b := by
  cases x with
  | sg l => exact denS_men l b
  | ints k l => exact IL_men k l b
  | rows ks l => exact rowsL_men ks l b
theorem SB.men_den (x : SB) (b : Nat) : x.den.men b = x.ct.men b := by
  simp only [Box.men, SB.den, Bool.not_false, Bool.true_and]; exact Ct.men_den x.ct b

/-! ### are cells single, and pure -/

theorem Kd.single_den (k : Kd) (x : D) : (k.den x).single = true := by cases k <;> rfl
theorem Kd.pure_den (k : Kd) (x : D) : (k.den x).pure = true := by cases k <;> rfl
theorem arrL_single (k : IntKind) (n : Nat) (l : List Int) : (arrL k n l).all (·.single) = true := by
  rw [List.all_eq_true]; intro x hx; simp only [arrL, List.mem_map] at hx; obtain ⟨i, _, rfl⟩ := hx; rfl
theorem arrL_pure (k : IntKind) (n : Nat) (l : List Int) : (arrL k n l).all (·.pure) = true := by
  rw [List.all_eq_true]; intro x hx; simp only [arrL, List.mem_map] at hx; obtain ⟨i, _, rfl⟩ := hx; rfl
theorem IL_single (k : IntKind) (l : List Int) : (IL k l).all (·.single) = true := by
  rw [List.all_eq_true]; intro x hx; simp only [IL, List.mem_map] at hx; obtain ⟨i, _, rfl⟩ := hx; rfl
theorem IL_pure (k : IntKind) (l : List Int) : (IL k l).all (·.pure) = true := by
  rw [List.all_eq_true]; intro x hx; simp only [IL, List.mem_map] at hx; obtain ⟨i, _, rfl⟩ := hx; rfl
theorem cellsK_single (row : List D) : ∀ (ks : List Kd) (j : Nat), (cellsK row ks j).all (·.single) = true
  | [], _ => rfl
  | k :: ks, j => by simp [cellsK, Kd.single_den]; simpa using cellsK_single row ks (j + 1)
theorem cellsK_pure (row : List D) : ∀ (ks : List Kd) (j : Nat), (cellsK row ks j).all (·.pure) = true
  | [], _ => rfl
  | k :: ks, j => by simp [cellsK, Kd.pure_den]; simpa using cellsK_pure row ks (j + 1)
theorem rowsL_single (ks : List Kd) (l : List (List D)) : (rowsL ks l).all (·.single) = true := by
  induction l with
  | nil => rfl
  | cons r l ih => rw [rowsL, List.flatMap_cons, List.all_append, cellsK_single]; rw [rowsL] at ih; rw [ih]; rfl
theorem rowsL_pure (ks : List Kd) (l : List (List D)) : (rowsL ks l).all (·.pure) = true := by
  induction l with
  | nil => rfl
  | cons r l ih => rw [rowsL, List.flatMap_cons, List.all_append, cellsK_pure]; rw [rowsL] at ih; rw [ih]; rfl
theorem denE_pure (es : List Ec) : (denE es).all (·.pure) = true := by
  induction es with
  | nil => rfl
  | cons e es ih =>
    rw [denE, List.flatMap_cons, List.all_append]; rw [denE] at ih; rw [ih, Bool.and_true]
    cases e with
    | c k x => simp [Ec.den, Kd.pure_den]
    | arr k n l => exact arrL_pure k n l
def Cl.single : Cl → Bool
  | .val v => Ev.single v
  | .junk => false
  | _ => true
def Cl.pure : Cl → Bool
  | .ptr .. => false
  | .pti .. => false
  | .sl .. => false
  | _ => true
theorem Cl.single_den (x : Cl) : x.den.single = x.single := by cases x <;> rfl
theorem Cl.pure_den (x : Cl) : x.den.pure = x.pure := by cases x <;> rfl
def Sg.single : Sg → Bool
  | .c x => x.single
  | .arr .. => true
def Sg.pure : Sg → Bool
  | .c x => x.pure
  | .arr .. => true
theorem denS_single (l : List Sg) : (denS l).all (·.single) = allB Sg.single l := by
  rw [allB_eq]
  induction l with
  | nil => rfl
  | cons x l ih =>
    rw [denS, List.flatMap_cons, List.all_append, List.all_cons]; rw [denS] at ih; rw [ih]
    congr 1
    cases x with
    | c x => simp [Sg.den, Cl.single_den, Sg.single]
    | arr k n l => exact arrL_single k n l
theorem denS_pure (l : List Sg) : (denS l).all (·.pure) = allB Sg.pure l := by
  rw [allB_eq]
  induction l with
  | nil => rfl
  | cons x l ih =>
    rw [denS, List.flatMap_cons, List.all_append, List.all_cons]; rw [denS] at ih; rw [ih]
    congr 1
    cases x with
    | c x => simp [Sg.den, Cl.pure_den, Sg.pure]
    | arr k n l => exact arrL_pure k n l
def Ct.pure : Ct → Bool
  | .sg l => allB Sg.pure l
  | _ => true
theorem Ct.pure_den (x : Ct) : x.den.all (·.pure) = x.pure := by
  cases x with
  | sg l => exact denS_pure l
  | ints k l => exact IL_pure k l
  | rows ks l => exact rowsL_pure ks l
def S1.pure : S1 → Bool
  | .c x => x.pure
  | .agg l => allB Sg.pure l
theorem S1.pure_den (x : S1) : pure1 x.den = x.pure := by
  cases x with
  | c x => exact Cl.pure_den x
  | agg l => exact denS_pure l
def SV.pure : SV → Bool
  | .one x => x.pure
  | .tup l => allB S1.pure l
theorem SV.pure_den (x : SV) : x.den.pure = x.pure := by
  cases x with
  | one x => cases x with
    | c x => exact Cl.pure_den x
    | agg l => exact denS_pure l
  | tup l =>
    show (l.map S1.den).all pure1 = allB S1.pure l
    rw [allB_eq]
    induction l with
    | nil => rfl
    | cons x l ih => rw [List.map_cons, List.all_cons, S1.pure_den, List.all_cons, ih]

/-! ### cells by place -/

theorem denS_cons (x : Sg) (l : List Sg) : denS (x :: l) = x.den ++ denS l := rfl
theorem denS_append (a b : List Sg) : denS (a ++ b) = denS a ++ denS b := by simp [denS]
theorem arrL_length (k : IntKind) (n : Nat) (l : List Int) : (arrL k n l).length = n := by simp [arrL]
theorem arrL_get (k : IntKind) (n : Nat) (l : List Int) (i : Nat) (h : i < n) : (arrL k n l)[i]? = some (.lit (.int k (l.getD i 0))) := by
  simp [arrL, h]
def cellAt : List Sg → Nat → Option Cl
  | [], _ => none
  | .c x :: l, o => match o with
    | 0 => some x
    | o + 1 => cellAt l o
  | .arr k n xs :: l, o => bif Nat.blt o n then some (.int k (xs.getD o 0)) else cellAt l (o - n)
theorem blt_iff (a b : Nat) : Nat.blt a b = true ↔ a < b := by simp [Nat.blt, Nat.lt_iff_add_one_le]
theorem blt_not (a b : Nat) : Nat.blt a b = false ↔ b ≤ a := by
  rw [← Bool.not_eq_true, blt_iff]; omega
theorem cellAt_ok : ∀ {l : List Sg} {o : Nat} {x : Cl}, cellAt l o = some x → (denS l)[o]? = some x.den
  | [], _, _, h => by cases h
  | .c y :: l, 0, x, h => by cases h; rfl
  | .c y :: l, o + 1, x, h => by
    have := cellAt_ok (l := l) (o := o) h
    rw [denS_cons]; exact this
  | .arr k n xs :: l, o, x, h => by
    rw [denS_cons]
    show (arrL k n xs ++ denS l)[o]? = _
    unfold cellAt at h
    cases hb : Nat.blt o n with
    | true =>
      rw [hb] at h
      cases h
      have := (blt_iff _ _).1 hb
      rw [List.getElem?_append_left (by rw [arrL_length]; exact this), arrL_get _ _ _ _ this]; rfl
    | false =>
      rw [hb] at h
      have h' := (blt_not _ _).1 hb
      rw [List.getElem?_append_right (by rw [arrL_length]; exact h'), arrL_length]
      exact cellAt_ok h
/-- Without the first o cells, where a part begins there. -/
def dropS : List Sg → Nat → Option (List Sg)
  | [], o => match o with
    | 0 => some []
    | _ + 1 => none
  | .c x :: l, o => match o with
    | 0 => some (.c x :: l)
    | o + 1 => dropS l o
  | .arr k n xs :: l, o => match o with
    | 0 => some (.arr k n xs :: l)
    | o + 1 => bif Nat.ble n (o + 1) then dropS l (o + 1 - n) else none
theorem dropS_ok : ∀ {l : List Sg} {o : Nat} {r : List Sg}, dropS l o = some r → (denS l).drop o = denS r ∧ o ≤ (denS l).length
  | [], 0, r, h => by cases h; exact ⟨rfl, Nat.le_refl _⟩
  | [], o + 1, r, h => by cases h
  | .c y :: l, 0, r, h => by cases h; exact ⟨rfl, Nat.zero_le _⟩
  | .c y :: l, o + 1, r, h => by
    obtain ⟨h1, h2⟩ := dropS_ok (l := l) (o := o) h
    rw [denS_cons]; exact ⟨h1, by simp [Sg.den]; omega⟩
  | .arr k n xs :: l, 0, r, h => by cases h; exact ⟨rfl, Nat.zero_le _⟩
  | .arr k n xs :: l, o + 1, r, h => by
    unfold dropS at h
    simp only at h
    cases hb : Nat.ble n (o + 1) with
    | false => rw [hb] at h; cases h
    | true =>
      rw [hb] at h
      have hle := Nat.le_of_ble_eq_true hb
      obtain ⟨h1, h2⟩ := dropS_ok h
      rw [denS_cons]
      show (arrL k n xs ++ denS l).drop _ = _ ∧ _ ≤ (arrL k n xs ++ denS l).length
      rw [List.drop_append, arrL_length, List.drop_of_length_le (by rw [arrL_length]; exact hle), List.nil_append]
      exact ⟨h1, by rw [List.length_append, arrL_length]; omega⟩
def takeS : List Sg → Nat → Option (List Sg)
  | [], o => match o with
    | 0 => some []
    | _ + 1 => none
  | .c x :: l, o => match o with
    | 0 => some []
    | o + 1 => (takeS l o).map (.c x :: ·)
  | .arr k n xs :: l, o => match o with
    | 0 => some []
    | o + 1 => bif Nat.ble n (o + 1) then (takeS l (o + 1 - n)).map (.arr k n xs :: ·) else none
theorem takeS_ok : ∀ {l : List Sg} {o : Nat} {r : List Sg}, takeS l o = some r → (denS l).take o = denS r ∧ o ≤ (denS l).length
  | [], 0, r, h => by cases h; exact ⟨rfl, Nat.le_refl _⟩
  | [], o + 1, r, h => by cases h
  | .c y :: l, 0, r, h => by cases h; exact ⟨rfl, Nat.zero_le _⟩
  | .c y :: l, o + 1, r, h => by
    obtain ⟨r', hr, rfl⟩ := Option.map_eq_some_iff.1 h
    obtain ⟨h1, h2⟩ := takeS_ok (l := l) (o := o) hr
    rw [denS_cons, denS_cons, ← h1]; exact ⟨rfl, by simp [Sg.den]; omega⟩
  | .arr k n xs :: l, 0, r, h => by cases h; exact ⟨rfl, Nat.zero_le _⟩
  | .arr k n xs :: l, o + 1, r, h => by
    unfold takeS at h
    simp only at h
    cases hb : Nat.ble n (o + 1) with
    | false => rw [hb] at h; cases h
    | true =>
      rw [hb] at h
      have hle := Nat.le_of_ble_eq_true hb
      obtain ⟨r', hr, rfl⟩ := Option.map_eq_some_iff.1 h
      obtain ⟨h1, h2⟩ := takeS_ok hr
      rw [denS_cons, denS_cons]
      show (arrL k n xs ++ denS l).take _ = arrL k n xs ++ _ ∧ _ ≤ (arrL k n xs ++ denS l).length
      rw [List.take_append, arrL_length, List.take_of_length_le (by rw [arrL_length]; exact hle), h1]
      exact ⟨rfl, by rw [List.length_append, arrL_length]; omega⟩
def Kd.cl : Kd → D → Cl
  | .int k, x => .int k x.toI
  | .bool, x => .bool x.toB
  | .str, x => .str x.toS
  | .ints k, x => .ints k x.toL
theorem Kd.cl_den (k : Kd) (x : D) : (k.cl x).den = k.den x := by cases k <;> rfl
def Ec.sg : Ec → Sg
  | .c k x => .c (k.cl x)
  | .arr k n l => .arr k n l
def sgE : List Ec → List Sg
  | [] => []
  | e :: es => e.sg :: sgE es
theorem Ec.sg_den (e : Ec) : e.sg.den = e.den := by
  cases e with
  | c k x => simp [Ec.sg, Sg.den, Ec.den, Kd.cl_den]
  | arr k n l => rfl
theorem sgE_den (es : List Ec) : denS (sgE es) = denE es := by
  induction es with
  | nil => rfl
  | cons e es ih => rw [sgE, denS_cons, ih, Ec.sg_den]; rfl
/-- An element's cells, from the j-th on, as parts. -/
def rowE (row : List D) : List Kd → Nat → List Ec
  | [], _ => []
  | k :: ks, j => .c k (row.getD j (.i 0)) :: rowE row ks (j + 1)
theorem rowE_den (row : List D) : ∀ (ks : List Kd) (j : Nat), denE (rowE row ks j) = cellsK row ks j
  | [], _ => rfl
  | k :: ks, j => by
    have := rowE_den row ks (j + 1)
    unfold rowE cellsK
    rw [← this]; rfl
theorem cellsK_length (row : List D) : ∀ (ks : List Kd) (j : Nat), (cellsK row ks j).length = ks.length
  | [], _ => rfl
  | k :: ks, j => by simp [cellsK, cellsK_length row ks (j + 1)]
theorem rowsL_length (ks : List Kd) (l : List (List D)) : (rowsL ks l).length = l.length * ks.length := by
  induction l with
  | nil => simp [rowsL]
  | cons r l ih => rw [rowsL, List.flatMap_cons, List.length_append, cellsK_length]; rw [rowsL] at ih; rw [ih, List.length_cons, Nat.succ_mul]; omega
theorem rowsL_drop (ks : List Kd) (l : List (List D)) (i : Nat) : (rowsL ks l).drop (i * ks.length) = rowsL ks (l.drop i) := by
  induction l generalizing i with
  | nil => simp [rowsL]
  | cons r l ih =>
    cases i with
    | zero => simp
    | succ i =>
      rw [List.drop_succ_cons, ← ih i, rowsL, List.flatMap_cons, List.drop_append, cellsK_length, List.drop_of_length_le (by rw [cellsK_length, Nat.succ_mul]; omega), List.nil_append]
      rw [show (i + 1) * ks.length - ks.length = i * ks.length by rw [Nat.succ_mul]; omega]; rfl
theorem rowsL_take (ks : List Kd) (l : List (List D)) (i : Nat) : (rowsL ks l).take (i * ks.length) = rowsL ks (l.take i) := by
  induction l generalizing i with
  | nil => simp [rowsL]
  | cons r l ih =>
    cases i with
    | zero => simp [rowsL]
    | succ i =>
      rw [List.take_succ_cons]
      have e := ih i
      rw [rowsL, List.flatMap_cons, List.take_append, cellsK_length, List.take_of_length_le (by rw [cellsK_length, Nat.succ_mul]; omega)]
      rw [show (i + 1) * ks.length - ks.length = i * ks.length by rw [Nat.succ_mul]; omega]
      show _ ++ (rowsL ks l).take _ = _
      rw [e]; rfl
theorem rowsL_cons (ks : List Kd) (r : List D) (l : List (List D)) : rowsL ks (r :: l) = cellsK r ks 0 ++ rowsL ks l := rfl
theorem rowsL_append (ks : List Kd) (a b : List (List D)) : rowsL ks (a ++ b) = rowsL ks a ++ rowsL ks b := by simp [rowsL]
theorem drop_row {l : List (List D)} {i : Nat} (h : i < l.length) : l.drop i = l.getD i [] :: l.drop (i + 1) := by
  rw [List.drop_eq_getElem_cons h, List.getD_eq_getElem?_getD, List.getElem?_eq_getElem h]; rfl
theorem rowsL_at (ks : List Kd) {l : List (List D)} {i : Nat} (h : i < l.length) : (rowsL ks l).drop (i * ks.length) = cellsK (l.getD i []) ks 0 ++ rowsL ks (l.drop (i + 1)) := by
  rw [rowsL_drop, drop_row h, rowsL_cons]
theorem IL_length (k : IntKind) (l : List Int) : (IL k l).length = l.length := by simp [IL]
theorem IL_get (k : IntKind) (l : List Int) {i : Nat} (h : i < l.length) : (IL k l)[i]? = some (.lit (.int k (l.getD i 0))) := by
  simp [IL, h, List.getD_eq_getElem?_getD]
end Go.Sy
