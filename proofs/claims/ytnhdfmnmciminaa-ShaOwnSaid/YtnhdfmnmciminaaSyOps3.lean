/-
  Symbolic values, part 4: slices, conversions, and all operations as one function.
-/
import Derived.Test.YtnhdfmnmciminaaSyOps2
namespace Go.Sy
open Go.Ev
set_option linter.unusedVariables false
set_option linter.unusedSimpArgs false

def kindOf1 (P : Program) (T : TypeId) : Option Kd :=
  match P.underlying T with
  | some (.int k) => some (.int k)
  | some .bool => some .bool
  | some .string => some .str
  | some (.slice E) => match P.underlying E with
    | some (.int k) => some (.ints k)
    | _ => none
  | _ => none
def catO {α : Type} : List (Option (List α)) → Option (List α)
  | [] => some []
  | none :: _ => none
  | some a :: l => (catO l).map (a ++ ·)
/-- An element's kinds, cell by cell. -/
def kindsOf (P : Program) : Nat → TypeId → Option (List Kd)
  | 0, _ => none
  | d + 1, T => match P.underlying T with
    | some (.struct fs) => catO (fs.toList.map fun f => kindsOf P d f.type)
    | some (.array n E) => (kindsOf P d E).map fun l => (List.replicate n l).flatten
    | _ => (kindOf1 P T).map ([·])
def isInt1 : List Kd → Option IntKind
  | [.int k] => some k
  | _ => none
theorem isInt1_some {ks : List Kd} {k : IntKind} (h : isInt1 ks = some k) : ks = [.int k] := by
  unfold isInt1 at h
  split at h
  · cases h; rfl
  · cases h
theorem rowsL_ints (k : IntKind) (l : List Int) : rowsL [.int k] (l.map fun n => [D.i n]) = IL k l := by
  induction l with
  | nil => rfl
  | cons n l ih => rw [List.map_cons, rowsL_cons, ih]; rfl

/-! ### rows of elements -/

def intC (k : IntKind) : SV → Option Int
  | .one (.c (.int k' n)) => bif decide (k = k') then some n else none
  | _ => none
def rowC (ks : List Kd) (v : SV) : Option (List D) :=
  match segsOf v with
  | some l => rowOf ks l
  | none => none
def mkCt (ks : List Kd) (vs : List SV) : Option Ct :=
  match isInt1 ks with
  | some k => (mapE (intC k) vs).map (.ints k)
  | none => (mapE (rowC ks) vs).map (.rows ks)
/-- Values, and their cells, so many each. -/
inductive Cells (n : Nat) : List SV → List AC → Prop
  | nil : Cells n [] []
  | cons {v : SV} {vs : List SV} {c : List AC} {cs : List AC} (h : cellsOf v.den = some c) (hn : c.length = n) (t : Cells n vs cs) : Cells n (v :: vs) (c ++ cs)
theorem mapE_int {k : IntKind} : ∀ {vs : List SV} {l : List Int}, mapE (intC k) vs = some l → Cells 1 vs (IL k l)
  | [], l, h => by cases h; exact .nil
  | v :: vs, l, h => by
    unfold mapE at h
    split at h
    · rename_i b m hb hm
      cases h
      have ih := mapE_int hm
      have e : cellsOf v.den = some [.lit (.int k b)] := by
        unfold intC at hb
        split at hb
        · obtain ⟨h1, h2⟩ := bif_some hb; cases h2; have := of_decide_eq_true h1; subst this; rfl
        · cases hb
      exact Cells.cons (c := [.lit (.int k b)]) e rfl ih
    · cases h
theorem mapE_row {ks : List Kd} : ∀ {vs : List SV} {l : List (List D)}, mapE (rowC ks) vs = some l → Cells ks.length vs (rowsL ks l)
  | [], l, h => by cases h; exact .nil
  | v :: vs, l, h => by
    unfold mapE at h
    split at h
    · rename_i b m hb hm
      cases h
      have ih := mapE_row hm
      unfold rowC at hb
      split at hb
      · rename_i sg hs
        have e := segsOf_ok hs
        rw [rowOf_ok hb] at e
        exact Cells.cons (c := cellsK b ks 0) e (cellsK_length _ _ _) ih
      · cases hb
    · cases h
theorem mkCt_ok {ks : List Kd} {vs : List SV} {ct : Ct} (h : mkCt ks vs = some ct) : Cells ks.length vs ct.den := by
  unfold mkCt at h
  split at h
  · rename_i k hk
    obtain ⟨l, h1, rfl⟩ := Option.map_eq_some_iff.1 h
    have := isInt1_some hk
    subst this
    exact mapE_int h1
  · obtain ⟨l, h1, rfl⟩ := Option.map_eq_some_iff.1 h
    exact mapE_row h1
theorem Cells.length {n : Nat} {vs : List SV} {cs : List AC} (h : Cells n vs cs) : cs.length = vs.length * n := by
  induction h with
  | nil => simp
  | cons h hn t ih => rw [List.length_append, hn, ih, List.length_cons, Nat.succ_mul]; omega
def enum (j : Nat) : List SV → List (Nat × SV)
  | [] => []
  | v :: vs => (j, v) :: enum (j + 1) vs
theorem fill_seq {n : Nat} {vs : List SV} {cs : List AC} (h : Cells n vs cs) : ∀ (done rest : List AC) (j : Nat), done.length = j * n → rest.length = vs.length * n →
    fillA (fun i => some (i * n, n)) (done ++ rest) ((enum j vs).map fun p => (p.1, p.2.den)) = some (done ++ cs) := by
  induction h with
  | nil => intro done rest j h1 h2; simp at h2; subst h2; simp [enum, fillA]
  | @cons v vs c cs h hn t ih =>
    intro done rest j h1 h2
    simp only [enum, List.map_cons, fillA, h]
    rw [List.length_cons, Nat.succ_mul] at h2
    rw [if_neg (by rw [List.length_append]; omega)]
    have e : List.take (j * n) (done ++ rest) ++ c ++ List.drop (j * n + c.length) (done ++ rest) = (done ++ c) ++ rest.drop n := by
      rw [← h1, List.take_left', List.drop_append, hn, show done.length + n - done.length = n by omega, List.drop_of_length_le (by omega : done.length ≤ done.length + n), List.nil_append]
      rfl
    rw [e, ih (done ++ c) (rest.drop n) (j + 1) (by rw [List.length_append, Nat.succ_mul]; omega) (by rw [List.length_drop]; omega), List.append_assoc]
def seqP (j : Nat) : List (Nat × SV) → Option (List SV)
  | [] => some []
  | (i, v) :: ps => bif Nat.beq i j then (seqP (j + 1) ps).map (v :: ·) else none
theorem seqP_ok : ∀ {ps : List (Nat × SV)} {j : Nat} {vs : List SV}, seqP j ps = some vs → ps = enum j vs
  | [], j, vs, h => by cases h; rfl
  | (i, v) :: ps, j, vs, h => by
    obtain ⟨h1, h2⟩ := bif_some (show (bif Nat.beq i j then (seqP (j + 1) ps).map (v :: ·) else none) = some vs from h)
    obtain ⟨vs', h3, rfl⟩ := Option.map_eq_some_iff.1 h2
    rw [Nat.eq_of_beq_eq_true h1, seqP_ok h3]; rfl
def lenL {α : Type} : List α → Nat
  | [] => 0
  | _ :: l => lenL l + 1
theorem lenL_eq {α : Type} (l : List α) : lenL l = l.length := by induction l with
  | nil => rfl
  | cons a l ih => simp [lenL, ih]
theorem rowZ_some {P : Program} {T E : TypeId} {n len : Nat} {z : Value} (hE : tySlice P T = some E) (hn : tySize P E = some n) (hz : tyZero P E = some z) (hle : len * n ≤ 16777216) : ∃ zs, rowZ P T len = some (n, zs) ∧ zs.length = len * n := by
  unfold rowZ
  simp only [hE, hn]
  rw [if_neg (by omega)]
  by_cases h : len * n = 0
  · rw [if_pos h]; exact ⟨[], rfl, by simp [h]⟩
  · rw [if_neg h]; simp only [hz]; exact ⟨_, rfl, by simp⟩

section ops
variable {C : Cfg} {dst : Option Tmp} {ty : TypeId} {pos : String} {after : Array Edge} {guard : Option (Nat × Bool)} {ρ : Operand → SV} {bx : Nat → Option SB}

def sBuildSl (P : Program) (T : TypeId) (len d : Nat) (bd : Option SB) (ps : List (Nat × SV)) : Option Res :=
  match tySlice P T with
  | some E => match tySize P E, tyZero P E, kindsOf P 8 E, seqP 0 ps with
    | some n, some _, some ks, some vs => match mkCt ks vs with
      | some ct => bif Nat.beq (lenL vs) len && Nat.beq n (lenL ks) && Nat.ble (len * n) 16777216 && isNone bd && !ct.men d then some ⟨true, [], c1 (.sl d len n false), [(d, some ⟨ct, 0, false⟩)]⟩ else none
      | none => none
    | _, _, _, _ => none
  | none => none
theorem sBuildSl_ok {T : TypeId} {len d : Nat} {parts : Array (Nat × Operand)} {r : Res} (h : sBuildSl C.P T len d (bx d) (partsS ρ parts.toList) = some r) : Ok C ⟨some d, .buildSlice T len parts, ty, pos, after, guard⟩ ρ bx r := by
  intro _
  unfold sBuildSl at h
  split at h
  · rename_i E hE
    split at h
    · rename_i n z ks vs hn hz hks hvs
      split at h
      · rename_i ct hct
        obtain ⟨h1, h2⟩ := bif_some h
        cases h2
        simp only [Bool.and_eq_true, Bool.not_eq_true'] at h1
        obtain ⟨⟨⟨⟨h3, h4⟩, h5⟩, h6⟩, h7⟩ := h1
        have e1 := Nat.eq_of_beq_eq_true h3
        have e2 := Nat.eq_of_beq_eq_true h4
        rw [lenL_eq] at e1 e2
        subst e1
        subst e2
        obtain ⟨zs, hzs, hzl⟩ := rowZ_some hE hn hz (Nat.le_of_ble_eq_true h5)
        have hc := mkCt_ok hct
        have hf := fill_seq hc [] zs 0 (by simp) hzl
        rw [← seqP_ok hvs, partsS_den] at hf
        exact ok_buildSlice (denB_none h6) hzs hf (show menL d ct.den = false by rw [menL, Ct.men_den]; exact h7)
      · cases h
    · cases h
  · cases h

def opEq : Operand → Operand → Bool
  | .tmp a, .tmp b => Nat.beq a b
  | _, _ => false
theorem opEq_ok {x y : Operand} (h : opEq x y = true) : x = y := by
  unfold opEq at h
  split at h
  · rw [Nat.eq_of_beq_eq_true h]
  · cases h
def zCt (ks : List Kd) (z : List Value) (n : Nat) : Option Ct :=
  match isInt1 ks, z with
  | some k, [.int k' v] => bif decide (k = k') && decide (v = 0) then some (.ints k (List.replicate n 0)) else none
  | none, z => match rowOf ks (litS z) with
    | some row => some (.rows ks (List.replicate n row))
    | none => none
  | _, _ => none
theorem range_blocks (z : Array Value) (n : Nat) : zerosL z (n * z.size) = (List.replicate n (z.toList.map AC.lit)).flatten := by
  induction n with
  | zero => simp [zerosL]
  | succ n ih =>
    rw [List.replicate_succ', List.flatten_append, ← ih, Nat.succ_mul, zerosL, List.range_add, List.map_append]
    congr 1
    simp only [List.map_map, List.flatten_cons, List.flatten_nil, List.append_nil]
    apply List.ext_getElem
    · simp
    · intro i h1 h2
      simp at h1
      simp only [List.getElem_map, List.getElem_range, Function.comp_apply]
      rw [Nat.mul_comm n, Nat.mul_add_mod, Nat.mod_eq_of_lt h1]
      simp [h1]
theorem rowsL_replicate (ks : List Kd) (row : List D) (n : Nat) : rowsL ks (List.replicate n row) = (List.replicate n (cellsK row ks 0)).flatten := by
  induction n with
  | zero => rfl
  | succ n ih => rw [List.replicate_succ, rowsL_cons, ih, List.replicate_succ, List.flatten_cons]
theorem zCt_ok {ks : List Kd} {z : Array Value} {n : Nat} {ct : Ct} (h : zCt ks z.toList n = some ct) : ct.den = zerosL z (n * z.size) := by
  rw [range_blocks]
  unfold zCt at h
  split at h
  · rename_i k k' v hk hz
    obtain ⟨h1, h2⟩ := bif_some h
    cases h2
    simp only [Bool.and_eq_true, decide_eq_true_eq] at h1
    obtain ⟨rfl, rfl⟩ := h1
    rw [hz]
    show IL k _ = _
    clear h
    induction n with
    | zero => rfl
    | succ n ih => rw [List.replicate_succ, List.replicate_succ, List.flatten_cons, ← ih]; rfl
  · rename_i hk
    split at h
    · rename_i row hr
      cases h
      have := rowOf_ok hr
      rw [litS_den] at this
      rw [this, ← rowsL_replicate]; rfl
    · cases h
  · cases h
def roomI (n : Int) (by' : Nat) : Bool := decide (0 ≤ n) && decide (n * by' ≤ 281474976710656) && decide (n ≤ 9223372036854775807)
def sMake (P : Program) (T : TypeId) (d : Nat) (bd : Option SB) (eq : Bool) (x : SV) : Option Res :=
  match eltOf P T, intOfS x with
  | some el, some n => match kindsOf P 8 el.e with
    | some ks => match zCt ks el.z.toList n.toNat with
      | some ct => bif eq && isNone bd && Nat.beq (lenL el.z.toList) el.sz then some ⟨roomI n el.by', [], c1 (.sl d n.toNat el.sz false), [(d, some ⟨ct, 0, false⟩)]⟩ else none
      | none => none
    | none => none
  | _, _ => none
theorem sMake_ok {T : TypeId} {d : Nat} {x y : Operand} {r : Res} (h : sMake C.P T d (bx d) (opEq x y) (ρ x) = some r) : Ok C ⟨some d, .makeSlice T x y, ty, pos, after, guard⟩ ρ bx r := by
  intro hg
  unfold sMake at h
  split at h
  · rename_i el n he hi
    split at h
    · rename_i ks hks
      split at h
      · rename_i ct hct
        obtain ⟨h1, h2⟩ := bif_some h
        cases h2
        simp only [Bool.and_eq_true] at h1
        obtain ⟨⟨h3, h4⟩, h5⟩ := h1
        have := opEq_ok h3
        subst this
        have h5 := Nat.eq_of_beq_eq_true h5
        rw [lenL_eq, Array.length_toList] at h5
        simp only [roomI, Bool.and_eq_true, decide_eq_true_eq] at hg
        obtain ⟨k, hx⟩ := intOfS_ok hi
        have := ok_makeSlice (C := C) (ty := ty) (pos := pos) (after := after) (guard := guard) (ρ := denR ρ) (pre := denB bx) (T := T) (d := d) (denB_none h4) he hx hx hg.1.1 hg.1.2 hg.2
        have e := zCt_ok hct
        rw [h5] at e
        rw [← e] at this
        exact this
      · cases h
    · cases h
  · cases h

/-! ### len -/

def isSlS (P : Program) (T : TypeId) : Bool := isSlT P T
def sLen (P : Program) (T : TypeId) : SV → Option Res
  | .one (.c (.str s)) => bif tyIs P T (· matches .string) then some ⟨true, [], c1 (.int .i64 s.size), []⟩ else none
  | .one (.c (.ints _ l)) => bif isSlT P T then some ⟨true, [], c1 (.int .i64 l.length), []⟩ else none
  | .one (.c (.rows _ l)) => bif isSlT P T then some ⟨true, [], c1 (.int .i64 l.length), []⟩ else none
  | .one (.c (.sl _ n _ _)) => bif isSlT P T then some ⟨true, [], c1 (.int .i64 n), []⟩ else none
  | .one (.c (.val (.slice none 0 0))) => bif isSlT P T then some ⟨true, [], c1 (.int .i64 0), []⟩ else none
  | .one (.agg _) => match tyArr P T with
    | some (n, _) => some ⟨true, [], c1 (.int .i64 n), []⟩
    | none => none
  | _ => none
theorem sLen_ok {T : TypeId} {x : Operand} {r : Res} (h : sLen C.P T (ρ x) = some r) : Ok C ⟨dst, .call ⟨.builtin .len, #[x], #[T]⟩, ty, pos, after, guard⟩ ρ bx r := by
  intro _
  unfold sLen at h
  split at h
  · rename_i s hx
    obtain ⟨h1, h2⟩ := bif_some h
    cases h2
    exact ok_len (by show lenA C.P T (ρ x).den = _; rw [hx]; show (if tyIs C.P T _ = true then some (s.size : Int) else none) = _; exact if_pos h1)
  · rename_i k l hx
    obtain ⟨h1, h2⟩ := bif_some h
    cases h2
    exact ok_len (by show lenA C.P T (ρ x).den = _; rw [hx]; exact if_pos h1)
  · rename_i k l hx
    obtain ⟨h1, h2⟩ := bif_some h
    cases h2
    exact ok_len (by show lenA C.P T (ρ x).den = _; rw [hx]; exact if_pos h1)
  · rename_i b n z nl hx
    obtain ⟨h1, h2⟩ := bif_some h
    cases h2
    exact ok_len (by show lenA C.P T (ρ x).den = _; rw [hx]; exact if_pos h1)
  · rename_i hx
    obtain ⟨h1, h2⟩ := bif_some h
    cases h2
    exact ok_len (by show lenA C.P T (ρ x).den = _; rw [hx]; exact if_pos h1)
  · rename_i l hx
    split at h
    · rename_i n E ht
      cases h
      exact ok_len (by show lenA C.P T (ρ x).den = _; rw [hx]; show (tyArr C.P T).map _ = _; rw [ht]; rfl)
    · cases h
  · cases h
def sMin (x y : SV) : Option Res :=
  match x, y with
  | .one (.c (.int k a)), .one (.c (.int _ b)) => some ⟨true, [], c1 (.int k (bif decide (b < a) then b else a)), []⟩
  | _, _ => none
def sMax (x y : SV) : Option Res :=
  match x, y with
  | .one (.c (.int k a)), .one (.c (.int _ b)) => some ⟨true, [], c1 (.int k (bif decide (a < b) then b else a)), []⟩
  | _, _ => none
theorem bif_if {α : Type} (p : Prop) [Decidable p] (a b : α) : (bif decide p then a else b) = if p then a else b := by by_cases h : p <;> simp [h]
theorem sMin_ok {ats : Array TypeId} {x y : Operand} {r : Res} (h : sMin (ρ x) (ρ y) = some r) : Ok C ⟨dst, .call ⟨.builtin .min, #[x, y], ats⟩, ty, pos, after, guard⟩ ρ bx r := by
  intro _
  unfold sMin at h
  split at h
  · rename_i k a k' b hx hy
    cases h
    have := ok_min (C := C) (dst := dst) (ty := ty) (pos := pos) (after := after) (guard := guard) (ats := ats) (ρ := denR ρ) (pre := denB bx) (x := x) (y := y) (k := k) (k' := k') (a := a) (b := b)
      (by show (ρ x).den = _; rw [hx]; rfl) (by show (ρ y).den = _; rw [hy]; rfl)
    rw [← bif_if] at this; exact this
  · cases h
theorem sMax_ok {ats : Array TypeId} {x y : Operand} {r : Res} (h : sMax (ρ x) (ρ y) = some r) : Ok C ⟨dst, .call ⟨.builtin .max, #[x, y], ats⟩, ty, pos, after, guard⟩ ρ bx r := by
  intro _
  unfold sMax at h
  split at h
  · rename_i k a k' b hx hy
    cases h
    have := ok_max (C := C) (dst := dst) (ty := ty) (pos := pos) (after := after) (guard := guard) (ats := ats) (ρ := denR ρ) (pre := denB bx) (x := x) (y := y) (k := k) (k' := k') (a := a) (b := b)
      (by show (ρ x).den = _; rw [hx]; rfl) (by show (ρ y).den = _; rw [hy]; rfl)
    rw [← bif_if] at this; exact this
  · cases h

/-! ### append -/

def kdEq : Kd → Kd → Bool
  | .int k, .int k' => decide (k = k')
  | .bool, .bool => true
  | .str, .str => true
  | .ints k, .ints k' => decide (k = k')
  | _, _ => false
def ksEq : List Kd → List Kd → Bool
  | [], [] => true
  | k :: ks, k' :: ks' => kdEq k k' && ksEq ks ks'
  | _, _ => false
theorem kdEq_ok {a b : Kd} (h : kdEq a b = true) : a = b := by
  unfold kdEq at h
  split at h <;> first | (simp only [decide_eq_true_eq] at h; rw [h]) | rfl | cases h
theorem ksEq_ok : ∀ {a b : List Kd}, ksEq a b = true → a = b
  | [], [], _ => rfl
  | k :: ks, k' :: ks', h => by
    simp only [ksEq, Bool.and_eq_true] at h
    rw [kdEq_ok h.1, ksEq_ok h.2]
  | [], _ :: _, h => by cases h
  | _ :: _, [], h => by cases h
/-- The first n elements, of which there are so many; how many cells an element has. -/
def Ct.fst (n : Nat) : Ct → Option Ct
  | .ints k l => some (.ints k (l.take n))
  | .rows ks l => some (.rows ks (l.take n))
  | .sg _ => none
def Ct.len : Ct → Nat
  | .ints _ l => l.length
  | .rows _ l => l.length
  | .sg _ => 0
def Ct.wd : Ct → Nat
  | .ints _ _ => 1
  | .rows ks _ => lenL ks
  | .sg _ => 0
def Ct.app : Ct → Ct → Option Ct
  | .ints k a, .ints k' b => bif decide (k = k') then some (.ints k (a ++ b)) else none
  | .rows ks a, .rows ks' b => bif ksEq ks ks' then some (.rows ks (a ++ b)) else none
  | _, _ => none
theorem Ct.app_ok {a b c : Ct} (h : a.app b = some c) : c.den = a.den ++ b.den := by
  unfold Ct.app at h
  split at h
  · obtain ⟨h1, h2⟩ := bif_some h; cases h2; have := of_decide_eq_true h1; subst this; simp [Ct.den, IL]
  · obtain ⟨h1, h2⟩ := bif_some h; cases h2; have := ksEq_ok h1; subst this; simp [Ct.den, rowsL]
  · cases h
theorem Ct.fst_ok {a c : Ct} {n : Nat} (h : a.fst n = some c) : c.den = a.den.take (n * a.wd) := by
  unfold Ct.fst at h
  split at h
  · cases h; simp [Ct.den, IL, Ct.wd]
  · cases h; simp only [Ct.den, Ct.wd, lenL_eq]; rw [rowsL_take]
  · cases h
theorem Ct.den_len {a c : Ct} {n : Nat} (h : a.fst n = some c) : a.den.length = a.len * a.wd := by
  unfold Ct.fst at h
  split at h
  · simp [Ct.den, Ct.len, Ct.wd, IL_length]
  · simp [Ct.den, Ct.len, Ct.wd, rowsL_length, lenL_eq]
  · cases h
theorem Ct.men_fst {a c : Ct} {n d : Nat} (h : a.fst n = some c) : a.men d = false := by
  unfold Ct.fst at h
  split at h
  · rfl
  · rfl
  · cases h
def emp (ks : List Kd) : Ct := match isInt1 ks with
  | some k => .ints k []
  | none => .rows ks []
theorem emp_den (ks : List Kd) : (emp ks).den = [] := by unfold emp; split <;> rfl
theorem emp_wd (ks : List Kd) : (emp ks).wd = ks.length := by
  unfold emp
  split
  · rename_i k hk; rw [isInt1_some hk]; rfl
  · simp [Ct.wd, lenL_eq]
/-- What 'append' finds behind. -/
def behS (P : Program) (U : TypeId) (bx : Nat → Option SB) (ks : List Kd) : SV → Option (Bool × List Nat × Nat × Ct)
  | .one (.c (.ints k l)) => bif isSlT P U then some (true, [], l.length, .ints k l) else none
  | .one (.c (.rows ks l)) => bif isSlT P U then some (true, [], l.length, .rows ks l) else none
  | .one (.c (.sl b m z nl)) => match bx b with
    | some ⟨ct, _, nl'⟩ => match ct.fst m with
      | some c => bif isSlT P U && Nat.beq z ct.wd then some ((nl' == nl) && decide (m ≤ ct.len), [b], m, c) else none
      | none => none
    | none => none
  | .one (.c (.str s)) => bif tyIs P U (· matches .string) then some (true, [], s.size, .ints .u8 (bytesI s)) else none
  | .one (.c (.val (.slice none 0 0))) => bif isSlT P U then some (true, [], 0, emp ks) else none
  | _ => none
theorem behS_ok {U : TypeId} {ks : List Kd} {y : Operand} {rd : List Nat} {m : Nat} {c : Ct} {g : Bool} (h : behS C.P U bx ks (ρ y) = some (g, rd, m, c)) (hg : g = true) :
    BehOk C c.wd U (denB bx) (denR ρ y) rd m c.den ∧ ∀ d, c.men d = false := by
  unfold behS at h
  split at h
  · rename_i k l hy
    obtain ⟨h1, h2⟩ := bif_some h
    cases h2
    obtain ⟨E, hE⟩ := isSlT_some h1
    have hy' : denR ρ y = .c (.list l.length (IL k l)) := by show (ρ y).den = _; rw [hy]; rfl
    rw [hy']
    exact ⟨beh_list hE (by simp [IL_length, Ct.wd]) (IL_single k l), fun _ => rfl⟩
  · rename_i ks l hy
    obtain ⟨h1, h2⟩ := bif_some h
    cases h2
    obtain ⟨E, hE⟩ := isSlT_some h1
    have hy' : denR ρ y = .c (.list l.length (rowsL ks l)) := by show (ρ y).den = _; rw [hy]; rfl
    rw [hy']
    exact ⟨beh_list hE (by simp [rowsL_length, Ct.wd, lenL_eq]) (rowsL_single ks l), fun _ => rfl⟩
  · rename_i b m z nl hy
    split at h
    · rename_i ct pub nl' hb
      split at h
      · rename_i c' hc
        obtain ⟨h1, h2⟩ := bif_some h
        cases h2
        simp only [Bool.and_eq_true] at h1
        obtain ⟨E, hE⟩ := isSlT_some h1.1
        have := Nat.eq_of_beq_eq_true h1.2
        subst this
        simp only [Bool.and_eq_true, beq_iff_eq, decide_eq_true_eq] at hg
        obtain ⟨rfl, hm⟩ := hg
        have hy' : denR ρ y = .c (.sl b m ct.wd nl') := by show (ρ y).den = _; rw [hy]; rfl
        rw [hy']
        have e := Ct.fst_ok hc
        have hw : c.wd = ct.wd := by
          unfold Ct.fst at hc
          split at hc <;> cases hc <;> rfl
        rw [hw, e]
        refine ⟨beh_sl (bx := SB.den ⟨ct, pub, nl'⟩) hE (by simp [denB, hb]) rfl ?_ ?_, fun d => ?_⟩
        · show _ ≤ ct.den.length
          rw [Ct.den_len hc]; exact Nat.mul_le_mul_right _ hm
        · show (ct.den.take _).all _ = true
          rw [← e]
          cases c with
          | ints k l => exact IL_single k l
          | rows ks l => exact rowsL_single ks l
          | sg l => unfold Ct.fst at hc; split at hc <;> cases hc
        · unfold Ct.fst at hc
          split at hc <;> cases hc <;> rfl
      · cases h
    · cases h
  · rename_i s hy
    obtain ⟨h1, h2⟩ := bif_some h
    cases h2
    have hy' : denR ρ y = .c (.lit (.string s)) := by show (ρ y).den = _; rw [hy]; rfl
    rw [hy']
    show BehOk C 1 U _ _ _ _ (IL .u8 (bytesI s)) ∧ _
    rw [← bytesL_eq]
    exact ⟨beh_str h1, fun _ => rfl⟩
  · rename_i hy
    obtain ⟨h1, h2⟩ := bif_some h
    cases h2
    obtain ⟨E, hE⟩ := isSlT_some h1
    have hy' : denR ρ y = .c (.lit (.slice none 0 0)) := by show (ρ y).den = _; rw [hy]; rfl
    rw [hy', emp_den]
    exact ⟨beh_nil hE, fun d => by unfold emp; split <;> rfl⟩
  · cases h
def roomB (n by' : Nat) : Bool := decide ((n + n / 4 + 192) * by' ≤ 281474976710656) && decide (n ≤ 9223372036854775807)
def isZero : Nat → Bool
  | 0 => true
  | _ + 1 => false
theorem isZero_eq (m : Nat) : isZero m = (m == 0) := by cases m <;> rfl
def nlAfter (nl : Bool) (m : Nat) : Bool := bif nl then isZero m else false
theorem nlAfter_eq (nl : Bool) (m : Nat) : nlAfter nl m = (nl && m == 0) := by unfold nlAfter; rw [isZero_eq]; cases nl <;> rfl
def sApp (P : Program) (T U : TypeId) (d : Nat) (bx : Nat → Option SB) (x y : SV) : Option Res :=
  match eltOf P T with
  | some el => match kindsOf P 8 el.e with
    | some ks => match behS P U bx ks y with
      | some (g, rd, m, c) => match x with
        | .one (.c (.sl b n z nl)) => match bx b with
          | some ⟨ct, pub, nl'⟩ => match ct.fst n with
            | some f => match f.app c with
              | some r => bif Nat.beq z el.sz && Nat.beq ct.wd el.sz && Nat.beq c.wd el.sz && isNone (bx d) then
                  some ⟨g && (nl' == nl) && pubOk pub (n * z) && decide (n ≤ ct.len) && roomB (n + m) el.by', rd, c1 (.sl d (n + m) el.sz (nlAfter nl m)), [(b, none), (d, some ⟨r, pub, nlAfter nl m⟩)]⟩ else none
              | none => none
            | none => none
          | none => none
        | .one (.c (.val (.slice none 0 0))) => bif Nat.beq c.wd el.sz && isNone (bx d) then some ⟨g && roomB m el.by', rd, c1 (.sl d m el.sz (isZero m)), [(d, some ⟨c, 0, isZero m⟩)]⟩ else none
        | _ => none
      | none => none
    | none => none
  | none => none
theorem sApp_ok {T U : TypeId} {d : Nat} {x y : Operand} {r : Res} (h : sApp C.P T U d bx (ρ x) (ρ y) = some r) : Ok C ⟨some d, .call ⟨.builtin .append, #[x, y], #[T, U]⟩, ty, pos, after, guard⟩ ρ bx r := by
  intro hg
  unfold sApp at h
  split at h
  · rename_i el he
    split at h
    · rename_i ks hks
      split at h
      · rename_i g rd m c hbeh
        split at h
        · rename_i b n z nl hx
          split at h
          · rename_i ct pub nl' hb
            split at h
            · rename_i f hf
              split at h
              · rename_i r' hr
                obtain ⟨h1, h2⟩ := bif_some h
                cases h2
                simp only [Bool.and_eq_true] at h1
                obtain ⟨⟨⟨h3, h4⟩, h5⟩, h6⟩ := h1
                have e3 := Nat.eq_of_beq_eq_true h3
                have e4 := Nat.eq_of_beq_eq_true h4
                have e5 := Nat.eq_of_beq_eq_true h5
                subst e3
                simp only [Bool.and_eq_true, beq_iff_eq, decide_eq_true_eq, roomB] at hg
                obtain ⟨⟨⟨⟨g1, rfl⟩, g4⟩, g3⟩, g5, g6⟩ := hg
                obtain ⟨hB, hm⟩ := behS_ok hbeh g1
                rw [e5] at hB
                have hc := Ct.app_ok hr
                have hfd := Ct.fst_ok hf
                rw [e4] at hfd
                have := ok_append (C := C) (ty := ty) (pos := pos) (after := after) (guard := guard) (ρ := denR ρ) (pre := denB bx) (T := T) (U := U) (d := d) (x := x) (y := y) (b := b) (n := n) (m := m) (nl := nl') (bx := SB.den ⟨ct, pub, nl'⟩) (ns := c.den) he
                  (by show (ρ x).den = _; rw [hx]; rfl) (by simp [denB, hb]) rfl (by show _ ≤ ct.den.length; rw [Ct.den_len hf, e4]; exact Nat.mul_le_mul_right _ g3) (pubOk_iff g4) (denB_none h6) hB
                  (by show menL d (ct.den.take (n * el.sz) ++ c.den) = false
                      rw [← hfd, ← hc, menL, Ct.men_den]
                      unfold Ct.app at hr
                      split at hr
                      · obtain ⟨_, q⟩ := bif_some hr; cases q; rfl
                      · obtain ⟨_, q⟩ := bif_some hr; cases q; rfl
                      · cases hr) g5 g6
                rw [← nlAfter_eq] at this
                have e : (SB.den ⟨ct, pub, nl'⟩).cells.take (n * el.sz) ++ c.den = r'.den := by
                  show ct.den.take _ ++ _ = _
                  rw [← hfd, ← hc]
                rw [e] at this
                exact this
              · cases h
            · cases h
          · cases h
        · rename_i hx
          obtain ⟨h1, h2⟩ := bif_some h
          cases h2
          simp only [Bool.and_eq_true] at h1
          have e5 := Nat.eq_of_beq_eq_true h1.1
          simp only [Bool.and_eq_true, decide_eq_true_eq, roomB] at hg
          obtain ⟨g1, g5, g6⟩ := hg
          obtain ⟨hB, hm⟩ := behS_ok hbeh g1
          rw [e5] at hB
          have := ok_append_nil (C := C) (ty := ty) (pos := pos) (after := after) (guard := guard) (ρ := denR ρ) (pre := denB bx) (T := T) (U := U) (d := d) (x := x) (y := y) (m := m) (ns := c.den) he
            (by show (ρ x).den = _; rw [hx]; rfl) (denB_none h1.2) hB (by rw [menL, Ct.men_den]; exact hm d) g5 g6
          rw [← isZero_eq] at this
          exact this
        · cases h
      · cases h
    · cases h
  · cases h

/-! ### pieces -/

def bndS (ρ : Operand → SV) (d : Int) : Option Operand → Option Int
  | none => some d
  | some x => intOfS (ρ x)
theorem bndS_ok {d n : Int} {o : Option Operand} (h : bndS ρ d o = some n) : bndA (denR ρ) d o = some n := by
  cases o with
  | none => exact h
  | some x =>
    obtain ⟨k, e⟩ := intOfS_ok (show intOfS (ρ x) = some n from h)
    unfold bndA
    simp only [denR, e]
def slB (l h : Int) (n : Nat) : Bool := decide (0 ≤ l) && decide (l ≤ h) && decide (h ≤ n)
theorem slB_iff {l h : Int} {n : Nat} (e : slB l h n = true) : 0 ≤ l ∧ l ≤ h ∧ h ≤ n := by
  simp only [slB, Bool.and_eq_true, decide_eq_true_eq] at e
  exact ⟨e.1.1, e.1.2, e.2⟩
def piece {α : Type} (l : List α) (a b : Int) : List α := (l.drop a.toNat).take (b.toNat - a.toNat)
theorem piece_len {α : Type} {l : List α} {a b : Int} (h0 : 0 ≤ a) (h1 : a ≤ b) (h2 : b ≤ l.length) : (piece l a b).length = b.toNat - a.toNat := by
  simp only [piece, List.length_take, List.length_drop]; omega
theorem piece_IL (k : IntKind) (l : List Int) (a b : Int) : pieceL 1 a b (IL k l) = IL k (piece l a b) := by simp [pieceL, piece, IL]
theorem piece_rows (ks : List Kd) (l : List (List D)) (a b : Int) : pieceL ks.length a b (rowsL ks l) = rowsL ks (piece l a b) := by
  simp only [pieceL, piece, rowsL_drop, rowsL_take]
def Ct.cl (a b : Int) : Ct → Cl
  | .ints k l => .ints k (piece l a b)
  | .rows ks l => .rows ks (piece l a b)
  | .sg _ => .junk
def sSlice (P : Program) (T : TypeId) (bx : Nat → Option SB) (lo : Option Int) (hi : Int → Option Int) : SV → Option Res
  | .one (.c (.str s)) => match lo, hi s.size with
    | some l, some h => bif tyIs P T (· matches .string) then some ⟨slB l h s.size, [], c1 (.str (s.extract l.toNat h.toNat)), []⟩ else none
    | _, _ => none
  | .one (.c (.ints k v)) => match lo, hi v.length, slcZ P T with
    | some l, some h, some z => bif Nat.beq z 1 then some ⟨slB l h v.length, [], c1 (.ints k (piece v l h)), []⟩ else none
    | _, _, _ => none
  | .one (.c (.rows ks v)) => match lo, hi v.length, slcZ P T with
    | some l, some h, some z => bif Nat.beq z (lenL ks) then some ⟨slB l h v.length, [], c1 (.rows ks (piece v l h)), []⟩ else none
    | _, _, _ => none
  | .one (.c (.sl b n z nl)) => match lo, hi n, slcZ P T with
    | some l, some h, some z' => match bx b with
      | some ⟨ct, pub, nl'⟩ => match ct.fst n with
        | some f => bif Nat.beq z z' && Nat.beq z ct.wd then some ⟨(nl' == nl) && decide (n ≤ ct.len) && slB l h n, [], c1 (f.cl l h), [(b, some ⟨ct, ct.len * ct.wd, nl'⟩)]⟩ else none
        | none => none
      | none => none
    | _, _, _ => none
  | .one (.c (.val (.slice none 0 0))) => match lo, hi 0, slcZ P T with
    | some l, some h, some _ => some ⟨decide (l = 0) && decide (h = 0), [], c1 (.val (.slice none 0 0)), []⟩
    | _, _, _ => none
  | _ => none
where
  slcZ (P : Program) (T : TypeId) : Option Nat := match tySlice P T with
    | some E => tySize P E
    | none => none
theorem slcZ_some {P : Program} {T : TypeId} {sz : Nat} (h : sSlice.slcZ P T = some sz) : ∃ E, tySlice P T = some E ∧ tySize P E = some sz := by
  unfold sSlice.slcZ at h
  split at h
  · rename_i E hE; exact ⟨E, hE, h⟩
  · cases h
theorem sSlice_ok {T : TypeId} {x : Operand} {lo hi : Option Operand} {r : Res} (h : sSlice C.P T bx (bndS ρ 0 lo) (fun n => bndS ρ n hi) (ρ x) = some r) : Ok C ⟨dst, .slice T x lo hi none, ty, pos, after, guard⟩ ρ bx r := by
  intro hg
  unfold sSlice at h
  split at h
  · rename_i s hx
    split at h
    · rename_i l u hl hu
      obtain ⟨h1, h2⟩ := bif_some h
      cases h2
      obtain ⟨g0, g1, g2⟩ := slB_iff hg
      exact ok_slice_str (by show (ρ x).den = _; rw [hx]; rfl) h1 (bndS_ok hl) (bndS_ok hu) g0 g1 g2
    · cases h
  · rename_i k v hx
    split at h
    · rename_i l u z hl hu hz
      obtain ⟨h1, h2⟩ := bif_some h
      cases h2
      have := Nat.eq_of_beq_eq_true h1
      subst this
      obtain ⟨g0, g1, g2⟩ := slB_iff hg
      obtain ⟨E, hE, hn⟩ := slcZ_some hz
      have := ok_slice_list (C := C) (dst := dst) (ty := ty) (pos := pos) (after := after) (guard := guard) (ρ := denR ρ) (pre := denB bx) (T := T) (x := x) (lo := lo) (hi := hi) (n := v.length) (flat := IL k v)
        (by show (ρ x).den = _; rw [hx]; rfl) hE hn (by simp [IL_length]) (bndS_ok hl) (bndS_ok hu) g0 g1 g2
      rw [piece_IL, ← piece_len g0 g1 g2] at this; exact this
    · cases h
  · rename_i ks v hx
    split at h
    · rename_i l u z hl hu hz
      obtain ⟨h1, h2⟩ := bif_some h
      cases h2
      have := Nat.eq_of_beq_eq_true h1
      rw [lenL_eq] at this
      subst this
      obtain ⟨g0, g1, g2⟩ := slB_iff hg
      obtain ⟨E, hE, hn⟩ := slcZ_some hz
      have := ok_slice_list (C := C) (dst := dst) (ty := ty) (pos := pos) (after := after) (guard := guard) (ρ := denR ρ) (pre := denB bx) (T := T) (x := x) (lo := lo) (hi := hi) (n := v.length) (flat := rowsL ks v)
        (by show (ρ x).den = _; rw [hx]; rfl) hE hn (by simp [rowsL_length]) (bndS_ok hl) (bndS_ok hu) g0 g1 g2
      rw [piece_rows, ← piece_len g0 g1 g2] at this; exact this
    · cases h
  · rename_i b n z nl hx
    split at h
    · rename_i l u z' hl hu hz
      split at h
      · rename_i ct pub nl' hb
        split at h
        · rename_i f hf
          obtain ⟨h1, h2⟩ := bif_some h
          cases h2
          simp only [Bool.and_eq_true] at h1
          have e1 := Nat.eq_of_beq_eq_true h1.1
          have e2 := Nat.eq_of_beq_eq_true h1.2
          subst e1
          subst e2
          simp only [Bool.and_eq_true, beq_iff_eq, decide_eq_true_eq] at hg
          obtain ⟨⟨rfl, g3⟩, g4⟩ := hg
          obtain ⟨g0, g1, g2⟩ := slB_iff g4
          obtain ⟨E, hE, hn⟩ := slcZ_some hz
          have hp : ct.den.all (·.pure) = true := by
            rw [Ct.pure_den]
            unfold Ct.fst at hf
            split at hf <;> first | rfl | cases hf
          have := ok_slice_sl (C := C) (dst := dst) (ty := ty) (pos := pos) (after := after) (guard := guard) (ρ := denR ρ) (pre := denB bx) (T := T) (x := x) (lo := lo) (hi := hi) (b := b) (n := n) (bx := SB.den ⟨ct, pub, nl'⟩)
            (by show (ρ x).den = _; rw [hx]; rfl) (by simp [denB, hb]) rfl (by show _ ≤ ct.den.length; rw [Ct.den_len hf]; exact Nat.mul_le_mul_right _ g3) hp hE hn (bndS_ok hl) (bndS_ok hu) g0 g1 g2
          have e3 : pubB (SB.den ⟨ct, pub, nl'⟩) = SB.den ⟨ct, ct.len * ct.wd, nl'⟩ := by
            show Box.mk ct.den ct.den.length nl' false = Box.mk ct.den (ct.len * ct.wd) nl' false
            rw [Ct.den_len hf]
          have e4 : AC.list (u.toNat - l.toNat) (pieceL ct.wd l u ((SB.den ⟨ct, pub, nl'⟩).cells.take (n * ct.wd))) = (f.cl l u).den := by
            show AC.list _ (pieceL ct.wd l u (ct.den.take (n * ct.wd))) = _
            rw [← Ct.fst_ok hf]
            unfold Ct.fst at hf
            split at hf
            · rename_i k v
              cases hf
              have hlen : (n : Int) ≤ ((v.take n).length : Nat) := by simp only [List.length_take]; simp only [Ct.len] at g3; omega
              show AC.list _ (pieceL 1 l u (IL k (v.take n))) = AC.list (piece (v.take n) l u).length (IL k (piece (v.take n) l u))
              rw [piece_IL, piece_len g0 g1 (by omega)]
            · rename_i ks v
              cases hf
              have hlen : (n : Int) ≤ ((v.take n).length : Nat) := by simp only [List.length_take]; simp only [Ct.len] at g3; omega
              show AC.list _ (pieceL (lenL ks) l u (rowsL ks (v.take n))) = AC.list (piece (v.take n) l u).length (rowsL ks (piece (v.take n) l u))
              rw [lenL_eq, piece_rows, piece_len g0 g1 (by omega)]
            · cases hf
          rw [e3, e4] at this
          exact this
        · cases h
      · cases h
    · cases h
  · rename_i hx
    split at h
    · rename_i l u z hl hu hz
      cases h
      simp only [Bool.and_eq_true, decide_eq_true_eq] at hg
      obtain ⟨rfl, rfl⟩ := hg
      obtain ⟨E, hE, hn⟩ := slcZ_some hz
      exact ok_slice_nil (by show (ρ x).den = _; rw [hx]; rfl) hE hn (bndS_ok hl) (bndS_ok hu)
    · cases h
  · cases h

/-! ### conversions -/

def u8Sl (P : Program) (T : TypeId) : Bool := match tySlice P T with
  | some E => match tyInt P E with
    | some .u8 => true
    | _ => false
  | none => false
theorem u8Sl_some {P : Program} {T : TypeId} (h : u8Sl P T = true) : ∃ E, tySlice P T = some E ∧ tyInt P E = some .u8 := by
  unfold u8Sl at h
  split at h
  · rename_i E hE
    split at h
    · rename_i hk; exact ⟨E, hE, hk⟩
    · cases h
  · cases h
def strT (P : Program) (T : TypeId) : Bool := tyIs P T (· matches .string)
def sConv (P : Program) (S D : TypeId) (dst : Option Nat) (bx : Nat → Option SB) : SV → Option Res
  | .one (.c (.int k n)) => match tyInt P D with
    | some k' => bif tyIs P S (fun _ => true) then some ⟨true, [], c1 (.int k' (k'.wrap n)), []⟩ else none
    | none => none
  | .one (.c (.str s)) => bif tyIs P S (fun _ => true) then (bif strT P D then some ⟨true, [], c1 (.str s), []⟩ else match dst with
      | some d => bif u8Sl P D && isNone (bx d) then some ⟨true, [], c1 (.sl d s.size 1 false), [(d, some ⟨.ints .u8 (bytesI s), 0, false⟩)]⟩ else none
      | none => none) else none
  | .one (.c (.ints .u8 l)) => bif u8Sl P S && strT P D then some ⟨true, [], c1 (.str (textOf l)), []⟩ else none
  | .one (.c (.sl b n z nl)) => match bx b with
    | some ⟨.ints .u8 l, pub, nl'⟩ => bif u8Sl P S && strT P D && Nat.beq z 1 then some ⟨(nl' == nl) && decide (n ≤ l.length), [b], c1 (.str (textOf (l.take n))), []⟩ else none
    | _ => none
  | .one (.c (.val (.slice none 0 0))) => bif u8Sl P S && strT P D then some ⟨true, [], c1 (.str .empty), []⟩ else none
  | _ => none
theorem sConv_ok {S D : TypeId} {x : Operand} {r : Res} (h : sConv C.P S D dst bx (ρ x) = some r) : Ok C ⟨dst, .convert S D x, ty, pos, after, guard⟩ ρ bx r := by
  intro hg
  unfold sConv at h
  split at h
  · rename_i k n hx
    split at h
    · rename_i k' hk
      obtain ⟨h1, h2⟩ := bif_some h
      cases h2
      exact ok_conv_int (by show (ρ x).den = _; rw [hx]; rfl) h1 hk
    · cases h
  · rename_i s hx
    obtain ⟨h1, h2⟩ := bif_some h
    cases hs : strT C.P D with
    | true =>
      rw [hs] at h2
      cases h2
      exact ok_conv_str (by show (ρ x).den = _; rw [hx]; rfl) h1 hs
    | false =>
      rw [hs] at h2
      simp only [cond_false] at h2
      split at h2
      · rename_i d
        obtain ⟨h3, h4⟩ := bif_some h2
        cases h4
        simp only [Bool.and_eq_true] at h3
        obtain ⟨E, hE, hk⟩ := u8Sl_some h3.1
        have := ok_conv_sb (C := C) (ty := ty) (pos := pos) (after := after) (guard := guard) (ρ := denR ρ) (pre := denB bx) (x := x) (d := d) (s := s) (denB_none h3.2) (by show (ρ x).den = _; rw [hx]; rfl) h1 hE hk
        rw [bytesL_eq] at this; exact this
      · cases h2
  · rename_i l hx
    obtain ⟨h1, h2⟩ := bif_some h
    cases h2
    simp only [Bool.and_eq_true] at h1
    obtain ⟨E, hE, hk⟩ := u8Sl_some h1.1
    exact ok_conv_bs (n := l.length) (by show (ρ x).den = _; rw [hx]; rfl) rfl hE hk h1.2
  · rename_i b n z nl hx
    split at h
    · rename_i l pub nl' hb
      obtain ⟨h1, h2⟩ := bif_some h
      cases h2
      simp only [Bool.and_eq_true] at h1
      obtain ⟨E, hE, hk⟩ := u8Sl_some h1.1.1
      have := Nat.eq_of_beq_eq_true h1.2
      subst this
      simp only [Bool.and_eq_true, beq_iff_eq, decide_eq_true_eq] at hg
      obtain ⟨rfl, g2⟩ := hg
      exact ok_conv_bs_sl (b := b) (n := n) (nl := nl') (bx := SB.den ⟨.ints .u8 l, pub, nl'⟩) (by show (ρ x).den = _; rw [hx]; rfl) (by simp [denB, hb]) rfl
        (by show (IL .u8 l).take n = _; simp [IL]) (by show _ ≤ (IL .u8 l).length; rw [IL_length]; exact g2) (IL_pure _ _) hE hk h1.1.2
    · cases h
  · rename_i hx
    obtain ⟨h1, h2⟩ := bif_some h
    cases h2
    simp only [Bool.and_eq_true] at h1
    obtain ⟨E, hE, hk⟩ := u8Sl_some h1.1
    exact ok_conv_nil (by show (ρ x).den = _; rw [hx]; rfl) hE hk h1.2
  · cases h

/-! ### function values -/

def ecOf : SV → Option Ec
  | .one (.c (.int k n)) => some (.c (.int k) (.i n))
  | .one (.c (.bool b)) => some (.c .bool (.b b))
  | .one (.c (.str s)) => some (.c .str (.s s))
  | .one (.c (.ints k l)) => some (.c (.ints k) (.l l))
  | _ => none
theorem ecOf_ok {v : SV} {e : Ec} (h : ecOf v = some e) : ∃ a, e.den = [a] ∧ v.den = .c a := by
  unfold ecOf at h
  split at h <;> cases h <;> exact ⟨_, rfl, rfl⟩
def opsS (ρ : Operand → SV) : List Operand → List SV
  | [] => []
  | x :: xs => ρ x :: opsS ρ xs
theorem opsS_eq (ρ : Operand → SV) (l : List Operand) : opsS ρ l = l.map ρ := by induction l with
  | nil => rfl
  | cons x l ih => simp [opsS, ih]
theorem mapE_ec : ∀ {xs : List Operand} {es : List Ec}, mapE ecOf (opsS ρ xs) = some es → xs.map (denR ρ) = (denE es).map .c
  | [], es, h => by cases h; rfl
  | x :: xs, es, h => by
    simp only [opsS] at h
    unfold mapE at h
    split at h
    · rename_i e m he hm
      cases h
      obtain ⟨a, h1, h2⟩ := ecOf_ok he
      rw [List.map_cons, mapE_ec hm, denE_cons, h1]
      show _ :: _ = _
      rw [show denR ρ x = .c a from h2]; rfl
    · cases h
def sFun (k : FuncId) (fs cs : List SV) : Option Res :=
  match mapE ecOf fs, mapE ecOf cs with
  | some f, some c => some ⟨true, [], c1 (.clo k f c), []⟩
  | _, _ => none
theorem sFun_ok {k : FuncId} {fs cs : Array Operand} {r : Res} (h : sFun k (opsS ρ fs.toList) (opsS ρ cs.toList) = some r) : Ok C ⟨dst, .makeFunc (.func k) fs cs, ty, pos, after, guard⟩ ρ bx r := by
  intro _
  unfold sFun at h
  split at h
  · rename_i f c hf hc
    cases h
    exact ok_makeFunc (mapE_ec hf) (mapE_ec hc) ⟨denE_pure f, denE_pure c⟩
  · cases h

/-! ### all of them -/

def sBi (P : Program) (b : Builtin) (dst : Option Nat) (ats : List TypeId) (args : List SV) (bx : Nat → Option SB) : Option Res :=
  match b, args, ats with
  | .min, [x, y], _ => sMin x y
  | .max, [x, y], _ => sMax x y
  | .len, [x], [T] => sLen P T x
  | .append, [x, y], [T, U] => match dst with
    | some d => sApp P T U d bx x y
    | none => none
  | _, _, _ => none
def sOp (P : Program) (op : Op) (dst : Option Nat) (ρ : Operand → SV) (bx : Nat → Option SB) : Option Res :=
  match op with
  | .move x => some ⟨true, [], ρ x, []⟩
  | .assign x => some ⟨true, [], ρ x, []⟩
  | .pick c x y => sPick (ρ c) (ρ x) (ρ y)
  | .box _ x => match dst with
    | some d => sBox d (ρ x) (bx d)
    | none => none
  | .alloc T => match dst with
    | some d => sAlloc P T d (bx d)
    | none => none
  | .load T x => sLoad P T bx (ρ x)
  | .store T x y => match dst with
    | none => sStore P T bx (ρ y) (ρ x)
    | some _ => none
  | .nilCheck x => sNil (ρ x)
  | .binOp op T x y _ => sBin P op T (ρ x) (ρ y)
  | .unOp op _ x => sUn op (ρ x)
  | .convert S D x => sConv P S D dst bx (ρ x)
  | .index T x y => sIx P T (isConst y) (ρ x) (ρ y)
  | .field T x f => sFld P T f (ρ x)
  | .fieldAddr T x f => sField P T f (ρ x)
  | .indexAddr T x y => sIxA P T (isConst y) (ρ x) (ρ y)
  | .slice T x lo hi none => sSlice P T bx (bndS ρ 0 lo) (fun n => bndS ρ n hi) (ρ x)
  | .makeSlice T x y => match dst with
    | some d => sMake P T d (bx d) (opEq x y) (ρ x)
    | none => none
  | .makeFunc (.func k) fs cs => sFun k (opsS ρ fs.toList) (opsS ρ cs.toList)
  | .extract x i => sExt i (ρ x)
  | .buildSlice T len ps => match dst with
    | some d => sBuildSl P T len d (bx d) (partsS ρ ps.toList)
    | none => none
  | .build T ps => sBuild P T (partsS ρ ps.toList)
  | .call ⟨.builtin b, args, ats⟩ => sBi P b dst ats.toList (opsS ρ args.toList) bx
  | _ => none
theorem ops_one {args : Array Operand} {u : SV} (h : opsS ρ args.toList = [u]) : ∃ x, args = #[x] ∧ ρ x = u := by
  rw [opsS_eq] at h
  obtain ⟨l⟩ := args
  match l, h with
  | [x], h => simp at h; exact ⟨x, rfl, h⟩
theorem ops_two {args : Array Operand} {u v : SV} (h : opsS ρ args.toList = [u, v]) : ∃ x y, args = #[x, y] ∧ ρ x = u ∧ ρ y = v := by
  rw [opsS_eq] at h
  obtain ⟨l⟩ := args
  match l, h with
  | [x, y], h => simp at h; exact ⟨x, y, rfl, h.1, h.2⟩
theorem arr_one {α : Type} {a : Array α} {x : α} (h : a.toList = [x]) : a = #[x] := by cases a; simp at h; rw [h]
theorem arr_two {α : Type} {a : Array α} {x y : α} (h : a.toList = [x, y]) : a = #[x, y] := by cases a; simp at h; rw [h]
theorem sOp_ok {op : Op} {r : Res} (h : sOp C.P op dst ρ bx = some r) : Ok C ⟨dst, op, ty, pos, after, guard⟩ ρ bx r := by
  unfold sOp at h
  split at h
  · cases h; intro _; exact ok_move _
  · cases h; intro _; exact ok_assign _
  · exact sPick_ok h
  · split at h
    · exact sBox_ok h
    · cases h
  · split at h
    · exact sAlloc_ok h
    · cases h
  · exact sLoad_ok h
  · split at h
    · exact sStore_ok h
    · cases h
  · exact sNil_ok h
  · exact sBin_ok h
  · exact sUn_ok h
  · exact sConv_ok h
  · exact sIx_ok h
  · exact sFld_ok h
  · exact sField_ok h
  · exact sIxA_ok h
  · exact sSlice_ok h
  · split at h
    · exact sMake_ok h
    · cases h
  · exact sFun_ok h
  · exact sExt_ok h
  · split at h
    · exact sBuildSl_ok h
    · cases h
  · exact sBuild_ok h
  · unfold sBi at h
    split at h
    · rename_i x y _ ha
      obtain ⟨x, y, rfl, rfl, rfl⟩ := ops_two ha
      exact sMin_ok h
    · rename_i x y _ ha
      obtain ⟨x, y, rfl, rfl, rfl⟩ := ops_two ha
      exact sMax_ok h
    · rename_i x T ha hT
      obtain ⟨x, rfl, rfl⟩ := ops_one ha
      rw [arr_one hT]
      exact sLen_ok h
    · rename_i x y T U ha hT
      obtain ⟨x, y, rfl, rfl, rfl⟩ := ops_two ha
      rw [arr_two hT]
      split at h
      · exact sApp_ok h
      · cases h
    · cases h
  · cases h
end ops
end Go.Sy
