/-
  A symbolic executor over abstract states, part 8: the operations as one function, and regions by it.
-/
import Derived.Test.YtnhdfmnmciminaaEvSl6
namespace Go.Ev
set_option linter.unusedSimpArgs false
set_option linter.unusedVariables false

abbrev Eff := List Nat × AV × List (Nat × Option Box)

def structOk (P : Program) (T : TypeId) : Bool :=
  match P.underlying T with
  | some (.struct fs) => fs.toList.all fun x => (tySize P x.type).isSome
  | some (.array _ E) => (tySize P E).isSome
  | _ => false

/-- What 'append' finds behind: the boxes that it reads, how many elements, which cells. -/
def behA (P : Program) (sz : Nat) (U : TypeId) (pre : Nat → Option Box) : AV → Option (List Nat × Nat × List AC)
  | .c (.list m flat) => if isSlT P U = true ∧ flat.length = m * sz ∧ flat.all (·.single) = true then some ([], m, flat) else none
  | .c (.sl b m s nl) => match pre b with
    | some bx => if isSlT P U = true ∧ s = sz ∧ bx.nl = nl ∧ m * sz ≤ bx.cells.length ∧ (bx.cells.take (m * sz)).all (·.single) = true then some ([b], m, bx.cells.take (m * sz)) else none
    | none => none
  | .c (.lit (.string s)) => if tyIs P U (· matches .string) = true ∧ sz = 1 then some ([], s.size, bytesL s) else none
  | .c (.lit (.slice none 0 0)) => if isSlT P U = true then some ([], 0, []) else none
  | _ => none

theorem behA_ok {C : Cfg} {sz : Nat} {U : TypeId} {pre : Nat → Option Box} {y : AV} {rd : List Nat} {m : Nat} {ns : List AC} (h : behA C.P sz U pre y = some (rd, m, ns)) : BehOk C sz U pre y rd m ns := by
  unfold behA at h
  split at h
  · split at h
    · rename_i hh
      cases h
      obtain ⟨E, hE⟩ := isSlT_some hh.1
      exact beh_list hE hh.2.1 hh.2.2
    · cases h
  · split at h
    · rename_i bx hb
      split at h
      · rename_i hh
        cases h
        obtain ⟨E, hE⟩ := isSlT_some hh.1
        obtain ⟨_, rfl, h3, h4, h5⟩ := hh
        exact beh_sl hE hb h3 h4 h5
      · cases h
    · cases h
  · split at h
    · rename_i hh
      cases h
      obtain ⟨h1, rfl⟩ := hh
      exact beh_str h1
    · cases h
  · split at h
    · rename_i hh
      cases h
      obtain ⟨E, hE⟩ := isSlT_some hh
      exact beh_nil hE
    · cases h
  · cases h

/-- append. -/
def appA (P : Program) (T U : TypeId) (d : Nat) (x y : AV) (pre : Nat → Option Box) : Option Eff :=
  match eltOf P T with
  | some el => match behA P el.sz U pre y with
    | some (rd, m, ns) => match x with
      | .c (.sl b n s nl) => match pre b with
        | some bx => if s = el.sz ∧ bx.nl = nl ∧ n * el.sz ≤ bx.cells.length ∧ bx.pub ≤ n * el.sz ∧ pre d = none ∧ menL d (bx.cells.take (n * el.sz) ++ ns) = false ∧
            ((n + m) + (n + m) / 4 + 192) * el.by' ≤ 281474976710656 ∧ n + m ≤ 9223372036854775807 then
            some (rd, .c (.sl d (n + m) el.sz (nl && m == 0)), [(b, none), (d, some ⟨bx.cells.take (n * el.sz) ++ ns, bx.pub, nl && m == 0, false⟩)]) else none
        | none => none
      | .c (.lit (.slice none 0 0)) => if pre d = none ∧ menL d ns = false ∧ (m + m / 4 + 192) * el.by' ≤ 281474976710656 ∧ m ≤ 9223372036854775807 then
            some (rd, .c (.sl d m el.sz (m == 0)), [(d, some ⟨ns, 0, m == 0, false⟩)]) else none
      | _ => none
    | none => none
  | none => none

/-- The language's own functions. -/
def biA (C : Cfg) (b : Builtin) (dst : Option Nat) (ats : List TypeId) (args : List AV) (pre : Nat → Option Box) : Option Eff :=
  match b, args, ats with
  | .min, [.c (.lit (.int k a)), .c (.lit (.int _ b'))], _ => some ([], .c (.lit (.int k (if b' < a then b' else a))), [])
  | .max, [.c (.lit (.int k a)), .c (.lit (.int _ b'))], _ => some ([], .c (.lit (.int k (if a < b' then b' else a))), [])
  | .len, [v], [T] => (lenA C.P T v).map fun n => ([], .c (.lit (.int .i64 n)), [])
  | .append, [x, y], [T, U] => match dst with
    | some d => appA C.P T U d x y pre
    | none => none
  | _, _, _ => none

theorem args_one {α : Type} {args : Array α} {β : Type} {ρ : α → β} {u : β} (h : args.toList.map ρ = [u]) : ∃ x, args = #[x] ∧ ρ x = u := by
  obtain ⟨l⟩ := args
  match l, h with
  | [x], h => simp at h; exact ⟨x, rfl, h⟩

theorem args_two {α β : Type} {args : Array α} {ρ : α → β} {u v : β} (h : args.toList.map ρ = [u, v]) : ∃ x y, args = #[x, y] ∧ ρ x = u ∧ ρ y = v := by
  obtain ⟨l⟩ := args
  match l, h with
  | [x, y], h => simp at h; exact ⟨x, y, rfl, h.1, h.2⟩

/-- Cells that are all bytes: as numbers. -/
noncomputable def unIL (cs : List AC) : Option (List Int) := open Classical in if h : ∃ l, cs = IL .u8 l then some (Classical.choose h) else none
theorem unIL_some {cs : List AC} {l : List Int} (h : unIL cs = some l) : cs = IL .u8 l := by
  unfold unIL at h
  split at h
  · rename_i h'; cases h; exact Classical.choose_spec h'
  · cases h
theorem IL_inj {k : IntKind} {a b : List Int} (h : IL k a = IL k b) : a = b := by
  induction a generalizing b with
  | nil => cases b with
    | nil => rfl
    | cons _ _ => simp [IL] at h
  | cons x a ih => cases b with
    | nil => simp [IL] at h
    | cons y b =>
      simp only [IL, List.map_cons, List.cons.injEq, AC.lit.injEq, Value.int.injEq, true_and] at h
      rw [h.1, ih h.2]
theorem unIL_IL (l : List Int) : unIL (IL .u8 l) = some l := by
  have h : ∃ l', IL .u8 l = IL .u8 l' := ⟨l, rfl⟩
  unfold unIL
  rw [dif_pos h]
  congr 1
  exact (IL_inj (Classical.choose_spec h)).symm

def unC : AV → Option AC
  | .c a => some a
  | _ => none
def unCs : List AV → Option (List AC)
  | [] => some []
  | .c a :: l => (unCs l).map (a :: ·)
  | _ => none
theorem unCs_some : ∀ {l : List AV} {cs : List AC}, unCs l = some cs → l = cs.map .c
  | [], cs, h => by cases h; rfl
  | .c a :: l, cs, h => by
    simp only [unCs] at h
    obtain ⟨r, hr, rfl⟩ := Option.map_eq_some_iff.1 h
    rw [unCs_some hr]; rfl
  | .agg _ :: _, _, h => by simp [unCs] at h
  | .tup _ :: _, _, h => by simp [unCs] at h

/-- What a conversion may be from, or to. -/
inductive CK where
  | int (k : IntKind)
  | str
  | bytes
  | other
def ckOf (P : Program) (T : TypeId) : CK :=
  match tyInt P T with
  | some k => .int k
  | none => if tyIs P T (· matches .string) = true then .str else match tySlice P T with
    | some E => if tyInt P E = some .u8 then .bytes else .other
    | none => .other
theorem ckOf_int {P : Program} {T : TypeId} {k : IntKind} (h : ckOf P T = .int k) : tyInt P T = some k := by
  unfold ckOf at h
  split at h
  · rename_i k' e; cases h; exact e
  · split at h
    · cases h
    · split at h
      · split at h <;> cases h
      · cases h
theorem ckOf_str {P : Program} {T : TypeId} (h : ckOf P T = .str) : tyIs P T (· matches .string) = true := by
  unfold ckOf at h
  split at h
  · cases h
  · split at h
    · rename_i e; exact e
    · split at h
      · split at h <;> cases h
      · cases h
theorem ckOf_bytes {P : Program} {T : TypeId} (h : ckOf P T = .bytes) : ∃ E, tySlice P T = some E ∧ tyInt P E = some .u8 := by
  unfold ckOf at h
  split at h
  · cases h
  · split at h
    · cases h
    · split at h
      · rename_i E hE
        split at h
        · rename_i e; exact ⟨E, hE, e⟩
        · cases h
      · cases h

def convB (same : Bool) (b n sz : Nat) (nl : Bool) (cd : CK) (bx : Option Box) (l : Option (List Int)) : Option Eff :=
  match bx, cd with
  | some bx, .str => match l with
    | some l => if sz = 1 ∧ bx.nl = nl ∧ n ≤ bx.cells.length ∧ bx.cells.all (·.pure) = true then some ([b], .c (.lit (.string (textOf l))), []) else none
    | none => none
  | some bx, .bytes => if same = true ∧ nl = false ∧ bx.nl = false then some ([], .c (.sl b n sz false), [(b, some bx)]) else none
  | _, _ => none
noncomputable def convX (same ok : Bool) (cs cd : CK) (dst : Option Nat) (pre : Nat → Option Box) (v : AV) : Option Eff :=
  match v with
  | .c (.lit (.int _ n)) => match cd with
    | .int k' => if ok = true then some ([], .c (.lit (.int k' (k'.wrap n))), []) else none
    | _ => none
  | .c (.lit (.string s)) => match cd, dst with
    | .str, _ => if ok = true then some ([], .c (.lit (.string s)), []) else none
    | .bytes, some d => if ok = true ∧ pre d = none then some ([], .c (.sl d s.size 1 false), [(d, some ⟨bytesL s, 0, false, false⟩)]) else none
    | _, _ => none
  | .c (.list n flat) => match cs, cd, unIL flat with
    | .bytes, .str, some l => if l.length = n then some ([], .c (.lit (.string (textOf l))), []) else none
    | _, _, _ => none
  | .c (.sl b n sz nl) => match cs with
    | .bytes => convB same b n sz nl cd (pre b) ((pre b).bind fun bx => unIL (bx.cells.take n))
    | _ => none
  | .c (.lit (.slice none 0 0)) => match cs, cd with
    | .bytes, .str => some ([], .c (.lit (.string .empty)), [])
    | _, _ => none
  | _ => none

def ixvA (P : Program) (T : TypeId) : AV → AV → Option Eff
  | .c (.lit (.string s)), .c (.lit (.int _ i)) => if tyIs P T (· matches .string) = true ∧ 0 ≤ i ∧ i < s.size then some ([], .c (.lit (.int .u8 ((bytesI s).getD i.toNat 0))), []) else none
  | .agg cs, .c (.lit (.int _ i)) => match tyArr P T with
    | some (len, E) => match tySize P E with
      | some n => if 0 ≤ i ∧ i < len then (loadA P E cs (i.toNat * n)).map fun r => ([], r, []) else none
      | none => none
    | none => none
  | _, _ => none
def fldvA (P : Program) (T : TypeId) (f : Nat) : AV → Option Eff
  | .agg cs => match tyField P T f with
    | some (o, U) => (loadA P U cs o).map fun r => ([], r, [])
    | none => none
  | _ => none
def slcB (b n sz : Nat) (nl : Bool) (es : Option Nat) (l h : Int) : Option Box → Option Eff
  | some bx => if es = some sz ∧ bx.nl = nl ∧ n * sz ≤ bx.cells.length ∧ bx.cells.all (·.pure) = true ∧ 0 ≤ l ∧ l ≤ h ∧ h ≤ n then
          some ([], .c (.list (h.toNat - l.toNat) (pieceL sz l h (bx.cells.take (n * sz)))), [(b, some (pubB bx))]) else none
  | none => none
def slcS (P : Program) (T : TypeId) : Option Nat := match tySlice P T with
  | some E => tySize P E
  | none => none
def slcA (P : Program) (T : TypeId) (pre : Nat → Option Box) (lo : Option Int) (hi : Int → Option Int) : AV → Option Eff
  | .c (.lit (.string s)) => match lo, hi s.size with
    | some l, some h => if tyIs P T (· matches .string) = true ∧ 0 ≤ l ∧ l ≤ h ∧ h ≤ s.size then some ([], .c (.lit (.string (s.extract l.toNat h.toNat))), []) else none
    | _, _ => none
  | .c (.list n flat) => match lo, hi n, slcS P T with
    | some l, some h, some sz => if flat.length = n * sz ∧ 0 ≤ l ∧ l ≤ h ∧ h ≤ n then some ([], .c (.list (h.toNat - l.toNat) (pieceL sz l h flat)), []) else none
    | _, _, _ => none
  | .c (.sl b n sz nl) => match lo, hi n with
    | some l, some h => slcB b n sz nl (slcS P T) l h (pre b)
    | _, _ => none
  | .c (.lit (.slice none 0 0)) => match lo, hi 0, slcS P T with
    | some l, some h, some _ => if l = 0 ∧ h = 0 then some ([], .c (.lit (.slice none 0 0)), []) else none
    | _, _, _ => none
  | _ => none
theorem slcS_some {P : Program} {T : TypeId} {sz : Nat} (h : slcS P T = some sz) : ∃ E, tySlice P T = some E ∧ tySize P E = some sz := by
  unfold slcS at h
  split at h
  · rename_i E hE; exact ⟨E, hE, h⟩
  · cases h
def mksA (d : Nat) (pd : Option Box) : Option Elt → AV → AV → Option Eff
  | some el, .c (.lit (.int _ n)), .c (.lit (.int _ n')) => if pd = none ∧ n' = n ∧ 0 ≤ n ∧ n * el.by' ≤ 281474976710656 ∧ n ≤ 9223372036854775807 then
        some ([], .c (.sl d n.toNat el.sz false), [(d, some ⟨zerosL el.z (n.toNat * el.sz), 0, false, false⟩)]) else none
  | _, _, _ => none
def mkfA (k : FuncId) : Option (List AC) → Option (List AC) → Option Eff
  | some f, some c => if f.all (·.pure) = true ∧ c.all (·.pure) = true then some ([], .c (.clo k f c), []) else none
  | _, _ => none

/-- Cells that are all whole numbers of a kind. -/
noncomputable def unILk (k : IntKind) (cs : List AC) : Option (List Int) := open Classical in if h : ∃ l, cs = IL k l then some (Classical.choose h) else none
theorem unILk_some {k : IntKind} {cs : List AC} {l : List Int} (h : unILk k cs = some l) : cs = IL k l := by
  unfold unILk at h
  split at h
  · rename_i h'; cases h; exact Classical.choose_spec h'
  · cases h
theorem unILk_IL (k : IntKind) (l : List Int) : unILk k (IL k l) = some l := by
  have h : ∃ l', IL k l = IL k l' := ⟨l, rfl⟩
  unfold unILk
  rw [dif_pos h]
  congr 1
  exact (IL_inj (Classical.choose_spec h)).symm
/-- An array of whole numbers: how many, of what kind. -/
def arrK (P : Program) (T : TypeId) : Option (Nat × IntKind) :=
  match tyArr P T with
  | some (len, E) => match tyInt P E with
    | some k => if tySize P E = some 1 ∧ P.eqGuardType P.depth T = false then some (len, k) else none
    | none => none
  | none => none
noncomputable def eqArr (as bs : List AC) : Option (Nat × IntKind) → Option Bool
  | some (len, k) => match unILk k as, unILk k bs with
    | some a, some b => if a.length = len ∧ b.length = len then some (decide (a = b)) else none
    | _, _ => none
  | none => none
theorem arrK_some {P : Program} {T : TypeId} {len : Nat} {k : IntKind} (h : arrK P T = some (len, k)) : ∃ E, tyArr P T = some (len, E) ∧ tyInt P E = some k ∧ tySize P E = some 1 ∧ P.eqGuardType P.depth T = false := by
  unfold arrK at h
  split at h
  · rename_i l E ht
    split at h
    · rename_i k' hk
      split at h
      · rename_i hh; cases h; exact ⟨E, ht, hk, hh.1, hh.2⟩
      · cases h
    · cases h
  · cases h
theorem ok_eq_arr' {C : Cfg} {dst : Option Tmp} {ty : TypeId} {pos : String} {after : Array Edge} {guard : Option (Nat × Bool)} {ρ : Operand → AV} {pre : Nat → Option Box} {op : BinOp} {T T' : TypeId} {x y : Operand} {as bs : List AC} {r : Bool}
    (hop : op = .eql ∨ op = .neq) (hx : ρ x = .agg as) (hy : ρ y = .agg bs) (h : eqArr as bs (arrK C.P T) = some r) : OpOk C ⟨dst, .binOp op T x y T', ty, pos, after, guard⟩ ρ [] pre (.c (.lit (.bool (r == decide (op = .eql))))) [] := by
  unfold eqArr at h
  split at h
  · rename_i len k hk
    split at h
    · rename_i a b ha hb
      split at h
      · rename_i hh
        cases h
        obtain ⟨E, h1, h2, h3, h4⟩ := arrK_some hk
        rw [unILk_some ha] at hx
        rw [unILk_some hb] at hy
        exact ok_eq_arr hop hx hy h1 h2 h3 h4 hh.1 hh.2
      · cases h
    · cases h
  · cases h
/-- == of structs, or of arrays of whole numbers. -/
noncomputable def eqG (P : Program) (T : TypeId) (as bs : List AC) : Option Bool :=
  match eqArr as bs (arrK P T) with
  | some r => some r
  | none => eqT P T as bs

noncomputable def evalOp (C : Cfg) (op : Op) (dst : Option Nat) (ρ : Operand → AV) (pre : Nat → Option Box) : Option Eff :=
  match op with
  | .move x => some ([], ρ x, [])
  | .assign x => some ([], ρ x, [])
  | .pick c a b => match ρ c with
    | .c (.lit (.bool t)) => some ([], bif t then ρ a else ρ b, [])
    | _ => none
  | .box _ x => match dst, cellsOf (ρ x) with
    | some d, some cs => if (pre d).isNone = true ∧ menL d cs = false then some ([], .c (.ptr d 0), [(d, some { cells := cs })]) else none
    | _, _ => none
  | .alloc T => match dst, tyZero C.P T with
    | some d, some z => if (pre d).isNone = true then some ([], .c (.ptr d 0), [(d, some { cells := z.cells.toList.map .lit })]) else none
    | _, _ => none
  | .load T x => match ρ x with
    | .c (.ptr b off) => match pre b with
      | some bx => if bx.nl = true then none else (loadA C.P T bx.cells off).map fun r => ([b], r, [])
      | none => none
    | .c (.iptr flat) => (loadA C.P T flat 0).map fun r => ([], r, [])
    | _ => none
  | .store T x y => match dst, ρ x with
    | none, .c (.ptr b off) => match pre b, cellsOf (ρ y) with
      | some bx, some cs => if bx.nl = false ∧ tySize C.P T = some cs.length ∧ bx.pub ≤ off ∧ off + cs.length ≤ bx.cells.length ∧ (bx.row = true → cs.all (·.pure) = true) then
          some ([], .c .junk, [(b, some { bx with cells := spliceA bx.cells cs off })]) else none
      | _, _ => none
    | _, _ => none
  | .nilCheck x => match ρ x with
    | .c (.ptr b off) => some ([], .c (.ptr b off), [])
    | .c (.iptr f) => some ([], .c (.iptr f), [])
    | _ => none
  | .binOp op T x y _ => match ρ x, ρ y with
    | .c (.lit a), .c (.lit b) => (binA C.P op T a b).map fun r => ([], .c (.lit r), [])
    | .agg as, .agg bs => if op = .eql ∨ op = .neq then (eqG C.P T as bs).map fun r => ([], .c (.lit (.bool (r == decide (op = .eql)))), []) else none
    | _, _ => none
  | .call ⟨.builtin b, args, ats⟩ => biA C b dst ats.toList (args.toList.map ρ) pre
  | .unOp op _ x => match ρ x with
    | .c (.lit a) => (unA op a).map fun r => ([], .c (.lit r), [])
    | _ => none
  | .convert S D x => convX (S == D) (tyIs C.P S (fun _ => true)) (ckOf C.P S) (ckOf C.P D) dst pre (ρ x)
  | .index T x y => ixvA C.P T (ρ x) (ρ y)
  | .field T x f => fldvA C.P T f (ρ x)
  | .slice T x lo hi none => slcA C.P T pre (bndA ρ 0 lo) (fun n => bndA ρ n hi) (ρ x)
  | .makeSlice T x y => match dst with
    | some d => mksA d (pre d) (eltOf C.P T) (ρ x) (ρ y)
    | none => none
  | .makeFunc (.func k) fs cs => mkfA k (unCs (fs.toList.map ρ)) (unCs (cs.toList.map ρ))
  | .fieldAddr T x f => match tyField C.P T f with
    | some (o, U) => match tySize C.P U with
      | some (_ + 1) => match ρ x with
        | .c (.ptr b off) => some ([], .c (.ptr b (off + o)), [])
        | .c (.iptr flat) => some ([], .c (.iptr (flat.drop o)), [])
        | _ => none
      | _ => none
    | none => none
  | .indexAddr T x y => match ρ y with
    | .c (.lit (.int _ i)) => match ρ x with
      | .c (.ptr b off) => match tyArr C.P T with
        | some (len, E) => match tySize C.P E with
          | some n => if 0 ≤ i ∧ i < len then some ([], .c (.ptr b (off + i.toNat * n)), []) else none
          | none => none
        | none => none
      | .c (.iptr flat) => match tyArr C.P T with
        | some (len, E) => match tySize C.P E with
          | some n => if 0 ≤ i ∧ i < len then some ([], .c (.iptr (flat.drop (i.toNat * n))), []) else none
          | none => none
        | none => none
      | .c (.list len flat) => match tySlice C.P T with
        | some E => match tySize C.P E with
          | some n => if 0 ≤ i ∧ i < len ∧ i.toNat * n < flat.length then some ([], .c (.iptr (flat.drop (i.toNat * n))), []) else none
          | none => none
        | none => none
      | .c (.sl b len n false) => match tySlice C.P T with
        | some E => if tySize C.P E = some n ∧ 0 ≤ i ∧ i < len then some ([], .c (.ptr b (i.toNat * n)), []) else none
        | none => none
      | _ => none
    | _ => none
  | .extract x i => match ρ x with
    | .tup vs => (vs[i]?).map fun r => ([], r, [])
    | _ => none
  | .buildSlice T len parts => match dst, rowZ C.P T len with
    | some d, some (n, z) => match fillA (fun i => some (i * n, n)) z (parts.toList.map fun p => (p.1, ρ p.2)) with
      | some cs => if (pre d).isNone = true ∧ menL d cs = false then some ([], .c (.sl d len n false), [(d, some { cells := cs })]) else none
      | none => none
    | _, _ => none
  | .build T parts => if structOk C.P T = true then (buildA C.P T (parts.toList.map fun p => (p.1, ρ p.2))).map fun cs => ([], .agg cs, []) else none
  | _ => none

theorem evalOp_ok {C : Cfg} {op : Op} {dst : Option Nat} {ty : TypeId} {pos : String} {after : Array Edge} {guard : Option (Nat × Bool)} {ρ : Operand → AV} {pre : Nat → Option Box}
    {rd : List Nat} {r : AV} {ups : List (Nat × Option Box)} (h : evalOp C op dst ρ pre = some (rd, r, ups)) : OpOk C ⟨dst, op, ty, pos, after, guard⟩ ρ rd pre r ups := by
  unfold evalOp at h
  split at h
  · cases h; exact ok_move _
  · cases h; exact ok_assign _
  · split at h
    · rename_i hc; cases h; exact ok_pick hc
    · cases h
  · split at h
    · rename_i d cs hd hc
      split at h
      · rename_i hh
        cases h
        exact ok_box (by simpa using hh.1) hc hh.2
      · cases h
    · cases h
  · split at h
    · rename_i d z hd hz
      split at h
      · rename_i hh
        cases h
        exact ok_alloc (by simpa using hh) hz
      · cases h
    · cases h
  · split at h
    · rename_i b off hx
      split at h
      · rename_i bx hb
        split at h
        · cases h
        · rename_i hn
          obtain ⟨v, hl, e⟩ := Option.map_eq_some_iff.1 h
          cases e; exact ok_load hx hb (by simpa using hn) hl
      · cases h
    · rename_i flat hx
      obtain ⟨v, hl, e⟩ := Option.map_eq_some_iff.1 h
      cases e; exact ok_load_i hx hl
    · cases h
  · split at h
    · rename_i b off hx
      split at h
      · rename_i bx cs hb hc
        split at h
        · rename_i hh
          cases h
          exact ok_store hx hb hh.1 hc hh.2.1 hh.2.2.1 hh.2.2.2.1 hh.2.2.2.2
        · cases h
      · cases h
    · cases h
  · split at h
    · rename_i hx; cases h; exact ok_nil_ptr hx
    · rename_i hx; cases h; exact ok_nil_iptr hx
    · cases h
  · split at h
    · rename_i a b hx hy
      obtain ⟨v, hl, e⟩ := Option.map_eq_some_iff.1 h
      cases e; exact ok_bin hx hy hl
    · rename_i as bs hx hy
      split at h
      · rename_i ho
        obtain ⟨v, hl, e⟩ := Option.map_eq_some_iff.1 h
        cases e
        unfold eqG at hl
        split at hl
        · rename_i r hr; cases hl; exact ok_eq_arr' ho hx hy hr
        · exact ok_eq_agg ho hx hy hl
      · cases h
    · cases h
  · unfold biA at h
    split at h
    · rename_i hl
      obtain ⟨x, y, rfl, hx, hy⟩ := args_two hl
      cases h; exact ok_min hx hy
    · rename_i hl
      obtain ⟨x, y, rfl, hx, hy⟩ := args_two hl
      cases h; exact ok_max hx hy
    · rename_i hl ht
      obtain ⟨x, rfl, rfl⟩ := args_one hl
      obtain ⟨T, rfl, rfl⟩ := args_one (ρ := id) (by simpa using ht)
      obtain ⟨v, hl, e⟩ := Option.map_eq_some_iff.1 h
      cases e; exact ok_len hl
    · rename_i hl ht
      obtain ⟨x, y, rfl, rfl, rfl⟩ := args_two hl
      obtain ⟨T, U, rfl, rfl, rfl⟩ := args_two (ρ := (id : TypeId → TypeId)) ((List.map_id _).trans ht)
      split at h
      · rename_i d
        unfold appA at h
        split at h
        · rename_i el hel
          split at h
          · rename_i rd m ns hbeh
            split at h
            · rename_i b n s nl hx
              split at h
              · rename_i bx hb
                split at h
                · rename_i hh
                  cases h
                  obtain ⟨rfl, h2, h3, h4, h5, h6, h7, h8⟩ := hh
                  exact ok_append hel hx hb h2 h3 h4 h5 (behA_ok hbeh) h6 h7 h8
                · cases h
              · cases h
            · rename_i hx
              split at h
              · rename_i hh
                cases h
                obtain ⟨h5, h6, h7, h8⟩ := hh
                exact ok_append_nil hel hx h5 (behA_ok hbeh) h6 h7 h8
              · cases h
            · cases h
          · cases h
        · cases h
      · cases h
    · cases h
  · split at h
    · rename_i a hx
      obtain ⟨v, hl, e⟩ := Option.map_eq_some_iff.1 h
      cases e; exact ok_un hx hl
    · cases h
  · unfold convX at h
    split at h
    · rename_i k n hx
      split at h
      · rename_i k' hk
        split at h
        · rename_i hs; cases h; exact ok_conv_int hx hs (ckOf_int hk)
        · cases h
      · cases h
    · rename_i s hx
      split at h
      · rename_i hk
        split at h
        · rename_i hs; cases h; exact ok_conv_str hx hs (ckOf_str hk)
        · cases h
      · rename_i d hk
        split at h
        · rename_i hh
          cases h
          obtain ⟨E, h1, h2⟩ := ckOf_bytes hk
          exact ok_conv_sb hh.2 hx hh.1 h1 h2
        · cases h
      · cases h
    · rename_i n flat hx
      split at h
      · rename_i l hs hd hu
        split at h
        · rename_i hh
          cases h
          obtain ⟨E, h1, h2⟩ := ckOf_bytes hs
          rw [unIL_some hu] at hx
          exact ok_conv_bs hx hh h1 h2 (ckOf_str hd)
        · cases h
      · cases h
    · rename_i b n sz nl hx
      split at h
      · rename_i hs
        obtain ⟨E, h1, h2⟩ := ckOf_bytes hs
        unfold convB at h
        split at h
        · rename_i bx hb hd
          split at h
          · rename_i l hl
            split at h
            · rename_i hh
              cases h
              obtain ⟨rfl, h4, h5, h6⟩ := hh
              rw [hb] at hl
              exact ok_conv_bs_sl hx hb h4 (unIL_some hl) h5 h6 h1 h2 (ckOf_str hd)
            · cases h
          · cases h
        · rename_i bx hb hd
          split at h
          · rename_i hh
            cases h
            obtain ⟨h3, rfl, h5⟩ := hh
            cases eq_of_beq h3
            exact ok_conv_sl hx hb h5 h1 h2
          · cases h
        · cases h
      · cases h
    · rename_i hx
      split at h
      · rename_i hs hd
        cases h
        obtain ⟨E, h1, h2⟩ := ckOf_bytes hs
        exact ok_conv_nil hx h1 h2 (ckOf_str hd)
      · cases h
    · cases h
  · unfold ixvA at h
    split at h
    · rename_i s k i hx hy
      split at h
      · rename_i hh; cases h; exact ok_index_str hx hy hh.1 hh.2.1 hh.2.2
      · cases h
    · rename_i cs k i hx hy
      split at h
      · rename_i len E ht
        split at h
        · rename_i n hn
          split at h
          · rename_i hh
            obtain ⟨v, hl, e⟩ := Option.map_eq_some_iff.1 h
            cases e; exact ok_index_arr hx hy ht hn hh.1 hh.2 hl
          · cases h
        · cases h
      · cases h
    · cases h
  · unfold fldvA at h
    split at h
    · rename_i cs hx
      split at h
      · rename_i o U ht
        obtain ⟨v, hl, e⟩ := Option.map_eq_some_iff.1 h
        cases e; exact ok_field hx ht hl
      · cases h
    · cases h
  · unfold slcA at h
    split at h
    · rename_i s hx
      split at h
      · rename_i l hh' hlo hhi
        split at h
        · rename_i hh; cases h; exact ok_slice_str hx hh.1 hlo hhi hh.2.1 hh.2.2.1 hh.2.2.2
        · cases h
      · cases h
    · rename_i n flat hx
      split at h
      · rename_i l hh' sz hlo hhi hE
        obtain ⟨E, h1, h2⟩ := slcS_some hE
        split at h
        · rename_i hh; cases h; exact ok_slice_list hx h1 h2 hh.1 hlo hhi hh.2.1 hh.2.2.1 hh.2.2.2
        · cases h
      · cases h
    · rename_i b n sz nl hx
      split at h
      · rename_i l hh' hlo hhi
        unfold slcB at h
        split at h
        · rename_i bx hb
          split at h
          · rename_i hh
            cases h
            obtain ⟨E, h1, h2⟩ := slcS_some hh.1
            exact ok_slice_sl hx hb hh.2.1 hh.2.2.1 hh.2.2.2.1 h1 h2 hlo hhi hh.2.2.2.2.1 hh.2.2.2.2.2.1 hh.2.2.2.2.2.2
          · cases h
        · cases h
      · cases h
    · rename_i hx
      split at h
      · rename_i l hh' sz hlo hhi hE
        split at h
        · rename_i hh
          cases h
          obtain ⟨rfl, rfl⟩ := hh
          obtain ⟨E, h1, h2⟩ := slcS_some hE
          exact ok_slice_nil hx h1 h2 hlo hhi
        · cases h
      · cases h
    · cases h
  · split at h
    · rename_i d
      unfold mksA at h
      split at h
      · rename_i el k n k' n' hel hx hy
        split at h
        · rename_i hh
          cases h
          obtain ⟨h1, rfl, h3, h4, h5⟩ := hh
          exact ok_makeSlice h1 hel hx hy h3 h4 h5
        · cases h
      · cases h
    · cases h
  · unfold mkfA at h
    split at h
    · rename_i f c hf hc
      split at h
      · rename_i hh
        cases h
        exact ok_makeFunc (unCs_some hf) (unCs_some hc) hh
      · cases h
    · cases h
  · split at h
    · rename_i o U hf
      split at h
      · rename_i n hn
        split at h
        · rename_i hx; cases h; exact ok_field_ptr hx hf hn
        · rename_i hx; cases h; exact ok_field_iptr hx hf hn
        · cases h
      · cases h
    · cases h
  · split at h
    · rename_i k i hy
      split at h
      · rename_i b off hx
        split at h
        · rename_i len E ha
          split at h
          · rename_i n hn
            split at h
            · rename_i hh; cases h; exact ok_ix_ptr hx hy ha hn hh.1 hh.2
            · cases h
          · cases h
        · cases h
      · rename_i flat hx
        split at h
        · rename_i len E ha
          split at h
          · rename_i n hn
            split at h
            · rename_i hh; cases h; exact ok_ix_iptr hx hy ha hn hh.1 hh.2
            · cases h
          · cases h
        · cases h
      · rename_i len flat hx
        split at h
        · rename_i E ha
          split at h
          · rename_i n hn
            split at h
            · rename_i hh; cases h; exact ok_ix_list hx hy ha hn hh.1 hh.2.1 hh.2.2
            · cases h
          · cases h
        · cases h
      · rename_i b len n hx
        split at h
        · rename_i E ha
          split at h
          · rename_i hh; cases h; exact ok_ix_sl hx hy ha hh.1 hh.2.1 hh.2.2
          · cases h
        · cases h
      · cases h
    · cases h
  · split at h
    · rename_i vs hx
      obtain ⟨v, hl, e⟩ := Option.map_eq_some_iff.1 h
      cases e; exact ok_extract hx hl
    · cases h
  · split at h
    · rename_i d n z hd hz
      split at h
      · rename_i cs hf
        split at h
        · rename_i hh
          cases h
          exact ok_buildSlice (by simpa using hh.1) hz hf hh.2
        · cases h
      · cases h
    · cases h
  · split at h
    · rename_i hs
      obtain ⟨v, hl, e⟩ := Option.map_eq_some_iff.1 h
      cases e
      unfold structOk at hs
      split at hs
      · rename_i fs hu
        exact ok_build hu (fun x hx => List.all_eq_true.1 hs x hx) hl
      · rename_i len E hu
        obtain ⟨n, hn⟩ := Option.isSome_iff_exists.1 hs
        exact ok_build_arr hu hn hl
      · cases hs
    · cases h
  · cases h

def isTup : AV → Bool
  | .tup _ => true
  | _ => false

/-- What an operation is to do to the state, and then. -/
def Done (d : Option Nat) (s : St) (K : Rec → St → Prop) : Option Eff → Prop
  | some (rd, r, ups) => (∀ t, d = some t → t < s.n) ∧ (∀ b ∈ wrOf ups, s.box b = none → b < s.n ∧ NoMen s b d) ∧ K ⟨false, rd, r, ups⟩ ((s.upd ups).put d r)
  | none => False

/-- A call, by a contract. -/
def CallE (C : Cfg) (k : FuncId) (args : List AV) (bs : List Nat) (d : Option Nat) (s : St) (K : Rec → St → Prop) : Prop :=
  ∃ r ups, FnOkB C k args s.box r ups ∧ args.any isTup = false ∧ (∀ b ∈ wrOf ups, b ∉ bs) ∧ Done d s K (some ([], r, upsOf s.box bs ++ ups))

/-- Contracts that are at hand, as functions. -/
abbrev Ctx := List (FuncId × (List AV → (Nat → Option Box) → Option (AV × List (Nat × Option Box))))

def Ctx.ask : Ctx → FuncId → List AV → (Nat → Option Box) → Option (AV × List (Nat × Option Box))
  | [], _, _, _ => none
  | (j, f) :: Γ, k, args, pre => bif j == k then f args pre else Ctx.ask Γ k args pre

def Ctx.sound (C : Cfg) (Γ : Ctx) : Prop := ∀ k args pre r ups, Γ.ask k args pre = some (r, ups) → FnOkB C k args pre r ups ∧ args.any isTup = false

def CallG (C : Cfg) (Γ : Ctx) (k : FuncId) (args : List AV) (bs : List Nat) (d : Option Nat) (s : St) (K : Rec → St → Prop) : Prop :=
  match Γ.ask k args s.box with
  | some (r, ups) => (∀ b ∈ wrOf ups, b ∉ bs) ∧ Done d s K (some ([], r, upsOf s.box bs ++ ups))
  | none => CallE C k args bs d s K

theorem callG_E {C : Cfg} {Γ : Ctx} (hΓ : Γ.sound C) {k : FuncId} {args : List AV} {bs : List Nat} {d : Option Nat} {s : St} {K : Rec → St → Prop} (h : CallG C Γ k args bs d s K) : CallE C k args bs d s K := by
  unfold CallG at h
  split at h
  · rename_i r ups hr; exact ⟨r, ups, (hΓ k args _ r ups hr).1, (hΓ k args _ r ups hr).2, h.1, h.2⟩
  · exact h

def Exec (C : Cfg) (Γ : Ctx) (o : Oper) (s : St) (K : Rec → St → Prop) : Prop :=
  match o.op with
  | .call ⟨.value f, args, _⟩ => match calleeA (s.ev C f) with
    | some (k, fs, cs) => CallG C Γ k (fs ++ (args.toList.map (s.ev C)).map (pubA s.box) ++ cs) ((args.toList.map (s.ev C)).flatMap slA) o.dst s K
    | none => False
  | op => Done o.dst s K (evalOp C op o.dst (s.ev C) s.box)

/-- A guard, or a test: both ways, if it isn't known. -/
def GuardE (y : Option (Option Bool)) (want : Bool) (A B : Prop) : Prop :=
  match y with
  | some b => (b = some want → A) ∧ (b ≠ some want → B)
  | none => False
def CondE (v : AV) (A B : Prop) : Prop :=
  match v with
  | .c (.lit (.bool b)) => (b = true → A) ∧ (b = false → B)
  | _ => False

def RunE (C : Cfg) (Γ : Ctx) (ops : Array Oper) : List Oper → St → (St → Prop) → Prop
  | [], s, K => K s
  | o :: os, s, K => match o.guard with
    | none => Exec C Γ o s fun _ s' => RunE C Γ ops os s' K
    | some (j, want) => GuardE (yieldedA ops s j) want (Exec C Γ o s fun _ s' => RunE C Γ ops os s' K) (RunE C Γ ops os (s.put o.dst (.tup [])) K)

theorem exec_ok {C : Cfg} {Γ : Ctx} (hΓ : Γ.sound C) {o : Oper} {s : St} {K : Rec → St → Prop} (h : Exec C Γ o s K) :
    ∃ rd r ups, StepOk C o s rd r ups ∧ K ⟨false, rd, r, ups⟩ ((s.upd ups).put o.dst r) := by
  obtain ⟨dst, op, ty, pos, after, guard⟩ := o
  unfold Exec at h
  split at h
  · rename_i f args ats hop
    simp only at hop
    subst hop
    split at h
    · rename_i k fs cs hc
      obtain ⟨r, ups, hf, ht, hdj, hd, hn, hk⟩ := callG_E hΓ h
      refine ⟨[], r, _, ⟨opOk_callP hc hf (fun x hx vs e => ?_) rfl hdj, fun b hb e => (hn b hb e).2, hd, fun b hb e => (hn b hb e).1⟩, hk⟩
      rw [List.any_eq_false] at ht
      have := ht (pubA s.box (s.ev C x)) (by
        simp only [List.mem_append, List.mem_map]
        exact .inl (.inr ⟨_, ⟨x, by simpa using hx, rfl⟩, rfl⟩))
      rw [e] at this; simp [isTup, pubA] at this
    · exact h.elim
  · cases he : evalOp C op dst (s.ev C) s.box with
    | none => simp only [he] at h; exact h.elim
    | some e =>
      obtain ⟨rd, r, ups⟩ := e
      simp only [he] at h
      obtain ⟨hd, hn, hk⟩ := h
      exact ⟨rd, r, ups, ⟨evalOp_ok he, fun b hb e => (hn b hb e).2, hd, fun b hb e => (hn b hb e).1⟩, hk⟩

theorem runE_N {C : Cfg} {Γ : Ctx} (hΓ : Γ.sound C) {ops : Array Oper} {K : St → Prop} (os : List Oper) : ∀ (s : St), RunE C Γ ops os s K → RunN C ops os s K := by
  induction os with
  | nil => intro s h; exact h
  | cons o os ih =>
    intro s h
    unfold RunE at h
    unfold RunN
    cases hg : o.guard with
    | none =>
      simp only [hg] at h ⊢
      obtain ⟨rd, r, ups, st, hk⟩ := exec_ok hΓ h
      exact ⟨rd, r, ups, st, ih _ hk⟩
    | some jw =>
      obtain ⟨j, want⟩ := jw
      simp only [hg] at h ⊢
      cases hy : yieldedA ops s j with
      | none => simp only [hy, GuardE] at h
      | some b =>
      simp only [hy, GuardE] at h
      obtain ⟨h1, h2⟩ := h
      refine ⟨b, rfl, fun e => ?_, fun e => ih _ (h2 e)⟩
      obtain ⟨rd, r, ups, st, hk⟩ := exec_ok hΓ (h1 e)
      exact ⟨rd, r, ups, st, ih _ hk⟩

/-- The same, with what each did, for a region that draws its order. -/
def RunD (C : Cfg) (Γ : Ctx) (ops : Array Oper) : List Oper → St → List Rec → (List Rec → St → Prop) → Prop
  | [], s, acc, K => K acc s
  | o :: os, s, acc, K => match o.guard with
    | none => Exec C Γ o s fun rc s' => RunD C Γ ops os s' (acc ++ [rc]) K
    | some (j, want) => GuardE (yieldedA ops s j) want (Exec C Γ o s fun rc s' => RunD C Γ ops os s' (acc ++ [rc]) K) (RunD C Γ ops os (s.put o.dst (.tup [])) (acc ++ [skipRec]) K)

theorem runD_K {C : Cfg} {Γ : Ctx} (hΓ : Γ.sound C) {ops : Array Oper} {K : List Rec → St → Prop} (os : List Oper) : ∀ (s : St) (acc : List Rec), RunD C Γ ops os s acc K → RunK C ops os s acc K := by
  induction os with
  | nil => intro s acc h; exact h
  | cons o os ih =>
    intro s acc h
    unfold RunD at h
    unfold RunK
    cases hg : o.guard with
    | none =>
      simp only [hg] at h ⊢
      obtain ⟨rd, r, ups, st, hk⟩ := exec_ok hΓ h
      exact ⟨rd, r, ups, st, ih _ _ hk⟩
    | some jw =>
      obtain ⟨j, want⟩ := jw
      simp only [hg] at h ⊢
      cases hy : yieldedA ops s j with
      | none => simp only [hy, GuardE] at h
      | some b =>
      simp only [hy, GuardE] at h
      obtain ⟨h1, h2⟩ := h
      refine ⟨b, rfl, fun e => ?_, fun e => ih _ _ (h2 e)⟩
      obtain ⟨rd, r, ups, st, hk⟩ := exec_ok hΓ (h1 e)
      exact ⟨rd, r, ups, st, ih _ _ hk⟩

/-- Code by evaluation. -/
def WPe (C : Cfg) (Γ : Ctx) : Code → (Ex → St → Prop) → St → Prop
  | .skip, K, s => K .normal s
  | .region _ ops false, K, s => RunE C Γ ops ops.toList s (K .normal)
  | .region _ ops true, K, s => RunD C Γ ops ops.toList s [] fun rcs s' => orderOk ops rcs s ∧ K .normal s'
  | .seq x y, K, s => WPe C Γ x (St.goes (WPe C Γ y K) K) s
  | .cond c x y, K, s => CondE (s.ev C c) (WPe C Γ x K s) (WPe C Γ y K s)
  | .block id c, K, s => WPe C Γ c (inBlockA id K) s
  | .loop c, K, s => ∃ (Inv : Nat → St → Prop), (∃ n s0, s.le s0 ∧ Inv n s0) ∧
      ∀ n s1, Inv n s1 → WPe C Γ c (St.goes (fun s2 => ∃ n' s3, s2.le s3 ∧ Inv n' s3 ∧ n' < n) K) s1
  | .exit id, K, s => K (.exit id) s
  | .label _, K, s => K .normal s
  | .ret, K, s => K .ret s
  | _, _, _ => False

theorem least {p : Nat → Prop} (h : ∃ n, p n) : ∃ n, p n ∧ ∀ m, p m → n ≤ m := by
  obtain ⟨n, hn⟩ := h
  induction n using Nat.strongRecOn with
  | _ n ih =>
    by_cases hm : ∃ m, m < n ∧ p m
    · obtain ⟨m, h1, h2⟩ := hm; exact ih m h1 h2
    · exact ⟨n, hn, fun m h => Nat.not_lt.1 fun hl => hm ⟨m, hl, h⟩⟩
theorem leastOf (Inv : Nat → St → Prop) : ∃ f : St → Nat, ∀ s, (∃ n, Inv n s) → Inv (f s) s ∧ ∀ n, Inv n s → f s ≤ n := by
  have : ∀ s, ∃ k, (∃ n, Inv n s) → Inv k s ∧ ∀ n, Inv n s → k ≤ n := fun s => by
    by_cases h : ∃ n, Inv n s
    · obtain ⟨k, h1⟩ := least (p := fun n => Inv n s) h; exact ⟨k, fun _ => h1⟩
    · exact ⟨0, fun h' => (h h').elim⟩
  exact ⟨fun s => Classical.choose (this s), fun s h => Classical.choose_spec (this s) h⟩

theorem wpe_c {C : Cfg} {Γ : Ctx} (hΓ : Γ.sound C) (c : Code) : ∀ {K : Ex → St → Prop} {s : St}, WPe C Γ c K s → WPc C c K s := by
  induction c with
  | skip => intro K s h; exact h
  | label l => intro K s h; exact h
  | exit id => intro K s h; exact h
  | ret => intro K s h; exact h
  | region id ops draw =>
    intro K s h
    cases draw with
    | false => exact runE_N hΓ _ s h
    | true => exact runD_K hΓ _ s [] h
  | seq x y ihx ihy =>
    intro K s h
    refine WPc.mono x (fun e s' hs => ?_) (ihx h)
    cases e with
    | normal => exact ihy hs
    | exit id => exact hs
    | ret => exact hs
  | cond c x y ihx ihy =>
    intro K s h
    unfold WPe CondE at h
    split at h
    · rename_i b e; exact ⟨b, e, fun hb' => ihx (h.1 hb'), fun hb' => ihy (h.2 hb')⟩
    · exact h.elim
  | block id c ih => intro K s h; exact ih h
  | loop c ih =>
    intro K s h
    obtain ⟨Inv, ⟨n0, s0, hl, h0⟩, hr⟩ := h
    obtain ⟨f, hf⟩ := leastOf Inv
    refine ⟨fun s => ∃ n, Inv n s, f, ⟨s0, hl, n0, h0⟩, fun s1 hs => ?_⟩
    refine WPc.mono c (fun e s2 hk => ?_) (ih (hr (f s1) s1 (hf s1 hs).1))
    cases e with
    | normal =>
      obtain ⟨n', s3, h1, h2, h3⟩ := hk
      exact ⟨s3, h1, ⟨n', h2⟩, Nat.lt_of_le_of_lt ((hf s3 ⟨n', h2⟩).2 n' h2) h3⟩
    | exit id => exact hk
    | ret => exact hk
  | _ => intro K s h; exact h.elim

end Go.Ev
