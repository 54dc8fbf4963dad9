/-
  A symbolic executor over abstract states, part 8: the operations as one function, and regions by it.
-/
import Derived.Test.YtnhdfmnmciminaaDoorEvMore
namespace Go.Ev
set_option linter.unusedSimpArgs false
set_option linter.unusedVariables false

abbrev Eff := List Nat × AV × List (Nat × Option Box)

def structOk (P : Program) (T : TypeId) : Bool :=
  match P.underlying T with
  | some (.struct fs) => fs.toList.all fun x => (tySize P x.type).isSome
  | _ => false

/-- The language's own functions. -/
def biA (C : Cfg) (b : Builtin) (args : List AV) : Option Eff :=
  match args with
  | [.c (.lit (.int k a)), .c (.lit (.int _ b'))] => match b with
    | .min => some ([], .c (.lit (.int k (if b' < a then b' else a))), [])
    | .max => some ([], .c (.lit (.int k (if a < b' then b' else a))), [])
    | _ => none
  | _ => none

theorem args_two {args : Array Operand} {ρ : Operand → AV} {u v : AV} (h : args.toList.map ρ = [u, v]) : ∃ x y, args = #[x, y] ∧ ρ x = u ∧ ρ y = v := by
  obtain ⟨l⟩ := args
  match l, h with
  | [x, y], h => simp at h; exact ⟨x, y, rfl, h.1, h.2⟩

def evalOp (C : Cfg) (op : Op) (dst : Option Nat) (ρ : Operand → AV) (pre : Nat → Option Box) : Option Eff :=
  match op with
  | .move x => some ([], ρ x, [])
  | .assign x => some ([], ρ x, [])
  | .pick c a b => match ρ c with
    | .c (.lit (.bool t)) => some ([], bif t then ρ a else ρ b, [])
    | _ => none
  | .box _ x => match dst, cellsOf (ρ x) with
    | some d, some cs => if (pre d).isNone = true ∧ menL d cs = false then some ([], .c (.ptr d 0), [(d, some { cells := cs })]) else none
    | _, _ => none
  | .alloc T => match dst, tyZero C.P T with
    | some d, some z => if (pre d).isNone = true then some ([], .c (.ptr d 0), [(d, some { cells := z.cells.toList.map .lit })]) else none
    | _, _ => none
  | .load T x => match ρ x with
    | .c (.ptr b off) => match pre b with
      | some bx => if bx.nl = true then none else (loadA C.P T bx.cells off).map fun r => ([b], r, [])
      | none => none
    | .c (.iptr flat) => (loadA C.P T flat 0).map fun r => ([], r, [])
    | _ => none
  | .store T x y => match dst, ρ x with
    | none, .c (.ptr b off) => match pre b, cellsOf (ρ y) with
      | some bx, some cs => if bx.nl = false ∧ tySize C.P T = some cs.length ∧ bx.pub ≤ off ∧ off + cs.length ≤ bx.cells.length ∧ (bx.row = true → cs.all (·.pure) = true) then
          some ([], .c .junk, [(b, some { bx with cells := spliceA bx.cells cs off })]) else none
      | _, _ => none
    | _, _ => none
  | .nilCheck x => match ρ x with
    | .c (.ptr b off) => some ([], .c (.ptr b off), [])
    | .c (.iptr f) => some ([], .c (.iptr f), [])
    | _ => none
  | .binOp op T x y _ => match ρ x, ρ y with
    | .c (.lit a), .c (.lit b) => (binA C.P op T a b).map fun r => ([], .c (.lit r), [])
    | .agg as, .agg bs => if op = .eql ∨ op = .neq then (eqT C.P T as bs).map fun r => ([], .c (.lit (.bool (r == decide (op = .eql)))), []) else none
    | _, _ => none
  | .call ⟨.builtin b, args, ats⟩ => biA C b (args.toList.map ρ)
  | .unOp op _ x => match ρ x with
    | .c (.lit a) => (unA op a).map fun r => ([], .c (.lit r), [])
    | _ => none
  | .convert S D x => match ρ x with
    | .c (.lit (.int k n)) => if tyIs C.P S (fun _ => true) = true then (tyInt C.P D).map fun k' => ([], .c (.lit (.int k' (k'.wrap n))), []) else none
    | .c (.lit (.string s)) => if tyIs C.P S (fun _ => true) = true ∧ tyIs C.P D (· matches .string) = true then some ([], .c (.lit (.string s)), []) else none
    | _ => none
  | .fieldAddr T x f => match tyField C.P T f with
    | some (o, U) => match tySize C.P U with
      | some (_ + 1) => match ρ x with
        | .c (.ptr b off) => some ([], .c (.ptr b (off + o)), [])
        | .c (.iptr flat) => some ([], .c (.iptr (flat.drop o)), [])
        | _ => none
      | _ => none
    | none => none
  | .indexAddr T x y => match ρ y with
    | .c (.lit (.int _ i)) => match ρ x with
      | .c (.ptr b off) => match tyArr C.P T with
        | some (len, E) => match tySize C.P E with
          | some n => if 0 ≤ i ∧ i < len then some ([], .c (.ptr b (off + i.toNat * n)), []) else none
          | none => none
        | none => none
      | .c (.iptr flat) => match tyArr C.P T with
        | some (len, E) => match tySize C.P E with
          | some n => if 0 ≤ i ∧ i < len then some ([], .c (.iptr (flat.drop (i.toNat * n))), []) else none
          | none => none
        | none => none
      | .c (.list len flat) => match tySlice C.P T with
        | some E => match tySize C.P E with
          | some n => if 0 ≤ i ∧ i < len ∧ i.toNat * n < flat.length then some ([], .c (.iptr (flat.drop (i.toNat * n))), []) else none
          | none => none
        | none => none
      | .c (.sl b len n false) => match tySlice C.P T with
        | some E => if tySize C.P E = some n ∧ 0 ≤ i ∧ i < len then some ([], .c (.ptr b (i.toNat * n)), []) else none
        | none => none
      | _ => none
    | _ => none
  | .extract x i => match ρ x with
    | .tup vs => (vs[i]?).map fun r => ([], r, [])
    | _ => none
  | .buildSlice T len parts => match dst, rowZ C.P T len with
    | some d, some (n, z) => match fillA (fun i => some (i * n, n)) z (parts.toList.map fun p => (p.1, ρ p.2)) with
      | some cs => if (pre d).isNone = true ∧ menL d cs = false then some ([], .c (.sl d len n false), [(d, some { cells := cs })]) else none
      | none => none
    | _, _ => none
  | .build T parts => if structOk C.P T = true then (buildA C.P T (parts.toList.map fun p => (p.1, ρ p.2))).map fun cs => ([], .agg cs, []) else none
  | _ => none

theorem evalOp_ok {C : Cfg} {op : Op} {dst : Option Nat} {ty : TypeId} {pos : String} {after : Array Edge} {guard : Option (Nat × Bool)} {ρ : Operand → AV} {pre : Nat → Option Box}
    {rd : List Nat} {r : AV} {ups : List (Nat × Option Box)} (h : evalOp C op dst ρ pre = some (rd, r, ups)) : OpOk C ⟨dst, op, ty, pos, after, guard⟩ ρ rd pre r ups := by
  unfold evalOp at h
  split at h
  · cases h; exact ok_move _
  · cases h; exact ok_assign _
  · split at h
    · rename_i hc; cases h; exact ok_pick hc
    · cases h
  · split at h
    · rename_i d cs hd hc
      split at h
      · rename_i hh
        cases h
        exact ok_box (by simpa using hh.1) hc hh.2
      · cases h
    · cases h
  · split at h
    · rename_i d z hd hz
      split at h
      · rename_i hh
        cases h
        exact ok_alloc (by simpa using hh) hz
      · cases h
    · cases h
  · split at h
    · rename_i b off hx
      split at h
      · rename_i bx hb
        split at h
        · cases h
        · rename_i hn
          obtain ⟨v, hl, e⟩ := Option.map_eq_some_iff.1 h
          cases e; exact ok_load hx hb (by simpa using hn) hl
      · cases h
    · rename_i flat hx
      obtain ⟨v, hl, e⟩ := Option.map_eq_some_iff.1 h
      cases e; exact ok_load_i hx hl
    · cases h
  · split at h
    · rename_i b off hx
      split at h
      · rename_i bx cs hb hc
        split at h
        · rename_i hh
          cases h
          exact ok_store hx hb hh.1 hc hh.2.1 hh.2.2.1 hh.2.2.2.1 hh.2.2.2.2
        · cases h
      · cases h
    · cases h
  · split at h
    · rename_i hx; cases h; exact ok_nil_ptr hx
    · rename_i hx; cases h; exact ok_nil_iptr hx
    · cases h
  · split at h
    · rename_i a b hx hy
      obtain ⟨v, hl, e⟩ := Option.map_eq_some_iff.1 h
      cases e; exact ok_bin hx hy hl
    · rename_i as bs hx hy
      split at h
      · rename_i ho
        obtain ⟨v, hl, e⟩ := Option.map_eq_some_iff.1 h
        cases e; exact ok_eq_agg ho hx hy hl
      · cases h
    · cases h
  · unfold biA at h
    split at h
    · rename_i hl
      obtain ⟨x, y, rfl, hx, hy⟩ := args_two hl
      split at h
      · cases h; exact ok_min hx hy
      · cases h; exact ok_max hx hy
      · cases h
    · cases h
  · split at h
    · rename_i a hx
      obtain ⟨v, hl, e⟩ := Option.map_eq_some_iff.1 h
      cases e; exact ok_un hx hl
    · cases h
  · split at h
    · rename_i k n hx
      split at h
      · rename_i hs
        obtain ⟨v, hl, e⟩ := Option.map_eq_some_iff.1 h
        cases e; exact ok_conv_int hx hs hl
      · cases h
    · rename_i s hx
      split at h
      · rename_i hs; cases h; exact ok_conv_str hx hs.1 hs.2
      · cases h
    · cases h
  · split at h
    · rename_i o U hf
      split at h
      · rename_i n hn
        split at h
        · rename_i hx; cases h; exact ok_field_ptr hx hf hn
        · rename_i hx; cases h; exact ok_field_iptr hx hf hn
        · cases h
      · cases h
    · cases h
  · split at h
    · rename_i k i hy
      split at h
      · rename_i b off hx
        split at h
        · rename_i len E ha
          split at h
          · rename_i n hn
            split at h
            · rename_i hh; cases h; exact ok_ix_ptr hx hy ha hn hh.1 hh.2
            · cases h
          · cases h
        · cases h
      · rename_i flat hx
        split at h
        · rename_i len E ha
          split at h
          · rename_i n hn
            split at h
            · rename_i hh; cases h; exact ok_ix_iptr hx hy ha hn hh.1 hh.2
            · cases h
          · cases h
        · cases h
      · rename_i len flat hx
        split at h
        · rename_i E ha
          split at h
          · rename_i n hn
            split at h
            · rename_i hh; cases h; exact ok_ix_list hx hy ha hn hh.1 hh.2.1 hh.2.2
            · cases h
          · cases h
        · cases h
      · rename_i b len n hx
        split at h
        · rename_i E ha
          split at h
          · rename_i hh; cases h; exact ok_ix_sl hx hy ha hh.1 hh.2.1 hh.2.2
          · cases h
        · cases h
      · cases h
    · cases h
  · split at h
    · rename_i vs hx
      obtain ⟨v, hl, e⟩ := Option.map_eq_some_iff.1 h
      cases e; exact ok_extract hx hl
    · cases h
  · split at h
    · rename_i d n z hd hz
      split at h
      · rename_i cs hf
        split at h
        · rename_i hh
          cases h
          exact ok_buildSlice (by simpa using hh.1) hz hf hh.2
        · cases h
      · cases h
    · cases h
  · split at h
    · rename_i hs
      obtain ⟨v, hl, e⟩ := Option.map_eq_some_iff.1 h
      cases e
      unfold structOk at hs
      split at hs
      · rename_i fs hu
        exact ok_build hu (fun x hx => List.all_eq_true.1 hs x hx) hl
      · cases hs
    · cases h
  · cases h

def isTup : AV → Bool
  | .tup _ => true
  | _ => false

/-- What an operation is to do to the state, and then. -/
def Done (d : Option Nat) (s : St) (K : Rec → St → Prop) : Option Eff → Prop
  | some (rd, r, ups) => (∀ t, d = some t → t < s.n) ∧ (∀ b ∈ wrOf ups, s.box b = none → NoMen s b d) ∧ K ⟨false, rd, r, ups⟩ ((s.upd ups).put d r)
  | none => False

/-- A call, by a contract. -/
def CallE (C : Cfg) (k : FuncId) (args : List AV) (d : Option Nat) (s : St) (K : Rec → St → Prop) : Prop :=
  ∃ r ups, FnOkB C k args s.box r ups ∧ args.any isTup = false ∧ Done d s K (some ([], r, ups))

/-- Contracts that are at hand, as functions. -/
abbrev Ctx := List (FuncId × (List AV → Option AV))

def Ctx.ask : Ctx → FuncId → List AV → Option AV
  | [], _, _ => none
  | (j, f) :: Γ, k, args => bif j == k then f args else Ctx.ask Γ k args

def Ctx.sound (C : Cfg) (Γ : Ctx) : Prop := ∀ k args r, Γ.ask k args = some r → FnOk C k args r ∧ args.any isTup = false

def CallG (C : Cfg) (Γ : Ctx) (k : FuncId) (args : List AV) (d : Option Nat) (s : St) (K : Rec → St → Prop) : Prop :=
  match Γ.ask k args with
  | some r => Done d s K (some ([], r, []))
  | none => CallE C k args d s K

theorem callG_E {C : Cfg} {Γ : Ctx} (hΓ : Γ.sound C) {k : FuncId} {args : List AV} {d : Option Nat} {s : St} {K : Rec → St → Prop} (h : CallG C Γ k args d s K) : CallE C k args d s K := by
  unfold CallG at h
  split at h
  · rename_i r hr; exact ⟨r, [], (hΓ k args r hr).1 s.box, (hΓ k args r hr).2, h⟩
  · exact h

def Exec (C : Cfg) (Γ : Ctx) (o : Oper) (s : St) (K : Rec → St → Prop) : Prop :=
  match o.op with
  | .call ⟨.value (.func k), args, _⟩ => CallG C Γ k (args.toList.map (s.ev C)) o.dst s K
  | op => Done o.dst s K (evalOp C op o.dst (s.ev C) s.box)

/-- A guard, or a test: both ways, if it isn't known. -/
def GuardE (y : Option (Option Bool)) (want : Bool) (A B : Prop) : Prop :=
  match y with
  | some b => (b = some want → A) ∧ (b ≠ some want → B)
  | none => False
def CondE (v : AV) (A B : Prop) : Prop :=
  match v with
  | .c (.lit (.bool b)) => (b = true → A) ∧ (b = false → B)
  | _ => False

def RunE (C : Cfg) (Γ : Ctx) (ops : Array Oper) : List Oper → St → (St → Prop) → Prop
  | [], s, K => K s
  | o :: os, s, K => match o.guard with
    | none => Exec C Γ o s fun _ s' => RunE C Γ ops os s' K
    | some (j, want) => GuardE (yieldedA ops s j) want (Exec C Γ o s fun _ s' => RunE C Γ ops os s' K) (RunE C Γ ops os (s.put o.dst (.tup [])) K)

theorem exec_ok {C : Cfg} {Γ : Ctx} (hΓ : Γ.sound C) {o : Oper} {s : St} {K : Rec → St → Prop} (h : Exec C Γ o s K) :
    ∃ rd r ups, StepOk C o s rd r ups ∧ K ⟨false, rd, r, ups⟩ ((s.upd ups).put o.dst r) := by
  obtain ⟨dst, op, ty, pos, after, guard⟩ := o
  unfold Exec at h
  split at h
  · rename_i k args ats hop
    simp only at hop
    subst hop
    obtain ⟨r, ups, hf, ht, hd, hn, hk⟩ := callG_E hΓ h
    refine ⟨[], r, ups, ⟨opOk_call hf (fun x hx vs e => ?_), hn, hd⟩, hk⟩
    rw [List.any_eq_false] at ht
    have := ht (s.ev C x) (List.mem_map.2 ⟨x, by simpa using hx, rfl⟩)
    rw [e] at this; simp [isTup] at this
  · cases he : evalOp C op dst (s.ev C) s.box with
    | none => simp only [he] at h; exact h.elim
    | some e =>
      obtain ⟨rd, r, ups⟩ := e
      simp only [he] at h
      obtain ⟨hd, hn, hk⟩ := h
      exact ⟨rd, r, ups, ⟨evalOp_ok he, hn, hd⟩, hk⟩

theorem runE_N {C : Cfg} {Γ : Ctx} (hΓ : Γ.sound C) {ops : Array Oper} {K : St → Prop} (os : List Oper) : ∀ (s : St), RunE C Γ ops os s K → RunN C ops os s K := by
  induction os with
  | nil => intro s h; exact h
  | cons o os ih =>
    intro s h
    unfold RunE at h
    unfold RunN
    cases hg : o.guard with
    | none =>
      simp only [hg] at h ⊢
      obtain ⟨rd, r, ups, st, hk⟩ := exec_ok hΓ h
      exact ⟨rd, r, ups, st, ih _ hk⟩
    | some jw =>
      obtain ⟨j, want⟩ := jw
      simp only [hg] at h ⊢
      cases hy : yieldedA ops s j with
      | none => simp only [hy, GuardE] at h
      | some b =>
      simp only [hy, GuardE] at h
      obtain ⟨h1, h2⟩ := h
      refine ⟨b, rfl, fun e => ?_, fun e => ih _ (h2 e)⟩
      obtain ⟨rd, r, ups, st, hk⟩ := exec_ok hΓ (h1 e)
      exact ⟨rd, r, ups, st, ih _ hk⟩

/-- The same, with what each did, for a region that draws its order. -/
def RunD (C : Cfg) (Γ : Ctx) (ops : Array Oper) : List Oper → St → List Rec → (List Rec → St → Prop) → Prop
  | [], s, acc, K => K acc s
  | o :: os, s, acc, K => match o.guard with
    | none => Exec C Γ o s fun rc s' => RunD C Γ ops os s' (acc ++ [rc]) K
    | some (j, want) => GuardE (yieldedA ops s j) want (Exec C Γ o s fun rc s' => RunD C Γ ops os s' (acc ++ [rc]) K) (RunD C Γ ops os (s.put o.dst (.tup [])) (acc ++ [skipRec]) K)

theorem runD_K {C : Cfg} {Γ : Ctx} (hΓ : Γ.sound C) {ops : Array Oper} {K : List Rec → St → Prop} (os : List Oper) : ∀ (s : St) (acc : List Rec), RunD C Γ ops os s acc K → RunK C ops os s acc K := by
  induction os with
  | nil => intro s acc h; exact h
  | cons o os ih =>
    intro s acc h
    unfold RunD at h
    unfold RunK
    cases hg : o.guard with
    | none =>
      simp only [hg] at h ⊢
      obtain ⟨rd, r, ups, st, hk⟩ := exec_ok hΓ h
      exact ⟨rd, r, ups, st, ih _ _ hk⟩
    | some jw =>
      obtain ⟨j, want⟩ := jw
      simp only [hg] at h ⊢
      cases hy : yieldedA ops s j with
      | none => simp only [hy, GuardE] at h
      | some b =>
      simp only [hy, GuardE] at h
      obtain ⟨h1, h2⟩ := h
      refine ⟨b, rfl, fun e => ?_, fun e => ih _ _ (h2 e)⟩
      obtain ⟨rd, r, ups, st, hk⟩ := exec_ok hΓ (h1 e)
      exact ⟨rd, r, ups, st, ih _ _ hk⟩

/-- Code by evaluation. -/
def WPe (C : Cfg) (Γ : Ctx) : Code → (Ex → St → Prop) → St → Prop
  | .skip, K, s => K .normal s
  | .region _ ops false, K, s => RunE C Γ ops ops.toList s (K .normal)
  | .region _ ops true, K, s => RunD C Γ ops ops.toList s [] fun rcs s' => orderOk ops rcs s ∧ K .normal s'
  | .seq x y, K, s => WPe C Γ x (St.goes (WPe C Γ y K) K) s
  | .cond c x y, K, s => CondE (s.ev C c) (WPe C Γ x K s) (WPe C Γ y K s)
  | .block id c, K, s => WPe C Γ c (inBlockA id K) s
  | .loop c, K, s => ∃ (Inv : Nat → St → Prop), (∃ n s0, s.le s0 ∧ Inv n s0) ∧
      ∀ n s1, Inv n s1 → WPe C Γ c (St.goes (fun s2 => ∃ n' s3, s2.le s3 ∧ Inv n' s3 ∧ n' < n) K) s1
  | .exit id, K, s => K (.exit id) s
  | .label _, K, s => K .normal s
  | .ret, K, s => K .ret s
  | _, _, _ => False

theorem least {p : Nat → Prop} (h : ∃ n, p n) : ∃ n, p n ∧ ∀ m, p m → n ≤ m := by
  obtain ⟨n, hn⟩ := h
  induction n using Nat.strongRecOn with
  | _ n ih =>
    by_cases hm : ∃ m, m < n ∧ p m
    · obtain ⟨m, h1, h2⟩ := hm; exact ih m h1 h2
    · exact ⟨n, hn, fun m h => Nat.not_lt.1 fun hl => hm ⟨m, hl, h⟩⟩
theorem leastOf (Inv : Nat → St → Prop) : ∃ f : St → Nat, ∀ s, (∃ n, Inv n s) → Inv (f s) s ∧ ∀ n, Inv n s → f s ≤ n := by
  have : ∀ s, ∃ k, (∃ n, Inv n s) → Inv k s ∧ ∀ n, Inv n s → k ≤ n := fun s => by
    by_cases h : ∃ n, Inv n s
    · obtain ⟨k, h1⟩ := least (p := fun n => Inv n s) h; exact ⟨k, fun _ => h1⟩
    · exact ⟨0, fun h' => (h h').elim⟩
  exact ⟨fun s => Classical.choose (this s), fun s h => Classical.choose_spec (this s) h⟩

theorem wpe_c {C : Cfg} {Γ : Ctx} (hΓ : Γ.sound C) (c : Code) : ∀ {K : Ex → St → Prop} {s : St}, WPe C Γ c K s → WPc C c K s := by
  induction c with
  | skip => intro K s h; exact h
  | label l => intro K s h; exact h
  | exit id => intro K s h; exact h
  | ret => intro K s h; exact h
  | region id ops draw =>
    intro K s h
    cases draw with
    | false => exact runE_N hΓ _ s h
    | true => exact runD_K hΓ _ s [] h
  | seq x y ihx ihy =>
    intro K s h
    refine WPc.mono x (fun e s' hs => ?_) (ihx h)
    cases e with
    | normal => exact ihy hs
    | exit id => exact hs
    | ret => exact hs
  | cond c x y ihx ihy =>
    intro K s h
    unfold WPe CondE at h
    split at h
    · rename_i b e; exact ⟨b, e, fun hb' => ihx (h.1 hb'), fun hb' => ihy (h.2 hb')⟩
    · exact h.elim
  | block id c ih => intro K s h; exact ih h
  | loop c ih =>
    intro K s h
    obtain ⟨Inv, ⟨n0, s0, hl, h0⟩, hr⟩ := h
    obtain ⟨f, hf⟩ := leastOf Inv
    refine ⟨fun s => ∃ n, Inv n s, f, ⟨s0, hl, n0, h0⟩, fun s1 hs => ?_⟩
    refine WPc.mono c (fun e s2 hk => ?_) (ih (hr (f s1) s1 (hf s1 hs).1))
    cases e with
    | normal =>
      obtain ⟨n', s3, h1, h2, h3⟩ := hk
      exact ⟨s3, h1, ⟨n', h2⟩, Nat.lt_of_le_of_lt ((hf s3 ⟨n', h2⟩).2 n' h2) h3⟩
    | exit id => exact hk
    | ret => exact hk
  | _ => intro K s h; exact h.elim

end Go.Ev
