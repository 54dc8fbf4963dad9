/-
  Symbolic values, part 5: code: what it comes to, by cuts at its loops.
-/
import Derived.Test.YtnhdfmnmciminaaSyOps3
namespace Go.Sy
open Go.Ev
set_option linter.unusedVariables false
set_option linter.unusedSimpArgs false

/-- What a function comes to: its result, and what the boxes hold that it was handed. -/
structure Out where
  r : SV
  bs : List SB
/-- A datum that is live at a loop's head. -/
inductive Lf where
  | i (n : Int)
  | b (b : Bool)
  | s (s : ByteArray)
  | l (l : List Int)
  | r (l : List (List D))
  | n (n : Nat)
abbrev Hd := Nat → List Lf → Option Out
/-- What a callee does, as its caller goes on. -/
abbrev SpecF := List SV → (Nat → Option SB) → (SV → List (Nat × Option SB) → Option Out) → Option Out
abbrev Env := FuncId → SpecF
def isTupS : SV → Bool
  | .tup _ => true
  | _ => false
def SpecOk (C : Cfg) (k : FuncId) (f : SpecF) : Prop := ∀ args bx K out, f args bx K = some out →
  ∃ v ups, K v ups = some out ∧ FnOkB C k (args.map SV.den) (denB bx) v.den (denU ups) ∧ ∀ x ∈ args, isTupS x = false
def EnvOk (C : Cfg) (Γ : Env) : Prop := ∀ k, SpecOk C k (Γ k)

def evS (G : Nat → Option (List Ec)) (s : SS) : Operand → SV
  | .tmp t => s.get t
  | .const v => constS v
  | .global g => match G g with
    | some es => c1 (.ept es)
    | none => c1 (.val (.pointer (some ⟨g, 0, none⟩)))
  | .func f => c1 (.val (.func (.func f) #[] #[]))
theorem evS_den {C : Cfg} {G : Nat → Option (List Ec)} (hG : ∀ g, C.G g = (G g).map denE) (s : SS) (x : Operand) : (evS G s x).den = s.den.ev C x := by
  cases x with
  | tmp t => rfl
  | const v => exact constS_den v
  | global g =>
    simp only [evS, St.ev, hG g]
    cases G g <;> rfl
  | func f => rfl

/-! ### what an operation is to do to a state -/

def noMen (s : SS) (b : Nat) (d : Option Nat) : Bool :=
  allB (fun p : Nat × SV => (match d with
    | some d => Nat.beq p.1 d
    | none => false) || !p.2.men b) s.t &&
  allB (fun p : Nat × Option SB => match p.2 with
    | some x => !x.ct.men b
    | none => true) s.b
theorem look_mem {α : Type} {d : α} {l : List (Nat × α)} {t : Nat} : look d l t = d ∨ (t, look d l t) ∈ l := by
  induction l with
  | nil => exact .inl rfl
  | cons p l ih =>
    obtain ⟨j, x⟩ := p
    simp only [look]
    cases hb : Nat.beq j t with
    | true => rw [Nat.eq_of_beq_eq_true hb]; exact .inr (by simp)
    | false =>
      rcases ih with h | h
      · exact .inl h
      · exact .inr (List.mem_cons_of_mem _ h)
theorem noMen_ok {s : SS} {b : Nat} {d : Option Nat} (h : noMen s b d = true) : NoMen s.den b d := by
  simp only [noMen, Bool.and_eq_true, allB_eq, List.all_eq_true] at h
  refine ⟨fun t ht => ?_, fun b' bx e => ?_⟩
  · show (s.get t).den.men b = false
    rw [SV.men_den]
    rcases look_mem (d := SV.one (.c .junk)) (l := s.t) (t := t) with g | g
    · unfold SS.get; rw [g]; rfl
    · have := h.1 _ g
      simp only [Bool.or_eq_true, Bool.not_eq_true'] at this
      rcases this with h1 | h1
      · cases d with
        | none => cases h1
        | some d => exact absurd (by rw [Nat.eq_of_beq_eq_true h1]) ht
      · exact h1
  · have e : (s.box b').map SB.den = some bx := e
    obtain ⟨x, hx, rfl⟩ := Option.map_eq_some_iff.1 e
    rw [SB.men_den]
    rcases look_mem (d := (none : Option SB)) (l := s.b) (t := b') with g | g
    · unfold SS.box at hx; rw [g] at hx; cases hx
    · unfold SS.box at hx
      have := h.2 _ g
      rw [hx] at this
      simpa using this
def doneOk (s : SS) (d : Option Nat) (ups : List (Nat × Option SB)) : Bool :=
  (match d with
    | some d => Nat.blt d s.n
    | none => true) &&
  allB (fun u : Nat × Option SB => match s.box u.1 with
    | some _ => true
    | none => Nat.blt u.1 s.n && noMen s u.1 d) ups
theorem wrOf_denU (ups : List (Nat × Option SB)) : wrOf (denU ups) = ups.map (·.1) := by simp [wrOf, denU]
theorem doneOk_ok {s : SS} {d : Option Nat} {ups : List (Nat × Option SB)} (h : doneOk s d ups = true) : (∀ t, d = some t → t < s.den.n) ∧ ∀ b ∈ wrOf (denU ups), s.den.box b = none → b < s.den.n ∧ NoMen s.den b d := by
  simp only [doneOk, Bool.and_eq_true, allB_eq, List.all_eq_true] at h
  refine ⟨fun t e => ?_, fun b hb e => ?_⟩
  · subst e; exact (blt_iff _ _).1 h.1
  · rw [wrOf_denU] at hb
    obtain ⟨u, hu, rfl⟩ := List.mem_map.1 hb
    have := h.2 u hu
    have e : (s.box u.1).map SB.den = none := e
    have e : s.box u.1 = none := by simpa using e
    simp only [e, Bool.and_eq_true] at this
    exact ⟨(blt_iff _ _).1 this.1, noMen_ok this.2⟩

/-! ### calls -/

def ecCl : Ec → Option Cl
  | .c k x => some (k.cl x)
  | .arr .. => none
theorem ecCl_ok : ∀ {es : List Ec} {cs : List Cl}, mapE ecCl es = some cs → (cs.map fun c => (c1 c).den) = (denE es).map .c
  | [], cs, h => by cases h; rfl
  | e :: es, cs, h => by
    unfold mapE at h
    split at h
    · rename_i c m hc hm
      cases h
      cases e with
      | c k x =>
        cases hc
        rw [List.map_cons, ecCl_ok hm, denE_cons]
        show AV.c (k.cl x).den :: _ = AV.c (k.den x) :: _
        rw [Kd.cl_den]; rfl
      | arr => cases hc
    · cases h
def calleeS : SV → Option (FuncId × List Cl × List Cl)
  | .one (.c (.val (.func (.func k) f c))) => match f.toList, c.toList with
    | [], [] => some (k, [], [])
    | _, _ => none
  | .one (.c (.clo k fs cs)) => match mapE ecCl fs, mapE ecCl cs with
    | some f, some c => some (k, f, c)
    | _, _ => none
  | _ => none
theorem calleeS_ok {v : SV} {k : FuncId} {fs cs : List Cl} (h : calleeS v = some (k, fs, cs)) : calleeA v.den = some (k, fs.map (fun c => (c1 c).den), cs.map (fun c => (c1 c).den)) := by
  unfold calleeS at h
  split at h
  · rename_i k f c
    split at h
    · rename_i hf hc
      cases h
      simp only [SV.den, S1.den, Cl.den, calleeA, hf, hc]; rfl
    · cases h
  · rename_i k f c
    split at h
    · rename_i f' c' hf hc
      cases h
      show some (k, (denE f).map AV.c, (denE c).map AV.c) = _
      rw [← ecCl_ok hf, ← ecCl_ok hc]
    · cases h
  · cases h
/-- The slice type behind each cell that may be a nil slice. -/
def cellTys (P : Program) : Nat → TypeId → List TypeId
  | 0, T => [T]
  | d + 1, T => match P.underlying T with
    | some (.struct fs) => fs.toList.flatMap fun f => cellTys P d f.type
    | some (.array n E) => match P.underlying E with
      | some (.int _) => [T]
      | _ => (List.replicate n (cellTys P d E)).flatten
    | _ => [T]
def nilCl (P : Program) (T : TypeId) : Option Cl :=
  match tySlice P T with
  | some E => match kindsOf P 8 E with
    | some ks => match isInt1 ks with
      | some k => some (.ints k [])
      | none => some (.rows ks [])
    | none => none
  | none => none
theorem nilCl_ok {P : Program} {T : TypeId} {x : Cl} (h : nilCl P T = some x) : x.den = .list 0 [] := by
  unfold nilCl at h
  split at h
  · split at h
    · split at h <;> cases h <;> rfl
    · cases h
  · cases h
def Ct.toCl : Ct → Option Cl
  | .ints k l => some (.ints k l)
  | .rows ks l => some (.rows ks l)
  | .sg _ => none
/-- A cell as a callee is handed it: the guard, the cell, the box that is published. -/
def pubCl (P : Program) (T : TypeId) (bx : Nat → Option SB) : Cl → Option (Bool × Cl × List Nat)
  | .val v => match v with
    | .slice none 0 0 => (nilCl P T).map fun x => (true, x, [])
    | v => some (true, .val v, [])
  | .sl b n z nl => match bx b with
    | some ⟨ct, _, nl'⟩ => match ct.fst n with
      | some f => match f.toCl with
        | some x => bif Nat.beq z ct.wd then some ((nl' == nl) && decide (n ≤ ct.len), x, [b]) else none
        | none => none
      | none => none
    | none => none
  | x => some (true, x, [])
theorem pubCl_ok {P : Program} {T : TypeId} {bx : Nat → Option SB} {x y : Cl} {g : Bool} {bs : List Nat} (h : pubCl P T bx x = some (g, y, bs)) (hg : g = true) : y.den = pubC (denB bx) x.den ∧ bs = slC x.den := by
  unfold pubCl at h
  split at h
  · rename_i v
    split at h
    · obtain ⟨x, hx, e⟩ := Option.map_eq_some_iff.1 h
      cases e
      exact ⟨nilCl_ok hx, rfl⟩
    · rename_i hv
      cases h
      refine ⟨?_, rfl⟩
      show AC.lit v = litP v
      unfold litP
      split
      · exact (hv rfl).elim
      · rfl
  · rename_i b n z nl
    split at h
    · rename_i ct pub nl' hb
      split at h
      · rename_i f hf
        split at h
        · rename_i x hx
          obtain ⟨h1, h2⟩ := bif_some h
          cases h2
          have := Nat.eq_of_beq_eq_true h1
          subst this
          simp only [Bool.and_eq_true, beq_iff_eq, decide_eq_true_eq] at hg
          obtain ⟨rfl, hn⟩ := hg
          refine ⟨?_, rfl⟩
          have hb' : denB bx b = some (SB.den ⟨ct, pub, nl'⟩) := by simp [denB, hb]
          have hp : ct.den.all (·.pure) = true := by
            rw [Ct.pure_den]
            unfold Ct.fst at hf
            split at hf <;> first | rfl | cases hf
          show _ = pubC (denB bx) (.sl b n ct.wd nl')
          unfold pubC
          simp only [hb']
          rw [if_pos ⟨rfl, by show _ ≤ ct.den.length; rw [Ct.den_len hf]; exact Nat.mul_le_mul_right _ hn, hp⟩]
          show _ = AC.list n (ct.den.take _)
          rw [← Ct.fst_ok hf]
          unfold Ct.fst at hf
          split at hf
          · cases hf
            cases hx
            simp only [Cl.den, Ct.den, List.length_take]
            simp only [Ct.len] at hn
            rw [Nat.min_eq_left hn]
          · cases hf
            cases hx
            simp only [Cl.den, Ct.den, List.length_take]
            simp only [Ct.len] at hn
            rw [Nat.min_eq_left hn]
          · cases hf
        · cases h
      · cases h
    · cases h
  · rename_i hv hs
    cases h
    cases x <;> first | exact ⟨rfl, rfl⟩ | exact (hv _ rfl).elim | exact (hs _ _ _ _ rfl).elim
def pubSg (P : Program) (bx : Nat → Option SB) : List TypeId → List Sg → Option (Bool × List Sg × List Nat)
  | _, [] => some (true, [], [])
  | ts, .arr k n l :: r => match pubSg P bx ts.tail r with
    | some (g, m, bs) => some (g, .arr k n l :: m, bs)
    | none => none
  | ts, .c x :: r => match pubCl P (ts.headD 0) bx x, pubSg P bx ts.tail r with
    | some (g, y, bs), some (g', m, bs') => some (g && g', .c y :: m, bs ++ bs')
    | _, _ => none
theorem pubSg_ok {P : Program} {bx : Nat → Option SB} : ∀ {ts : List TypeId} {l m : List Sg} {g : Bool} {bs : List Nat}, pubSg P bx ts l = some (g, m, bs) → g = true → denS m = (denS l).map (pubC (denB bx)) ∧ bs = (denS l).flatMap slC
  | ts, [], m, g, bs, h, _ => by
    simp only [pubSg, Option.some.injEq, Prod.mk.injEq] at h
    obtain ⟨_, rfl, rfl⟩ := h
    exact ⟨rfl, rfl⟩
  | ts, .arr k n l :: r, m, g, bs, h, hg => by
    unfold pubSg at h
    split at h
    · rename_i g' m' bs' hr
      cases h
      obtain ⟨h1, h2⟩ := pubSg_ok hr hg
      rw [denS_cons, denS_cons, List.map_append, ← h1, List.flatMap_append, ← h2]
      have e1 : (arrL k n l).map (pubC (denB bx)) = arrL k n l := by simp [arrL, pubC, litP]
      have e2 : (arrL k n l).flatMap slC = [] := by simp [arrL, slC]
      show arrL k n l ++ _ = (arrL k n l).map _ ++ _ ∧ _ = (arrL k n l).flatMap slC ++ _
      rw [e1, e2]; exact ⟨rfl, rfl⟩
    · cases h
  | ts, .c x :: r, m, g, bs, h, hg => by
    unfold pubSg at h
    split at h
    · rename_i g1 y bs1 g2 m' bs2 hx hr
      cases h
      simp only [Bool.and_eq_true] at hg
      obtain ⟨h1, h2⟩ := pubSg_ok hr hg.2
      obtain ⟨h3, h4⟩ := pubCl_ok hx hg.1
      rw [denS_cons, denS_cons, List.map_append, ← h1, List.flatMap_append, ← h2]
      refine ⟨?_, ?_⟩
      · show [y.den] ++ _ = [pubC _ x.den] ++ _
        rw [h3]
      · show bs1 ++ _ = [x.den].flatMap slC ++ _
        rw [h4]; simp
    · cases h
def pub1 (P : Program) (T : TypeId) (bx : Nat → Option SB) : SV → Option (Bool × SV × List Nat)
  | .one (.c x) => match pubCl P T bx x with
    | some (g, y, bs) => some (g, .one (.c y), bs)
    | none => none
  | .one (.agg l) => match pubSg P bx (cellTys P 8 T) l with
    | some (g, m, bs) => some (g, .one (.agg m), bs)
    | none => none
  | .tup _ => none
theorem pub1_ok {P : Program} {T : TypeId} {bx : Nat → Option SB} {x y : SV} {g : Bool} {bs : List Nat} (h : pub1 P T bx x = some (g, y, bs)) (hg : g = true) :
    y.den = pubA (denB bx) x.den ∧ bs = slA x.den ∧ (∀ vs, x.den ≠ .tup vs) := by
  unfold pub1 at h
  split at h
  · split at h
    · rename_i hx
      cases h
      obtain ⟨h1, h2⟩ := pubCl_ok hx hg
      exact ⟨by show AV.c _ = AV.c _; rw [h1], h2, by intro vs e; cases e⟩
    · cases h
  · split at h
    · rename_i hx
      cases h
      obtain ⟨h1, h2⟩ := pubSg_ok hx hg
      exact ⟨by show AV.agg _ = AV.agg _; rw [h1], h2, by intro vs e; cases e⟩
    · cases h
  · cases h
def pubAll (P : Program) (bx : Nat → Option SB) : List TypeId → List SV → Option (Bool × List SV × List Nat)
  | _, [] => some (true, [], [])
  | ts, x :: xs => match pub1 P (ts.headD 0) bx x, pubAll P bx ts.tail xs with
    | some (g, y, bs), some (g', ys, bs') => some (g && g', y :: ys, bs ++ bs')
    | _, _ => none
theorem pubAll_ok {P : Program} {bx : Nat → Option SB} : ∀ {ts : List TypeId} {xs ys : List SV} {g : Bool} {bs : List Nat}, pubAll P bx ts xs = some (g, ys, bs) → g = true →
    ys.map SV.den = (xs.map SV.den).map (pubA (denB bx)) ∧ bs = (xs.map SV.den).flatMap slA ∧ ∀ x ∈ xs, ∀ vs, x.den ≠ .tup vs
  | ts, [], ys, g, bs, h, _ => by
    simp only [pubAll, Option.some.injEq, Prod.mk.injEq] at h
    obtain ⟨_, rfl, rfl⟩ := h
    exact ⟨rfl, rfl, by simp⟩
  | ts, x :: xs, ys, g, bs, h, hg => by
    unfold pubAll at h
    split at h
    · rename_i g1 y bs1 g2 ys' bs2 hx hr
      cases h
      simp only [Bool.and_eq_true] at hg
      obtain ⟨h1, h2, h3⟩ := pubAll_ok hr hg.2
      obtain ⟨h4, h5, h6⟩ := pub1_ok hx hg.1
      refine ⟨by simp only [List.map_cons, h1, h4], by simp only [List.map_cons, List.flatMap_cons, ← h2, ← h5], fun z hz => ?_⟩
      rcases List.mem_cons.1 hz with rfl | hz
      · exact h6
      · exact h3 z hz
    · cases h
def pubSB (b : SB) : SB := match b.ct with
  | .sg l => ⟨.sg l, lenS l, b.nl⟩
  | ct => ⟨ct, ct.len * ct.wd, b.nl⟩
theorem pubSB_den (b : SB) : (pubSB b).den = Ev.pubB b.den := by
  obtain ⟨ct, pub, nl⟩ := b
  cases ct with
  | sg l => show Box.mk (denS l) (lenS l) nl false = Box.mk (denS l) (denS l).length nl false; rw [lenS_ok]
  | ints k l => show Box.mk (IL k l) (l.length * 1) nl false = Box.mk (IL k l) (IL k l).length nl false; rw [IL_length, Nat.mul_one]
  | rows ks l => show Box.mk (rowsL ks l) (l.length * lenL ks) nl false = Box.mk (rowsL ks l) (rowsL ks l).length nl false; rw [rowsL_length, lenL_eq]
def pubUps (bx : Nat → Option SB) : List Nat → List (Nat × Option SB)
  | [] => []
  | b :: bs => (b, (bx b).map pubSB) :: pubUps bx bs
theorem pubUps_den (bx : Nat → Option SB) (bs : List Nat) : denU (pubUps bx bs) = upsOf (denB bx) bs := by
  induction bs with
  | nil => rfl
  | cons b bs ih =>
    show (b, ((bx b).map pubSB).map SB.den) :: denU (pubUps bx bs) = (b, ((bx b).map SB.den).map Ev.pubB) :: upsOf (denB bx) bs
    rw [ih]
    congr 2
    cases bx b with
    | none => rfl
    | some x => simp [pubSB_den]
def noneOf (ups : List (Nat × Option SB)) (bs : List Nat) : Bool := allB (fun u : Nat × Option SB => allB (fun b => !Nat.beq u.1 b) bs) ups
theorem noneOf_ok {ups : List (Nat × Option SB)} {bs : List Nat} (h : noneOf ups bs = true) : ∀ b ∈ wrOf (denU ups), b ∉ bs := by
  intro b hb hb'
  rw [wrOf_denU] at hb
  obtain ⟨u, hu, rfl⟩ := List.mem_map.1 hb
  simp only [noneOf, allB_eq, List.all_eq_true] at h
  have := h u hu u.1 hb'
  simp at this

structure SRec where
  skip : Bool
  rd : List Nat
  r : SV
  ups : List (Nat × Option SB)
def SRec.den (x : SRec) : Rec := ⟨x.skip, x.rd, x.r.den, denU x.ups⟩
def skipS : SRec := ⟨true, [], .tup [], []⟩
theorem skipS_den : skipS.den = skipRec := rfl

/-- Where a program lies, what its variables hold, what its functions do, what is live at loops' heads. -/
structure Ev' where
  P : Program
  G : Nat → Option (List Ec)
  Γ : Env

def exeC (e : Ev') (f : SV) (args : List SV) (ats : List TypeId) (d : Option Nat) (s : SS) (K : SRec → SS → Option Out) : Option Out :=
  match calleeS f with
  | some (k, fs, cs) => match pubAll e.P s.box ats args with
    | some (g, as, bs) => bif g then e.Γ k (fs.map c1 ++ as ++ cs.map c1) s.box (fun r ups =>
        bif noneOf ups bs && doneOk s d (pubUps s.box bs ++ ups) then K ⟨false, [], r, pubUps s.box bs ++ ups⟩ ((s.upd (pubUps s.box bs ++ ups)).put d r) else none) else none
    | none => none
  | none => none
def exeO (r : Option Res) (d : Option Nat) (s : SS) (K : SRec → SS → Option Out) : Option Out :=
  match r with
  | some ⟨g, rd, r, ups⟩ => bif doneOk s d ups then (bif g then K ⟨false, rd, r, ups⟩ ((s.upd ups).put d r) else none) else none
  | none => none
def exeS (e : Ev') (o : Oper) (s : SS) (K : SRec → SS → Option Out) : Option Out :=
  match o.op with
  | .call ⟨.value f, args, ats⟩ => exeC e (evS e.G s f) (opsS (evS e.G s) args.toList) ats.toList o.dst s K
  | op => exeO (sOp e.P op o.dst (evS e.G s) s.box) o.dst s K

structure Gd (C : Cfg) (e : Ev') : Prop where
  p : C.P = e.P
  g : ∀ g, C.G g = (e.G g).map denE
  Γ : EnvOk C e.Γ

theorem denU_append (a b : List (Nat × Option SB)) : denU (a ++ b) = denU a ++ denU b := by simp [denU]
theorem exeS_ok {C : Cfg} {e : Ev'} (hc : Gd C e) {o : Oper} {s : SS} {K : SRec → SS → Option Out} {out : Out} (h : exeS e o s K = some out) :
    ∃ rc : SRec, rc.skip = false ∧ StepOk C o s.den rc.rd rc.r.den (denU rc.ups) ∧ K rc ((s.upd rc.ups).put o.dst rc.r) = some out := by
  obtain ⟨dst, op, ty, pos, after, guard⟩ := o
  have hρ : ∀ x, denR (evS e.G s) x = s.den.ev C x := fun x => evS_den hc.g s x
  have hρ' : denR (evS e.G s) = s.den.ev C := funext hρ
  have hb : denB s.box = s.den.box := rfl
  unfold exeS at h
  split at h
  · rename_i f args ats hop
    simp only at hop
    subst hop
    unfold exeC at h
    split at h
    · rename_i k fs cs hf
      split at h
      · rename_i g as bs hp
        obtain ⟨rfl, h⟩ := bif_some h
        obtain ⟨v, ups, hk, hfn, _⟩ := hc.Γ k _ _ _ _ h
        obtain ⟨h1, h2⟩ := bif_some hk
        simp only [Bool.and_eq_true] at h1
        obtain ⟨d1, d2⟩ := doneOk_ok h1.2
        obtain ⟨p1, p2, p3⟩ := pubAll_ok hp rfl
        refine ⟨_, rfl, ⟨?_, fun b hb' e' => (d2 b hb' e').2, d1, fun b hb' e' => (d2 b hb' e').1⟩, h2⟩
        have hcal := calleeS_ok hf
        have e1 : (opsS (evS e.G s) args.toList).map SV.den = args.toList.map (s.den.ev C) := by
          rw [opsS_eq, List.map_map, ← hρ']; rfl
        rw [e1] at p1 p2
        show OpOk C _ (s.den.ev C) [] s.den.box v.den (denU (pubUps s.box bs ++ ups))
        rw [denU_append, pubUps_den]
        refine opOk_callP (fs := fs.map fun c => (c1 c).den) (cs := cs.map fun c => (c1 c).den) (by rw [← hρ' ]; exact hcal) ?_ (fun x hx vs e' => ?_) p2 (noneOf_ok h1.1)
        · rw [List.map_append, List.map_append, p1, List.map_map (l := fs), List.map_map (l := cs)] at hfn
          exact hfn
        · rw [← hρ] at e'
          exact p3 (evS e.G s x) (by rw [opsS_eq]; exact List.mem_map.2 ⟨x, by simpa using hx, rfl⟩) vs e'
      · cases h
    · cases h
  · unfold exeO at h
    split at h
    · rename_i g rd r ups hr
      obtain ⟨h1, h2⟩ := bif_some h
      obtain ⟨rfl, h3⟩ := bif_some h2
      obtain ⟨d1, d2⟩ := doneOk_ok h1
      have hk : sOp C.P op dst (evS e.G s) s.box = some ⟨true, rd, r, ups⟩ := by rw [hc.p]; exact hr
      have := sOp_ok (C := C) (ty := ty) (pos := pos) (after := after) (guard := guard) hk rfl
      rw [hρ'] at this
      exact ⟨⟨false, rd, r, ups⟩, rfl, ⟨this, fun b hb' e' => (d2 b hb' e').2, d1, fun b hb' e' => (d2 b hb' e').1⟩, h3⟩
    · cases h

/-! ### regions -/

def dstOf (ops : List Oper) (j : Nat) : Option Nat := match nthS ops j with
  | some o => o.dst
  | none => none
def yldS (ops : Array Oper) (s : SS) (j : Nat) : Option (Option Bool) :=
  match dstOf ops.toList j with
  | some t => match s.get t with
    | .one (.c (.bool b)) => some (some b)
    | .tup _ => some none
    | _ => none
  | none => none
theorem yldS_ok {ops : Array Oper} {s : SS} {j : Nat} {y : Option Bool} (h : yldS ops s j = some y) : yieldedA ops s.den j = some y := by
  unfold yldS at h
  have e : (ops[j]?).bind (·.dst) = dstOf ops.toList j := by
    unfold dstOf
    rw [nthS_eq, Array.getElem?_toList]
    cases ops[j]? <;> rfl
  unfold yieldedA
  rw [e]
  split at h
  · rename_i t ht
    rw [ht]
    show (match some (s.get t).den with
      | some (.c (.lit (.bool b))) => some (some b)
      | some (.tup _) => some none
      | _ => none) = _
    split at h
    · rename_i b hb; rw [hb]; exact h
    · rename_i l hl; rw [hl]; exact h
    · cases h
  · cases h
/-- In the state a truth value is known. -/
def know (s : SS) (t : Option Nat) (v : Bool) : SS := match t with
  | some t => ⟨s.n, (t, c1 (.bool v)) :: s.t, s.b⟩
  | none => s
theorem know_den {s : SS} {t : Nat} {b v : Bool} (h : s.get t = c1 (.bool b)) (e : b = v) : (know s (some t) v).den = s.den := by
  subst e
  have : (know s (some t) b).den = s.den.put (some t) (c1 (.bool b)).den := den_put s (some t) (c1 (.bool b))
  rw [this]
  simp only [St.put, SS.den]
  congr 1
  funext u
  by_cases hu : u = t
  · subst hu; rw [if_pos rfl, h]
  · rw [if_neg hu]
def runS (e : Ev') (ops : Array Oper) : List Oper → SS → (SS → Option Out) → Option Out
  | [], s, K => K s
  | o :: os, s, K => match o.guard with
    | none => exeS e o s fun _ s' => runS e ops os s' K
    | some (j, want) => match yldS ops s j with
      | some (some b) => match want with
        | true => bif b then (exeS e o (know s (dstOf ops.toList j) true) fun _ s' => runS e ops os s' K) else runS e ops os ((know s (dstOf ops.toList j) false).put o.dst (.tup [])) K
        | false => bif b then runS e ops os ((know s (dstOf ops.toList j) true).put o.dst (.tup [])) K else (exeS e o (know s (dstOf ops.toList j) false) fun _ s' => runS e ops os s' K)
      | some none => runS e ops os (s.put o.dst (.tup [])) K
      | none => none
theorem bif_or {α : Type} {c : Bool} {x y : Option α} {z : α} (h : (bif c then x else y) = some z) : (c = true ∧ x = some z) ∨ (c = false ∧ y = some z) := by
  cases c with
  | true => exact .inl ⟨rfl, h⟩
  | false => exact .inr ⟨rfl, h⟩
theorem yldS_get {ops : Array Oper} {s : SS} {j : Nat} {b : Bool} (h : yldS ops s j = some (some b)) : ∃ t, dstOf ops.toList j = some t ∧ s.get t = c1 (.bool b) := by
  unfold yldS at h
  split at h
  · rename_i t ht
    split at h
    · rename_i b' hb; cases h; exact ⟨t, ht, hb⟩
    · cases h
    · cases h
  · cases h
theorem runS_ok {C : Cfg} {e : Ev'} (hc : Gd C e) {ops : Array Oper} {K : SS → Option Out} {Kp : St → Prop} {out : Out} (hk : ∀ s, K s = some out → Kp s.den) :
    ∀ (os : List Oper) (s : SS), runS e ops os s K = some out → RunN C ops os s.den Kp := by
  intro os
  induction os with
  | nil => intro s h; exact hk s h
  | cons o os ih =>
    intro s h
    unfold runS at h
    unfold RunN
    have go : ∀ s : SS, exeS e o s (fun _ s' => runS e ops os s' K) = some out → ∃ rd r ups, StepOk C o s.den rd r ups ∧ RunN C ops os ((s.den.upd ups).put o.dst r) Kp := by
      intro s h
      obtain ⟨rc, _, st, hr⟩ := exeS_ok hc h
      refine ⟨_, _, _, st, ?_⟩
      have := ih _ hr
      rw [den_put, den_upd] at this; exact this
    have skip : ∀ s : SS, runS e ops os (s.put o.dst (.tup [])) K = some out → RunN C ops os (s.den.put o.dst (.tup [])) Kp := by
      intro s h
      have := ih _ h
      rw [den_put] at this; exact this
    cases hg : o.guard with
    | none => simp only [hg] at h ⊢; exact go s h
    | some jw =>
      obtain ⟨j, want⟩ := jw
      simp only [hg] at h ⊢
      split at h
      · rename_i b hy
        obtain ⟨t, ht, hget⟩ := yldS_get hy
        rw [ht] at h
        refine ⟨_, yldS_ok hy, fun e' => ?_, fun e' => ?_⟩
        · cases e'
          cases want with
          | true => have := go _ h; rw [know_den hget rfl] at this; exact this
          | false => have := go _ h; rw [know_den hget rfl] at this; exact this
        · cases want with
          | true => cases b with
            | true => exact absurd rfl e'
            | false => have := skip _ h; rw [know_den hget rfl] at this; exact this
          | false => cases b with
            | true => have := skip _ h; rw [know_den hget rfl] at this; exact this
            | false => exact absurd rfl e'
      · rename_i hy
        exact ⟨_, yldS_ok hy, fun e' => (by cases e'), fun _ => skip s h⟩
      · cases h
def runD (e : Ev') (ops : Array Oper) : List Oper → SS → List SRec → (List SRec → SS → Option Out) → Option Out
  | [], s, acc, K => K acc s
  | o :: os, s, acc, K => match o.guard with
    | none => exeS e o s fun rc s' => runD e ops os s' (acc ++ [rc]) K
    | some (j, want) => match yldS ops s j with
      | some (some b) => match want with
        | true => bif b then (exeS e o (know s (dstOf ops.toList j) true) fun rc s' => runD e ops os s' (acc ++ [rc]) K) else runD e ops os ((know s (dstOf ops.toList j) false).put o.dst (.tup [])) (acc ++ [skipS]) K
        | false => bif b then runD e ops os ((know s (dstOf ops.toList j) true).put o.dst (.tup [])) (acc ++ [skipS]) K else (exeS e o (know s (dstOf ops.toList j) false) fun rc s' => runD e ops os s' (acc ++ [rc]) K)
      | some none => runD e ops os (s.put o.dst (.tup [])) (acc ++ [skipS]) K
      | none => none
theorem runD_ok {C : Cfg} {e : Ev'} (hc : Gd C e) {ops : Array Oper} {K : List SRec → SS → Option Out} {Kp : List Rec → St → Prop} {out : Out} (hk : ∀ l s, K l s = some out → Kp (l.map SRec.den) s.den) :
    ∀ (os : List Oper) (s : SS) (acc : List SRec), runD e ops os s acc K = some out → RunK C ops os s.den (acc.map SRec.den) Kp := by
  intro os
  induction os with
  | nil => intro s acc h; exact hk acc s h
  | cons o os ih =>
    intro s acc h
    unfold runD at h
    unfold RunK
    have go : ∀ s : SS, exeS e o s (fun rc s' => runD e ops os s' (acc ++ [rc]) K) = some out → ∃ rd r ups, StepOk C o s.den rd r ups ∧ RunK C ops os ((s.den.upd ups).put o.dst r) (acc.map SRec.den ++ [⟨false, rd, r, ups⟩]) Kp := by
      intro s h
      obtain ⟨rc, hs, st, hr⟩ := exeS_ok hc h
      refine ⟨_, _, _, st, ?_⟩
      have := ih _ _ hr
      rw [den_put, den_upd, List.map_append] at this
      have e2 : [rc].map SRec.den = [⟨false, rc.rd, rc.r.den, denU rc.ups⟩] := by simp [SRec.den, hs]
      rw [e2] at this; exact this
    have skip : ∀ s : SS, runD e ops os (s.put o.dst (.tup [])) (acc ++ [skipS]) K = some out → RunK C ops os (s.den.put o.dst (.tup [])) (acc.map SRec.den ++ [skipRec]) Kp := by
      intro s h
      have := ih _ _ h
      rw [den_put, List.map_append] at this; exact this
    cases hg : o.guard with
    | none => simp only [hg] at h ⊢; exact go s h
    | some jw =>
      obtain ⟨j, want⟩ := jw
      simp only [hg] at h ⊢
      split at h
      · rename_i b hy
        obtain ⟨t, ht, hget⟩ := yldS_get hy
        rw [ht] at h
        refine ⟨_, yldS_ok hy, fun e' => ?_, fun e' => ?_⟩
        · cases e'
          cases want with
          | true => have := go _ h; rw [know_den hget rfl] at this; exact this
          | false => have := go _ h; rw [know_den hget rfl] at this; exact this
        · cases want with
          | true => cases b with
            | true => exact absurd rfl e'
            | false => have := skip _ h; rw [know_den hget rfl] at this; exact this
          | false => cases b with
            | true => have := skip _ h; rw [know_den hget rfl] at this; exact this
            | false => exact absurd rfl e'
      · rename_i hy
        exact ⟨_, yldS_ok hy, fun e' => (by cases e'), fun _ => skip s h⟩
      · cases h

/-! ### any order -/

def menRS (b : Nat) (x : SRec) : Bool := x.r.men b || anyB (fun u : Nat × Option SB => match u.2 with
  | some bx => bx.ct.men b
  | none => false) x.ups
theorem menRS_den (b : Nat) (x : SRec) : menR b x.den = menRS b x := by
  unfold menR menRS
  rw [anyB_eq]
  show (x.r.den.men b || (denU x.ups).any _) = _
  rw [SV.men_den]
  congr 1
  induction x.ups with
  | nil => rfl
  | cons u ups ih =>
    rw [show denU (u :: ups) = (u.1, u.2.map SB.den) :: denU ups from rfl, List.any_cons, List.any_cons, ih]
    congr 1
    cases hu : u.2 with
    | none => rfl
    | some bx => simp [SB.men_den]
def wrS (x : SRec) : List Nat := x.ups.map (·.1)
def postNone (x : SRec) (b : Nat) : Bool := match look none x.ups b with
  | some _ => false
  | none => true
theorem lookup_look {ups : List (Nat × Option SB)} {b : Nat} : postOf (denU ups) b = (look none ups b).map SB.den := by
  unfold postOf
  induction ups with
  | nil => rfl
  | cons u ups ih =>
    obtain ⟨c, x⟩ := u
    show ((List.lookup b ((c, x.map SB.den) :: denU ups))).getD none = _
    simp only [List.lookup, look]
    by_cases h : b = c
    · subst h; simp
    · have h1 : (b == c) = false := by simpa using h
      have h2 : Nat.beq c b = false := by
        cases hb : Nat.beq c b with
        | false => rfl
        | true => exact absurd (Nat.eq_of_beq_eq_true hb).symm h
      rw [h1, h2]; exact ih
def newS (rcs : List SRec) (s0 : SS) (i : Nat) : List Nat :=
  (wrS (rcs.getD i skipS)).filter fun b => (isNone (s0.box b) && !((List.range i).any fun j => (wrS (rcs.getD j skipS)).contains b)) || rcs.any fun rc => (wrS rc).contains b && postNone rc b
theorem getD_den (rcs : List SRec) (i : Nat) : (rcs.map SRec.den).getD i skipRec = (rcs.getD i skipS).den := by
  simp only [List.getD_eq_getElem?_getD, List.getElem?_map]
  cases rcs[i]? <;> rfl
theorem wrS_den (x : SRec) : wrOf x.den.ups = wrS x := wrOf_denU x.ups
theorem newS_den (rcs : List SRec) (s0 : SS) (i : Nat) : newOf (rcs.map SRec.den) s0.den i = newS rcs s0 i := by
  unfold newOf newS
  rw [getD_den, wrS_den]
  congr 1
  funext b
  congr 1
  · congr 1
    · show ((s0.box b).map SB.den).isNone = _
      cases s0.box b <;> rfl
    · congr 1
      congr 1
      funext j
      rw [getD_den, wrS_den]
  · rw [List.any_map]
    congr 1
    funext rc
    show ((wrOf rc.den.ups).contains b && (postOf (denU rc.ups) b).isNone) = _
    rw [wrS_den, lookup_look]
    congr 1
    unfold postNone
    cases look none rc.ups b <;> rfl
def indepS (ops : Array Oper) (o p : Oper) (x y : SRec) : Bool :=
  disj o.dst.toList (p.dst.toList ++ looks ops p) && disj p.dst.toList (looks ops o) && disj (wrS x) (wrS y ++ y.rd) && disj (wrS y) x.rd
theorem indepS_den (ops : Array Oper) (o p : Oper) (x y : SRec) : indep ops o p x.den y.den = indepS ops o p x y := by
  unfold indep indepS
  rw [wrS_den, wrS_den]; rfl
def pairS (ops : Array Oper) (rcs : List SRec) (s0 : SS) (ms : List Nat) (i j : Nat) : Bool := match nthS ops.toList i, nthS ops.toList j with
  | some o, some p => (if i < j then (ms.getD j 0).testBit i || indepS ops o p (rcs.getD i skipS) (rcs.getD j skipS) else true) &&
      (Nat.beq i j || (ms.getD j 0).testBit i || (newS rcs s0 i).all fun b => !menRS b (rcs.getD j skipS))
  | _, _ => true
def orderS (ops : Array Oper) (rcs : List SRec) (s0 : SS) : Bool :=
  edgesOk ops && ((List.range ops.size).all fun i => (List.range ops.size).all fun j => pairS ops rcs s0 (masks ops.toList []) i j) &&
  ((List.range ops.size).all fun i => (newS rcs s0 i).all fun b => noMen s0 b (dstOf ops.toList i))
theorem orderS_ok {ops : Array Oper} {rcs : List SRec} {s0 : SS} (h : orderS ops rcs s0 = true) : orderOk ops (rcs.map SRec.den) s0.den := by
  simp only [orderS, Bool.and_eq_true, List.all_eq_true, List.mem_range] at h
  obtain ⟨⟨h1, h2⟩, h3⟩ := h
  refine ⟨?_, fun i o ho b hb => ?_⟩
  · simp only [pairsOk, Bool.and_eq_true, List.all_eq_true, List.mem_range]
    refine ⟨h1, fun i hi j hj => ?_⟩
    have := h2 i hi j hj
    unfold pairS at this
    unfold pairOk
    rw [nthS_eq, nthS_eq, Array.getElem?_toList, Array.getElem?_toList] at this
    cases ho : ops[i]? with
    | none => rfl
    | some o =>
      cases hp : ops[j]? with
      | none => rfl
      | some p =>
        simp only [ho, hp] at this ⊢
        rw [getD_den, getD_den, indepS_den, newS_den]
        simp only [menRS_den]
        rw [beq_nat] at this
        exact this
  · have hi : i < ops.size := by
      rcases Nat.lt_or_ge i ops.size with h | h
      · exact h
      · rw [Array.getElem?_eq_none h] at ho; cases ho
    rw [newS_den] at hb
    have := h3 i hi b hb
    have e : dstOf ops.toList i = o.dst := by
      unfold dstOf
      rw [nthS_eq, Array.getElem?_toList, ho]
    rw [e] at this
    exact noMen_ok this
end Go.Sy
