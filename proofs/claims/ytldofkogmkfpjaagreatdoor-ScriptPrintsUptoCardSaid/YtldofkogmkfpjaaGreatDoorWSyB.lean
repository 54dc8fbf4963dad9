/-
  Symbolic values, part 5: code: what it comes to, by cuts at its loops.
-/
import Derived.Test.YtldofkogmkfpjaaGreatDoorWSyA
import Derived.Test.YtldofkogmkfpjaaGreatDoorWEvB
import Derived.KernelRfl
import Derived.Below
import Derived.Lib.SmallJoins
import Derived.Laws.Externs
import Derived.Test.YtldofkogmkfpjaaGreatDoorWEvC
import Derived.ProofKit
import Derived.OpenShut
import Derived.ShutString
import Derived.Carry
import Derived.SizedLaws
import Derived.LaidMore
import Derived.LaidSub
import Derived.MakeChecks
import Derived.Lib.LaidTab
import Derived.Deep.DeepHandedRow
namespace Go.Sy
open Go.Ev
set_option linter.unusedVariables false
set_option linter.unusedSimpArgs false

/-- What a function comes to: its result, and what the boxes hold that it was handed. -/
structure Out where
  r : SV
  bs : List SB
/-- A datum that is live at a loop's head. -/
inductive Lf where
  | i (n : Int)
  | b (b : Bool)
  | s (s : ByteArray)
  | l (l : List Int)
  | r (l : List (List D))
  | n (n : Nat)
  | m (l : List (Int × Int))
abbrev Hd := Nat → List Lf → Option Out
/-- What a callee does, as its caller goes on. -/
abbrev SpecF := List SV → (Nat → Option SB) → (SV → List (Nat × Option SB) → Option Out) → Option Out
abbrev Env := FuncId → SpecF
def isTupS : SV → Bool
  | .tup _ => true
  | _ => false
def scal : SV → Bool
  | .one (.c (.int _ _)) => true
  | .one (.c (.bool _)) => true
  | .one (.c (.str _)) => true
  | _ => false
def litV : SV → Value
  | .one (.c (.int k n)) => .int k n
  | .one (.c (.bool b)) => .bool b
  | .one (.c (.str s)) => .string s
  | _ => .bool false
/-- What a function without a Go body does, that only computes on numbers and texts. -/
def ExtOk (C : Cfg) (k : FuncId) (args : List SV) (r : SV) : Prop :=
  allB scal args = true ∧ ∃ rv, (∀ w, (callFunc k (args.map litV).toArray).run C.P w = .ok (.value rv) w) ∧ ∀ μ M, RepV C μ M r.den rv
def SpecOk (C : Cfg) (k : FuncId) (f : SpecF) : Prop := ∀ args bx K out, f args bx K = some out →
  ∃ v ups, K v ups = some out ∧ (FnOkB C k (args.map SV.den) (denB bx) v.den (denU ups) ∨ (ups = [] ∧ ExtOk C k args v)) ∧ ∀ x ∈ args, isTupS x = false
def EnvOk (C : Cfg) (Γ : Env) : Prop := ∀ k, SpecOk C k (Γ k)

def evS (G : Nat → Option (List Ec)) (s : SS) : Operand → SV
  | .tmp t => s.get t
  | .const v => constS v
  | .global g => match G g with
    | some es => c1 (.ept es)
    | none => c1 (.val (.pointer (some ⟨g, 0, none⟩)))
  | .func f => c1 (.clo f [] [])
theorem evS_den {C : Cfg} {G : Nat → Option (List Ec)} (hG : ∀ g, C.G g = (G g).map denE) (s : SS) (x : Operand) : (evS G s x).den = s.den.ev C x := by
  cases x with
  | tmp t => rfl
  | const v => exact constS_den v
  | global g =>
    simp only [evS, St.ev, hG g]
    cases G g <;> rfl
  | func f => rfl

/-! ### what an operation is to do to a state -/

def noMen (s : SS) (b : Nat) (d : Option Nat) : Bool :=
  allB (fun p : Nat × SV => (match d with
    | some d => Nat.beq p.1 d
    | none => false) || !p.2.men b) s.t &&
  allB (fun p : Nat × Option SB => match p.2 with
    | some x => !x.ct.men b
    | none => true) s.b
theorem look_mem {α : Type} {d : α} {l : List (Nat × α)} {t : Nat} : look d l t = d ∨ (t, look d l t) ∈ l := by
  induction l with
  | nil => exact .inl rfl
  | cons p l ih =>
    obtain ⟨j, x⟩ := p
    simp only [look]
    cases hb : Nat.beq j t with
    | true => rw [Nat.eq_of_beq_eq_true hb]; exact .inr (by simp)
    | false =>
      rcases ih with h | h
      · exact .inl h
      · exact .inr (List.mem_cons_of_mem _ h)
theorem noMen_ok {s : SS} {b : Nat} {d : Option Nat} (h : noMen s b d = true) : NoMen s.den b d := by
  simp only [noMen, Bool.and_eq_true, allB_eq, List.all_eq_true] at h
  refine ⟨fun t ht => ?_, fun b' bx e => ?_⟩
  · show (s.get t).den.men b = false
    rw [SV.men_den]
    rcases look_mem (d := SV.one (.c .junk)) (l := s.t) (t := t) with g | g
    · unfold SS.get; rw [g]; rfl
    · have := h.1 _ g
      simp only [Bool.or_eq_true, Bool.not_eq_true'] at this
      rcases this with h1 | h1
      · cases d with
        | none => cases h1
        | some d => exact absurd (by rw [Nat.eq_of_beq_eq_true h1]) ht
      · exact h1
  · have e : (s.box b').map SB.den = some bx := e
    obtain ⟨x, hx, rfl⟩ := Option.map_eq_some_iff.1 e
    rw [SB.men_den]
    rcases look_mem (d := (none : Option SB)) (l := s.b) (t := b') with g | g
    · unfold SS.box at hx; rw [g] at hx; cases hx
    · unfold SS.box at hx
      have := h.2 _ g
      rw [hx] at this
      simpa using this
def doneOk (s : SS) (d : Option Nat) (ups : List (Nat × Option SB)) : Bool :=
  (match d with
    | some d => Nat.blt d s.n
    | none => true) &&
  allB (fun u : Nat × Option SB => match s.box u.1 with
    | some _ => true
    | none => Nat.blt u.1 s.n && noMen s u.1 d) ups
theorem wrOf_denU (ups : List (Nat × Option SB)) : wrOf (denU ups) = ups.map (·.1) := by simp [wrOf, denU]
theorem doneOk_ok {s : SS} {d : Option Nat} {ups : List (Nat × Option SB)} (h : doneOk s d ups = true) : (∀ t, d = some t → t < s.den.n) ∧ ∀ b ∈ wrOf (denU ups), s.den.box b = none → b < s.den.n ∧ NoMen s.den b d := by
  simp only [doneOk, Bool.and_eq_true, allB_eq, List.all_eq_true] at h
  refine ⟨fun t e => ?_, fun b hb e => ?_⟩
  · subst e; exact (blt_iff _ _).1 h.1
  · rw [wrOf_denU] at hb
    obtain ⟨u, hu, rfl⟩ := List.mem_map.1 hb
    have := h.2 u hu
    have e : (s.box u.1).map SB.den = none := e
    have e : s.box u.1 = none := by simpa using e
    simp only [e, Bool.and_eq_true] at this
    exact ⟨(blt_iff _ _).1 this.1, noMen_ok this.2⟩

/-! ### calls -/

def ecCl : Ec → Option Cl
  | .c k x => some (k.cl x)
  | .arr .. => none
  | .err => none
theorem ecCl_ok : ∀ {es : List Ec} {cs : List Cl}, mapE ecCl es = some cs → (cs.map fun c => (c1 c).den) = (denE es).map .c
  | [], cs, h => by cases h; rfl
  | e :: es, cs, h => by
    unfold mapE at h
    split at h
    · rename_i c m hc hm
      cases h
      cases e with
      | c k x =>
        cases hc
        rw [List.map_cons, ecCl_ok hm, denE_cons]
        show AV.c (k.cl x).den :: _ = AV.c (k.den x) :: _
        rw [Kd.cl_den]; rfl
      | arr => cases hc
      | err => cases hc
    · cases h
def calleeS : SV → Option (FuncId × List Cl × List Cl)
  | .one (.c (.val (.func (.func k) f c))) => match f.toList, c.toList with
    | [], [] => some (k, [], [])
    | _, _ => none
  | .one (.c (.clo k fs cs)) => match mapE ecCl fs, mapE ecCl cs with
    | some f, some c => some (k, f, c)
    | _, _ => none
  | _ => none
theorem calleeS_ok {v : SV} {k : FuncId} {fs cs : List Cl} (h : calleeS v = some (k, fs, cs)) : calleeA v.den = some (k, fs.map (fun c => (c1 c).den), cs.map (fun c => (c1 c).den)) := by
  unfold calleeS at h
  split at h
  · rename_i k f c
    split at h
    · rename_i hf hc
      cases h
      simp only [SV.den, S1.den, Cl.den, calleeA, hf, hc]; rfl
    · cases h
  · rename_i k f c
    split at h
    · rename_i f' c' hf hc
      cases h
      show some (k, (denE f).map AV.c, (denE c).map AV.c) = _
      rw [← ecCl_ok hf, ← ecCl_ok hc]
    · cases h
  · cases h
/-- The slice type behind each cell that may be a nil slice. -/
def cellTys (P : Program) : Nat → TypeId → List TypeId
  | 0, T => [T]
  | d + 1, T => match P.underlying T with
    | some (.struct fs) => fs.toList.flatMap fun f => cellTys P d f.type
    | some (.array n E) => match P.underlying E with
      | some (.int _) => [T]
      | _ => (List.replicate n (cellTys P d E)).flatten
    | _ => [T]
def nilCl (P : Program) (T : TypeId) : Option Cl :=
  match tySlice P T with
  | some E => match kindsOf P 8 E with
    | some ks => match isInt1 ks with
      | some k => some (.ints k [])
      | none => some (.rows ks [])
    | none => none
  | none => none
theorem nilCl_ok {P : Program} {T : TypeId} {x : Cl} (h : nilCl P T = some x) : x.den = .list 0 [] := by
  unfold nilCl at h
  split at h
  · split at h
    · split at h <;> cases h <;> rfl
    · cases h
  · cases h
def Ct.toCl : Ct → Option Cl
  | .ints k l => some (.ints k l)
  | .rows ks l => some (.rows ks l)
  | .sg _ => none
  | .mp .. => none
/-- A cell as a callee is handed it: the guard, the cell, the box that is published. -/
def pubCl (P : Program) (T : TypeId) (bx : Nat → Option SB) : Cl → Option (Bool × Cl × List Nat)
  | .val v => match v with
    | .slice none 0 0 => (nilCl P T).map fun x => (true, x, [])
    | v => some (true, .val v, [])
  | .sl b n z nl => match bx b with
    | some ⟨ct, _, nl'⟩ => match ct.fst n with
      | some f => match f.toCl with
        | some x => bif Nat.beq z ct.wd then some ((nl' == nl) && decide (n ≤ ct.len), x, [b]) else none
        | none => none
      | none => none
    | none => none
  | x => some (true, x, [])
theorem pubCl_ok {P : Program} {T : TypeId} {bx : Nat → Option SB} {x y : Cl} {g : Bool} {bs : List Nat} (h : pubCl P T bx x = some (g, y, bs)) (hg : g = true) : y.den = pubC (denB bx) x.den ∧ bs = slC x.den := by
  unfold pubCl at h
  split at h
  · rename_i v
    split at h
    · obtain ⟨x, hx, e⟩ := Option.map_eq_some_iff.1 h
      cases e
      exact ⟨nilCl_ok hx, rfl⟩
    · rename_i hv
      cases h
      refine ⟨?_, rfl⟩
      show AC.lit v = litP v
      unfold litP
      split
      · exact (hv rfl).elim
      · rfl
  · rename_i b n z nl
    split at h
    · rename_i ct pub nl' hb
      split at h
      · rename_i f hf
        split at h
        · rename_i x hx
          obtain ⟨h1, h2⟩ := bif_some h
          cases h2
          have := Nat.eq_of_beq_eq_true h1
          subst this
          simp only [Bool.and_eq_true, beq_iff_eq, decide_eq_true_eq] at hg
          obtain ⟨rfl, hn⟩ := hg
          refine ⟨?_, rfl⟩
          have hb' : denB bx b = some (SB.den ⟨ct, pub, nl'⟩) := by simp [denB, hb]
          have hp : ct.den.all (·.pure) = true := by
            rw [Ct.pure_den]
            unfold Ct.fst at hf
            split at hf <;> first | rfl | cases hf
          show _ = pubC (denB bx) (.sl b n ct.wd nl')
          unfold pubC
          simp only [hb']
          rw [if_pos ⟨rfl, by show _ ≤ ct.den.length; rw [Ct.den_len hf]; exact Nat.mul_le_mul_right _ hn, hp⟩]
          show _ = AC.list n (ct.den.take _)
          rw [← Ct.fst_ok hf]
          unfold Ct.fst at hf
          split at hf
          · cases hf
            cases hx
            simp only [Cl.den, Ct.den, List.length_take]
            simp only [Ct.len] at hn
            rw [Nat.min_eq_left hn]
          · cases hf
            cases hx
            simp only [Cl.den, Ct.den, List.length_take]
            simp only [Ct.len] at hn
            rw [Nat.min_eq_left hn]
          · cases hf
          · cases hf
        · cases h
      · cases h
    · cases h
  · rename_i hv hs
    cases h
    cases x <;> first | exact ⟨rfl, rfl⟩ | exact (hv _ rfl).elim | exact (hs _ _ _ _ rfl).elim
def pubSg (P : Program) (bx : Nat → Option SB) : List TypeId → List Sg → Option (Bool × List Sg × List Nat)
  | _, [] => some (true, [], [])
  | ts, .arr k n l :: r => match pubSg P bx ts.tail r with
    | some (g, m, bs) => some (g, .arr k n l :: m, bs)
    | none => none
  | ts, .c x :: r => match pubCl P (ts.headD 0) bx x, pubSg P bx ts.tail r with
    | some (g, y, bs), some (g', m, bs') => some (g && g', .c y :: m, bs ++ bs')
    | _, _ => none
theorem pubSg_ok {P : Program} {bx : Nat → Option SB} : ∀ {ts : List TypeId} {l m : List Sg} {g : Bool} {bs : List Nat}, pubSg P bx ts l = some (g, m, bs) → g = true → denS m = (denS l).map (pubC (denB bx)) ∧ bs = (denS l).flatMap slC
  | ts, [], m, g, bs, h, _ => by
    simp only [pubSg, Option.some.injEq, Prod.mk.injEq] at h
    obtain ⟨_, rfl, rfl⟩ := h
    exact ⟨rfl, rfl⟩
  | ts, .arr k n l :: r, m, g, bs, h, hg => by
    unfold pubSg at h
    split at h
    · rename_i g' m' bs' hr
      cases h
      obtain ⟨h1, h2⟩ := pubSg_ok hr hg
      rw [denS_cons, denS_cons, List.map_append, ← h1, List.flatMap_append, ← h2]
      have e1 : (arrL k n l).map (pubC (denB bx)) = arrL k n l := by simp [arrL, pubC, litP]
      have e2 : (arrL k n l).flatMap slC = [] := by simp [arrL, slC]
      show arrL k n l ++ _ = (arrL k n l).map _ ++ _ ∧ _ = (arrL k n l).flatMap slC ++ _
      rw [e1, e2]; exact ⟨rfl, rfl⟩
    · cases h
  | ts, .c x :: r, m, g, bs, h, hg => by
    unfold pubSg at h
    split at h
    · rename_i g1 y bs1 g2 m' bs2 hx hr
      cases h
      simp only [Bool.and_eq_true] at hg
      obtain ⟨h1, h2⟩ := pubSg_ok hr hg.2
      obtain ⟨h3, h4⟩ := pubCl_ok hx hg.1
      rw [denS_cons, denS_cons, List.map_append, ← h1, List.flatMap_append, ← h2]
      refine ⟨?_, ?_⟩
      · show [y.den] ++ _ = [pubC _ x.den] ++ _
        rw [h3]
      · show bs1 ++ _ = [x.den].flatMap slC ++ _
        rw [h4]; simp
    · cases h
def pub1 (P : Program) (T : TypeId) (bx : Nat → Option SB) : SV → Option (Bool × SV × List Nat)
  | .one (.c x) => match pubCl P T bx x with
    | some (g, y, bs) => some (g, .one (.c y), bs)
    | none => none
  | .one (.agg l) => match pubSg P bx (cellTys P 8 T) l with
    | some (g, m, bs) => some (g, .one (.agg m), bs)
    | none => none
  | .tup _ => none
theorem pub1_ok {P : Program} {T : TypeId} {bx : Nat → Option SB} {x y : SV} {g : Bool} {bs : List Nat} (h : pub1 P T bx x = some (g, y, bs)) (hg : g = true) :
    y.den = pubA (denB bx) x.den ∧ bs = slA x.den ∧ (∀ vs, x.den ≠ .tup vs) := by
  unfold pub1 at h
  split at h
  · split at h
    · rename_i hx
      cases h
      obtain ⟨h1, h2⟩ := pubCl_ok hx hg
      exact ⟨by show AV.c _ = AV.c _; rw [h1], h2, by intro vs e; cases e⟩
    · cases h
  · split at h
    · rename_i hx
      cases h
      obtain ⟨h1, h2⟩ := pubSg_ok hx hg
      exact ⟨by show AV.agg _ = AV.agg _; rw [h1], h2, by intro vs e; cases e⟩
    · cases h
  · cases h
def pubAll (P : Program) (bx : Nat → Option SB) : List TypeId → List SV → Option (Bool × List SV × List Nat)
  | _, [] => some (true, [], [])
  | ts, x :: xs => match pub1 P (ts.headD 0) bx x, pubAll P bx ts.tail xs with
    | some (g, y, bs), some (g', ys, bs') => some (g && g', y :: ys, bs ++ bs')
    | _, _ => none
theorem pubAll_ok {P : Program} {bx : Nat → Option SB} : ∀ {ts : List TypeId} {xs ys : List SV} {g : Bool} {bs : List Nat}, pubAll P bx ts xs = some (g, ys, bs) → g = true →
    ys.map SV.den = (xs.map SV.den).map (pubA (denB bx)) ∧ bs = (xs.map SV.den).flatMap slA ∧ ∀ x ∈ xs, ∀ vs, x.den ≠ .tup vs
  | ts, [], ys, g, bs, h, _ => by
    simp only [pubAll, Option.some.injEq, Prod.mk.injEq] at h
    obtain ⟨_, rfl, rfl⟩ := h
    exact ⟨rfl, rfl, by simp⟩
  | ts, x :: xs, ys, g, bs, h, hg => by
    unfold pubAll at h
    split at h
    · rename_i g1 y bs1 g2 ys' bs2 hx hr
      cases h
      simp only [Bool.and_eq_true] at hg
      obtain ⟨h1, h2, h3⟩ := pubAll_ok hr hg.2
      obtain ⟨h4, h5, h6⟩ := pub1_ok hx hg.1
      refine ⟨by simp only [List.map_cons, h1, h4], by simp only [List.map_cons, List.flatMap_cons, ← h2, ← h5], fun z hz => ?_⟩
      rcases List.mem_cons.1 hz with rfl | hz
      · exact h6
      · exact h3 z hz
    · cases h
theorem pubCl_nm {P : Program} {T : TypeId} {bx : Nat → Option SB} {x y : Cl} {g : Bool} {bs : List Nat} (h : pubCl P T bx x = some (g, y, bs)) : ∀ b ∈ bs, ∀ B, denB bx b = some B → ∀ b', B.men b' = false := by
  intro b hb B hB b'
  unfold pubCl at h
  split at h
  · split at h
    · obtain ⟨_, _, e⟩ := Option.map_eq_some_iff.1 h
      cases e; simp at hb
    · cases h; simp at hb
  · rename_i b0 n z nl
    split at h
    · rename_i ct pub nl' hbx
      split at h
      · rename_i f hf
        split at h
        · obtain ⟨_, h2⟩ := bif_some h
          cases h2
          simp at hb
          subst hb
          have : B = SB.den ⟨ct, pub, nl'⟩ := by
            simp [denB, hbx] at hB; exact hB.symm
          rw [this, SB.men_den]
          exact Ct.men_fst hf
        · cases h
      · cases h
    · cases h
  · cases h; simp at hb
theorem pubSg_nm {P : Program} {bx : Nat → Option SB} : ∀ {ts : List TypeId} {l m : List Sg} {g : Bool} {bs : List Nat}, pubSg P bx ts l = some (g, m, bs) → ∀ b ∈ bs, ∀ B, denB bx b = some B → ∀ b', B.men b' = false
  | ts, [], m, g, bs, h => by
    simp only [pubSg, Option.some.injEq, Prod.mk.injEq] at h
    obtain ⟨_, _, rfl⟩ := h
    intro b hb; simp at hb
  | ts, .arr k n l :: r, m, g, bs, h => by
    unfold pubSg at h
    split at h
    · rename_i g' m' bs' hr
      cases h
      exact pubSg_nm hr
    · cases h
  | ts, .c x :: r, m, g, bs, h => by
    unfold pubSg at h
    split at h
    · rename_i g1 y bs1 g2 m' bs2 hx hr
      cases h
      intro b hb
      rcases List.mem_append.1 hb with hb | hb
      · exact pubCl_nm hx b hb
      · exact pubSg_nm hr b hb
    · cases h
theorem pub1_nm {P : Program} {T : TypeId} {bx : Nat → Option SB} {x y : SV} {g : Bool} {bs : List Nat} (h : pub1 P T bx x = some (g, y, bs)) : ∀ b ∈ bs, ∀ B, denB bx b = some B → ∀ b', B.men b' = false := by
  unfold pub1 at h
  split at h
  · split at h
    · rename_i hx; cases h; exact pubCl_nm hx
    · cases h
  · split at h
    · rename_i hx; cases h; exact pubSg_nm hx
    · cases h
  · cases h
theorem pubAll_nm {P : Program} {bx : Nat → Option SB} : ∀ {ts : List TypeId} {xs ys : List SV} {g : Bool} {bs : List Nat}, pubAll P bx ts xs = some (g, ys, bs) → ∀ b ∈ bs, ∀ B, denB bx b = some B → ∀ b', B.men b' = false
  | ts, [], ys, g, bs, h => by
    simp only [pubAll, Option.some.injEq, Prod.mk.injEq] at h
    obtain ⟨_, _, rfl⟩ := h
    intro b hb; simp at hb
  | ts, x :: xs, ys, g, bs, h => by
    unfold pubAll at h
    split at h
    · rename_i g1 y bs1 g2 ys' bs2 hx hr
      cases h
      intro b hb
      rcases List.mem_append.1 hb with hb | hb
      · exact pub1_nm hx b hb
      · exact pubAll_nm hr b hb
    · cases h
def pubSB (b : SB) : SB := match b.ct with
  | .sg l => ⟨.sg l, lenS l, b.nl⟩
  | ct => ⟨ct, ct.len * ct.wd, b.nl⟩
theorem pubSB_den (b : SB) : (pubSB b).den = Ev.pubB b.den := by
  obtain ⟨ct, pub, nl⟩ := b
  cases ct with
  | sg l => show Box.mk (denS l) (lenS l) nl false none = Box.mk (denS l) (denS l).length nl false none; rw [lenS_ok]
  | ints k l => show Box.mk (IL k l) (l.length * 1) nl false none = Box.mk (IL k l) (IL k l).length nl false none; rw [IL_length, Nat.mul_one]
  | rows ks l => show Box.mk (rowsL ks l) (l.length * lenL ks) nl false none = Box.mk (rowsL ks l) (rowsL ks l).length nl false none; rw [rowsL_length, lenL_eq]
  | mp k k' l => rfl
def pubUps (bx : Nat → Option SB) : List Nat → List (Nat × Option SB)
  | [] => []
  | b :: bs => (b, (bx b).map pubSB) :: pubUps bx bs
theorem pubUps_den (bx : Nat → Option SB) (bs : List Nat) : denU (pubUps bx bs) = upsOf (denB bx) bs := by
  induction bs with
  | nil => rfl
  | cons b bs ih =>
    show (b, ((bx b).map pubSB).map SB.den) :: denU (pubUps bx bs) = (b, ((bx b).map SB.den).map Ev.pubB) :: upsOf (denB bx) bs
    rw [ih]
    congr 2
    cases bx b with
    | none => rfl
    | some x => simp [pubSB_den]
def noneOf (ups : List (Nat × Option SB)) (bs : List Nat) : Bool := allB (fun u : Nat × Option SB => allB (fun b => !Nat.beq u.1 b) bs) ups
theorem noneOf_ok {ups : List (Nat × Option SB)} {bs : List Nat} (h : noneOf ups bs = true) : ∀ b ∈ wrOf (denU ups), b ∉ bs := by
  intro b hb hb'
  rw [wrOf_denU] at hb
  obtain ⟨u, hu, rfl⟩ := List.mem_map.1 hb
  simp only [noneOf, allB_eq, List.all_eq_true] at h
  have := h u hu u.1 hb'
  simp at this

theorem litV_eq {C : Cfg} {μ : Nat → Nat} {M : Mem} {x : SV} {v : Value} (hs : scal x = true) (h : Rep1 C μ M x.den v) : v = litV x := by
  unfold scal at hs
  split at hs
  · exact RepI.lit_eq h
  · exact RepI.lit_eq h
  · exact RepI.lit_eq h
  · cases hs
theorem pub1_scal {P : Program} {T : TypeId} {bx : Nat → Option SB} {x y : SV} {g : Bool} {bs : List Nat} (h : pub1 P T bx x = some (g, y, bs)) (hy : scal y = true) : bs = [] ∧ y = x := by
  unfold pub1 at h
  split at h
  · split at h
    · rename_i x g' y' bs' hx
      cases h
      unfold pubCl at hx
      split at hx
      · split at hx
        · obtain ⟨z, hz, e⟩ := Option.map_eq_some_iff.1 hx
          cases e
          unfold nilCl at hz
          split at hz
          · split at hz
            · split at hz <;> cases hz <;> cases hy
            · cases hz
          · cases hz
        · cases hx; exact ⟨rfl, rfl⟩
      · split at hx
        · split at hx
          · split at hx
            · rename_i f hf z hz
              obtain ⟨_, h2⟩ := bif_some hx
              cases h2
              unfold Ct.toCl at hz
              split at hz <;> cases hz <;> cases hy
            · cases hx
          · cases hx
        · cases hx
      · cases hx; exact ⟨rfl, rfl⟩
    · cases h
  · split at h
    · cases h; cases hy
    · cases h
  · cases h
theorem pubAll_scal {P : Program} {bx : Nat → Option SB} : ∀ {ts : List TypeId} {xs ys : List SV} {g : Bool} {bs : List Nat}, pubAll P bx ts xs = some (g, ys, bs) → allB scal ys = true → bs = [] ∧ ys = xs
  | ts, [], ys, g, bs, h, _ => by
    simp only [pubAll, Option.some.injEq, Prod.mk.injEq] at h
    obtain ⟨_, rfl, rfl⟩ := h
    exact ⟨rfl, rfl⟩
  | ts, x :: xs, ys, g, bs, h, hs => by
    unfold pubAll at h
    split at h
    · rename_i g1 y bs1 g2 ys' bs2 hx hr
      cases h
      rw [allB_eq, List.all_cons, Bool.and_eq_true, ← allB_eq] at hs
      obtain ⟨rfl, rfl⟩ := pub1_scal hx hs.1
      obtain ⟨rfl, rfl⟩ := pubAll_scal hr hs.2
      exact ⟨rfl, rfl⟩
    · cases h
/-- A call of a function without a Go body. -/
theorem opOk_ext {C : Cfg} {dst : Option Tmp} {ty : TypeId} {pos : String} {after : Array Edge} {guard : Option (Nat × Bool)} {ρ : Operand → AV} {pre : Nat → Option Box} {f : Operand} {k : FuncId} {args : Array Operand} {ats : Array TypeId}
    {fs as cs : List SV} {r : SV} (hf : calleeA (ρ f) = some (k, fs.map SV.den, cs.map SV.den)) (ha : args.toList.map ρ = as.map SV.den) (h : ExtOk C k (fs ++ as ++ cs) r) :
    OpOk C ⟨dst, .call ⟨.value f, args, ats⟩, ty, pos, after, guard⟩ ρ [] pre r.den [] :=
  opOk_pure fun μ M a wf hr => by
    obtain ⟨hsc, rv, hrun, hrep⟩ := h
    rw [allB_eq, List.all_eq_true] at hsc
    obtain ⟨vf, vc, hv, hvf, hvc, hrf, hrc, _, _⟩ := callee_rep hf (hr f (by simp [Op.operands, Call.operands]))
    have hlen : args.size = as.length := by have := congrArg List.length ha; simpa using this
    have e : vf ++ args.map a.eval ++ vc = ((fs ++ as ++ cs).map litV).toArray := by
      rw [List.length_map] at hvf hvc
      apply Array.ext
      · simp [hvf, hvc, hlen]
      · intro i h1 h2
        simp only [List.getElem_toArray, List.getElem_map]
        by_cases i1 : i < fs.length
        · rw [Array.getElem_append_left (by simp; omega), Array.getElem_append_left (by omega)]
          have e2 : (fs ++ as ++ cs)[i]'(by simp; omega) = fs[i] := by rw [List.getElem_append_left (by simp; omega), List.getElem_append_left i1]
          rw [e2]
          have := hrf i (by simp; omega) (by omega)
          rw [List.getElem_map] at this
          exact litV_eq (hsc _ (by simp [List.getElem_mem])) this
        · by_cases i2 : i < fs.length + as.length
          · rw [Array.getElem_append_left (by simp; omega), Array.getElem_append_right (by omega), Array.getElem_map]
            have e2 : (fs ++ as ++ cs)[i]'(by simp; omega) = as[i - fs.length]'(by omega) := by rw [List.getElem_append_left (by simp; omega), List.getElem_append_right (by omega)]
            rw [e2]
            have hx := hr (args[i - vf.size]'(by omega)) (by simp [Op.operands, Call.operands, Array.getElem_mem])
            have e3 : ρ (args[i - vf.size]'(by omega)) = (as[i - fs.length]'(by omega)).den := by
              have := congrArg (·[i - fs.length]?) ha
              simp only [List.getElem?_map, Array.getElem?_toList] at this
              rw [Array.getElem?_eq_getElem (by omega), List.getElem?_eq_getElem (by omega)] at this
              simp only [Option.map_some, Option.some.injEq] at this
              simp only [hvf]; exact this
            rw [e3] at hx
            have hs := hsc (as[i - fs.length]'(by omega)) (by simp [List.getElem_mem])
            refine litV_eq (C := C) (μ := μ) (M := M) hs ?_
            generalize as[i - fs.length]'(by omega) = y at hx hs
            unfold scal at hs
            split at hs
            · exact hx
            · exact hx
            · exact hx
            · cases hs
          · rw [Array.getElem_append_right (by simp; omega)]
            have h3 : i - (vf ++ args.map a.eval).size < cs.length := by simp at h1 ⊢; omega
            have e2 : (fs ++ as ++ cs)[i]'(by simp; simp at h1; omega) = cs[i - (vf ++ args.map a.eval).size] := by
              rw [List.getElem_append_right (by simp; omega)]
              congr 1; simp; omega
            rw [e2]
            have := hrc (i - (vf ++ args.map a.eval).size) (by simp at h3 ⊢; omega) (by omega)
            rw [List.getElem_map] at this
            exact litV_eq (hsc _ (by simp [List.getElem_mem])) this
    refine ⟨rv, ?_, hrep μ M⟩
    have h1 : (invoke (.fn (.func k) vc) (vf ++ args.map a.eval)).run C.P M.w = .ok (.value rv) M.w := by
      have := hrun M.w
      rw [← e] at this
      simpa [invoke] using this
    simpa [execOp, resolve, hv, Deferred.ofValue, bind, Sem.bind, pure] using h1

structure SRec where
  skip : Bool
  rd : List Nat
  r : SV
  ups : List (Nat × Option SB)
def SRec.den (x : SRec) : Rec := ⟨x.skip, x.rd, x.r.den, denU x.ups⟩
def skipS : SRec := ⟨true, [], .tup [], []⟩
/-- Where a program lies, what its variables hold, what its functions do, what is live at loops' heads. -/
structure Ev' where
  P : Program
  G : Nat → Option (List Ec)
  Γ : Env

def exeC (e : Ev') (f : SV) (args : List SV) (ats : List TypeId) (d : Option Nat) (s : SS) (K : SRec → SS → Option Out) : Option Out :=
  match calleeS f with
  | some (k, fs, cs) => match pubAll e.P s.box ats args with
    | some (g, as, bs) => bif g then e.Γ k (fs.map c1 ++ as ++ cs.map c1) s.box (fun r ups =>
        bif noneOf ups bs && doneOk s d (pubUps s.box bs ++ ups) then K ⟨false, [], r, pubUps s.box bs ++ ups⟩ ((s.upd (pubUps s.box bs ++ ups)).put d r) else none) else none
    | none => none
  | none => none
def exeO (r : Option Res) (d : Option Nat) (s : SS) (K : SRec → SS → Option Out) : Option Out :=
  match r with
  | some ⟨g, rd, r, ups⟩ => bif doneOk s d ups then (bif g then K ⟨false, rd, r, ups⟩ ((s.upd ups).put d r) else none) else none
  | none => none
/-! ### a slice literal whose elements bear slices of one's own: these are published first -/
def zipP : List (Nat × Operand) → List SV → List (Nat × SV)
  | p :: ps, y :: ys => (p.1, y) :: zipP ps ys
  | _, _ => []
theorem zipP_den {f : Operand → AV} : ∀ {ps : List (Nat × Operand)} {ys : List SV}, ys.map SV.den = ps.map (fun p => f p.2) → (zipP ps ys).map (fun p => (p.1, p.2.den)) = ps.map fun p => (p.1, f p.2)
  | [], [], _ => rfl
  | [], _ :: _, h => by cases h
  | _ :: _, [], h => by cases h
  | p :: ps, y :: ys, h => by
    simp only [List.map_cons, List.cons.injEq] at h
    simp only [zipP, List.map_cons, h.1, zipP_den h.2]
theorem sBuildSl_any {C : Cfg} {ty : TypeId} {pos : String} {after : Array Edge} {guard : Option (Nat × Bool)} {bx : Nat → Option SB} {ρA : Operand → AV} {T : TypeId} {len d : Nat} {parts : Array (Nat × Operand)} {ps : List (Nat × SV)} {r : Res} (h : sBuildSl C.P T len d (bx d) ps = some r)
    (hps : ps.map (fun p => (p.1, p.2.den)) = parts.toList.map fun p => (p.1, ρA p.2)) (hg : r.g = true) : OpOk C ⟨some d, .buildSlice T len parts, ty, pos, after, guard⟩ ρA r.rd (denB bx) r.r.den (denU r.ups) := by
  unfold sBuildSl at h
  split at h
  · rename_i E hE
    split at h
    · rename_i n z ks vs hn hz hks hvs
      split at h
      · rename_i ct hct
        obtain ⟨h1, h2⟩ := bif_some h
        cases h2
        simp only [Bool.and_eq_true, Bool.not_eq_true'] at h1
        obtain ⟨⟨⟨⟨h3, h4⟩, h5⟩, h6⟩, h7⟩ := h1
        have e1 := Nat.eq_of_beq_eq_true h3
        have e2 := Nat.eq_of_beq_eq_true h4
        rw [lenL_eq] at e1 e2
        subst e1
        subst e2
        obtain ⟨zs, hzs, hzl⟩ := rowZ_some hE hn hz (Nat.le_of_ble_eq_true h5)
        have hc := mkCt_ok hct
        have hf := fill_seq hc [] zs 0 (by simp) hzl
        rw [← seqP_ok hvs, hps] at hf
        have key := ok_buildSlice (C := C) (ty := ty) (pos := pos) (after := after) (guard := guard) (denB_none h6) hzs hf (show menL d ct.den = false by rw [menL, Ct.men_den]; exact h7)
        show OpOk C _ _ _ _ _ [(d, some (SB.den ⟨ct, 0, false⟩))]
        rw [SB.den_row 0 false (mkCt_obj hct)]
        exact key
      · cases h
    · cases h
  · cases h
def exeP (e : Ev') (T : TypeId) (len : Nat) (parts : List (Nat × Operand)) (dst : Option Nat) (s : SS) (K : SRec → SS → Option Out) : Option Out :=
  match dst, tySlice e.P T with
  | some d, some E => match pubAll e.P s.box (parts.map fun _ => E) (parts.map fun p => evS e.G s p.2) with
    | some (g, ys, bs) => bif g then (match sBuildSl e.P T len d (s.box d) (zipP parts ys) with
      | some ⟨g', [], r, ups⟩ => bif g' && noneOf ups bs && doneOk s (some d) (pubUps s.box bs ++ ups) then K ⟨false, [], r, pubUps s.box bs ++ ups⟩ ((s.upd (pubUps s.box bs ++ ups)).put (some d) r) else none
      | _ => none) else none
    | none => none
  | _, _ => none
def exeB (e : Ev') (o : Oper) (T : TypeId) (len : Nat) (parts : Array (Nat × Operand)) (s : SS) (K : SRec → SS → Option Out) : Option Out :=
  match sOp e.P o.op o.dst (evS e.G s) s.box with
  | some r => exeO (some r) o.dst s K
  | none => exeP e T len parts.toList o.dst s K
def exeS (e : Ev') (o : Oper) (s : SS) (K : SRec → SS → Option Out) : Option Out :=
  match o.op with
  | .call ⟨.value f, args, ats⟩ => exeC e (evS e.G s f) (opsS (evS e.G s) args.toList) ats.toList o.dst s K
  | .buildSlice T len parts => exeB e o T len parts s K
  | op => exeO (sOp e.P op o.dst (evS e.G s) s.box) o.dst s K

structure Gd (C : Cfg) (e : Ev') : Prop where
  p : C.P = e.P
  g : ∀ g, C.G g = (e.G g).map denE
  Γ : EnvOk C e.Γ

theorem denU_append (a b : List (Nat × Option SB)) : denU (a ++ b) = denU a ++ denU b := by simp [denU]
theorem exeO_ok {C : Cfg} {e : Ev'} (hc : Gd C e) {dst : Option Nat} {op : Op} {ty : TypeId} {pos : String} {after : Array Edge} {guard : Option (Nat × Bool)} {s : SS} {K : SRec → SS → Option Out} {out : Out} (h : exeO (sOp e.P op dst (evS e.G s) s.box) dst s K = some out) :
    ∃ rc : SRec, rc.skip = false ∧ StepOk C ⟨dst, op, ty, pos, after, guard⟩ s.den rc.rd rc.r.den (denU rc.ups) ∧ K rc ((s.upd rc.ups).put dst rc.r) = some out := by
  have hρ : ∀ x, denR (evS e.G s) x = s.den.ev C x := fun x => evS_den hc.g s x
  have hρ' : denR (evS e.G s) = s.den.ev C := funext hρ
  unfold exeO at h
  split at h
  · rename_i g rd r ups hr
    obtain ⟨h1, h2⟩ := bif_some h
    obtain ⟨rfl, h3⟩ := bif_some h2
    obtain ⟨d1, d2⟩ := doneOk_ok h1
    have hk : sOp C.P op dst (evS e.G s) s.box = some ⟨true, rd, r, ups⟩ := by rw [hc.p]; exact hr
    have := sOp_ok (C := C) (ty := ty) (pos := pos) (after := after) (guard := guard) hk rfl
    rw [hρ'] at this
    exact ⟨⟨false, rd, r, ups⟩, rfl, ⟨this, fun b hb' e' => (d2 b hb' e').2, d1, fun b hb' e' => (d2 b hb' e').1⟩, h3⟩
  · cases h
theorem exeP_ok {C : Cfg} {e : Ev'} (hc : Gd C e) {dst : Option Nat} {T : TypeId} {len : Nat} {parts : Array (Nat × Operand)} {ty : TypeId} {pos : String} {after : Array Edge} {guard : Option (Nat × Bool)} {s : SS} {K : SRec → SS → Option Out} {out : Out} (h : exeP e T len parts.toList dst s K = some out) :
    ∃ rc : SRec, rc.skip = false ∧ StepOk C ⟨dst, .buildSlice T len parts, ty, pos, after, guard⟩ s.den rc.rd rc.r.den (denU rc.ups) ∧ K rc ((s.upd rc.ups).put dst rc.r) = some out := by
  have hρ : ∀ x, denR (evS e.G s) x = s.den.ev C x := fun x => evS_den hc.g s x
  unfold exeP at h
  split at h
  · rename_i d E hE
    split at h
    · rename_i g ys bs hp
      have h' := (bif_some h).2
      have hgg := (bif_some h).1
      clear h
      subst hgg
      split at h'
      · rename_i g' r ups hr
        obtain ⟨h1, h2⟩ := bif_some h'
        simp only [Bool.and_eq_true] at h1
        obtain ⟨⟨rfl, h4⟩, h5⟩ := h1
        obtain ⟨d1, d2⟩ := doneOk_ok h5
        obtain ⟨p1, p2, p3⟩ := pubAll_ok hp rfl
        refine ⟨_, rfl, ⟨?_, fun b hb' e' => (d2 b hb' e').2, d1, fun b hb' e' => (d2 b hb' e').1⟩, h2⟩
        have eden : (parts.toList.map fun p => evS e.G s p.2).map SV.den = parts.toList.map fun p => s.den.ev C p.2 := by
          rw [List.map_map]
          exact List.map_congr_left fun p _ => hρ p.2
        rw [eden] at p1 p2
        rw [List.map_map] at p1
        have hr' : sBuildSl C.P T len d (s.box d) (zipP parts.toList ys) = some ⟨true, [], r, ups⟩ := by rw [hc.p]; exact hr
        have key := sBuildSl_any (C := C) (ty := ty) (pos := pos) (after := after) (guard := guard) (ρA := fun x => pubA (denB s.box) (s.den.ev C x)) (parts := parts) hr' (zipP_den (f := fun x => pubA (denB s.box) (s.den.ev C x)) (ps := parts.toList) (ys := ys) p1) rfl
        show OpOk C _ (s.den.ev C) [] s.den.box r.den (denU (pubUps s.box bs ++ ups))
        rw [denU_append, pubUps_den]
        have hops : ∀ x ∈ (Op.buildSlice T len parts).operands, ∃ p ∈ parts.toList, p.2 = x := fun x hx => by
          obtain ⟨p, hp, e⟩ := List.mem_map.1 (show x ∈ parts.toList.map (·.2) by simpa [Op.operands] using hx)
          exact ⟨p, hp, e⟩
        refine opOk_pub key (fun x hx vs e' => ?_) (fun x hx b hb => ?_) (noneOf_ok h4) (pubAll_nm hp)
        · obtain ⟨p, hp', rfl⟩ := hops x hx
          rw [← hρ] at e'
          exact p3 (evS e.G s p.2) (List.mem_map.2 ⟨p, hp', rfl⟩) vs e'
        · obtain ⟨p, hp', rfl⟩ := hops x hx
          rw [p2, List.mem_flatMap]
          exact ⟨s.den.ev C p.2, List.mem_map.2 ⟨p, hp', rfl⟩, hb⟩
      · cases h'
    · cases h
  · cases h
theorem exeS_ok {C : Cfg} {e : Ev'} (hc : Gd C e) {o : Oper} {s : SS} {K : SRec → SS → Option Out} {out : Out} (h : exeS e o s K = some out) :
    ∃ rc : SRec, rc.skip = false ∧ StepOk C o s.den rc.rd rc.r.den (denU rc.ups) ∧ K rc ((s.upd rc.ups).put o.dst rc.r) = some out := by
  obtain ⟨dst, op, ty, pos, after, guard⟩ := o
  have hρ : ∀ x, denR (evS e.G s) x = s.den.ev C x := fun x => evS_den hc.g s x
  have hρ' : denR (evS e.G s) = s.den.ev C := funext hρ
  have hb : denB s.box = s.den.box := rfl
  unfold exeS at h
  split at h
  · rename_i f args ats hop
    simp only at hop
    subst hop
    unfold exeC at h
    split at h
    · rename_i k fs cs hf
      split at h
      · rename_i g as bs hp
        obtain ⟨rfl, h⟩ := bif_some h
        obtain ⟨v, ups, hk, hfn | ⟨hu, hfn⟩, _⟩ := hc.Γ k _ _ _ _ h
        case inr =>
          subst hu
          obtain ⟨h1, h2⟩ := bif_some hk
          simp only [Bool.and_eq_true] at h1
          obtain ⟨d1, d2⟩ := doneOk_ok h1.2
          have hsc : allB scal as = true := by
            have := hfn.1
            rw [allB_eq, List.all_append, List.all_append, Bool.and_eq_true, Bool.and_eq_true] at this
            rw [allB_eq]; exact this.1.2
          obtain ⟨rfl, rfl⟩ := pubAll_scal hp hsc
          refine ⟨_, rfl, ⟨?_, fun b hb' e' => (d2 b hb' e').2, d1, fun b hb' e' => (d2 b hb' e').1⟩, h2⟩
          have hcal := calleeS_ok hf
          refine opOk_ext (fs := fs.map c1) (cs := cs.map c1) (by rw [← hρ', List.map_map, List.map_map]; exact hcal) ?_ hfn
          rw [opsS_eq, List.map_map, ← hρ']; rfl
        obtain ⟨h1, h2⟩ := bif_some hk
        simp only [Bool.and_eq_true] at h1
        obtain ⟨d1, d2⟩ := doneOk_ok h1.2
        obtain ⟨p1, p2, p3⟩ := pubAll_ok hp rfl
        refine ⟨_, rfl, ⟨?_, fun b hb' e' => (d2 b hb' e').2, d1, fun b hb' e' => (d2 b hb' e').1⟩, h2⟩
        have hcal := calleeS_ok hf
        have e1 : (opsS (evS e.G s) args.toList).map SV.den = args.toList.map (s.den.ev C) := by
          rw [opsS_eq, List.map_map, ← hρ']; rfl
        rw [e1] at p1 p2
        show OpOk C _ (s.den.ev C) [] s.den.box v.den (denU (pubUps s.box bs ++ ups))
        rw [denU_append, pubUps_den]
        refine opOk_callP (fs := fs.map fun c => (c1 c).den) (cs := cs.map fun c => (c1 c).den) (by rw [← hρ' ]; exact hcal) ?_ (fun x hx vs e' => ?_) p2 (noneOf_ok h1.1) (pubAll_nm hp)
        · rw [List.map_append, List.map_append, p1, List.map_map (l := fs), List.map_map (l := cs)] at hfn
          exact hfn
        · rw [← hρ] at e'
          exact p3 (evS e.G s x) (by rw [opsS_eq]; exact List.mem_map.2 ⟨x, by simpa using hx, rfl⟩) vs e'
      · cases h
    · cases h
  · rename_i T len parts hop
    simp only at hop
    subst hop
    unfold exeB at h
    split at h
    · rename_i r hr
      exact exeO_ok hc (op := .buildSlice T len parts) (by rw [hr]; exact h)
    · exact exeP_ok hc h
  · exact exeO_ok hc h

/-! ### regions -/

def dstOf (ops : List Oper) (j : Nat) : Option Nat := match nthS ops j with
  | some o => o.dst
  | none => none
def yldS (ops : Array Oper) (s : SS) (j : Nat) : Option (Option Bool) :=
  match dstOf ops.toList j with
  | some t => match s.get t with
    | .one (.c (.bool b)) => some (some b)
    | .tup _ => some none
    | _ => none
  | none => none
theorem yldS_ok {ops : Array Oper} {s : SS} {j : Nat} {y : Option Bool} (h : yldS ops s j = some y) : yieldedA ops s.den j = some y := by
  unfold yldS at h
  have e : (ops[j]?).bind (·.dst) = dstOf ops.toList j := by
    unfold dstOf
    rw [nthS_eq, Array.getElem?_toList]
    cases ops[j]? <;> rfl
  unfold yieldedA
  rw [e]
  split at h
  · rename_i t ht
    rw [ht]
    show (match some (s.get t).den with
      | some (.c (.lit (.bool b))) => some (some b)
      | some (.tup _) => some none
      | _ => none) = _
    split at h
    · rename_i b hb; rw [hb]; exact h
    · rename_i l hl; rw [hl]; exact h
    · cases h
  · cases h
/-- In the state a truth value is known. -/
def know (s : SS) (t : Option Nat) (v : Bool) : SS := match t with
  | some t => ⟨s.n, (t, c1 (.bool v)) :: s.t, s.b⟩
  | none => s
theorem know_den {s : SS} {t : Nat} {b v : Bool} (h : s.get t = c1 (.bool b)) (e : b = v) : (know s (some t) v).den = s.den := by
  subst e
  have : (know s (some t) b).den = s.den.put (some t) (c1 (.bool b)).den := den_put s (some t) (c1 (.bool b))
  rw [this]
  simp only [St.put, SS.den]
  congr 1
  funext u
  by_cases hu : u = t
  · subst hu; rw [if_pos rfl, h]
  · rw [if_neg hu]
def runS (e : Ev') (ops : Array Oper) : List Oper → SS → (SS → Option Out) → Option Out
  | [], s, K => K s
  | o :: os, s, K => match o.guard with
    | none => exeS e o s fun _ s' => runS e ops os s' K
    | some (j, want) => match yldS ops s j with
      | some (some b) => match want with
        | true => bif b then (exeS e o (know s (dstOf ops.toList j) true) fun _ s' => runS e ops os s' K) else runS e ops os ((know s (dstOf ops.toList j) false).put o.dst (.tup [])) K
        | false => bif b then runS e ops os ((know s (dstOf ops.toList j) true).put o.dst (.tup [])) K else (exeS e o (know s (dstOf ops.toList j) false) fun _ s' => runS e ops os s' K)
      | some none => runS e ops os (s.put o.dst (.tup [])) K
      | none => none
theorem bif_or {α : Type} {c : Bool} {x y : Option α} {z : α} (h : (bif c then x else y) = some z) : (c = true ∧ x = some z) ∨ (c = false ∧ y = some z) := by
  cases c with
  | true => exact .inl ⟨rfl, h⟩
  | false => exact .inr ⟨rfl, h⟩
theorem yldS_get {ops : Array Oper} {s : SS} {j : Nat} {b : Bool} (h : yldS ops s j = some (some b)) : ∃ t, dstOf ops.toList j = some t ∧ s.get t = c1 (.bool b) := by
  unfold yldS at h
  split at h
  · rename_i t ht
    split at h
    · rename_i b' hb; cases h; exact ⟨t, ht, hb⟩
    · cases h
    · cases h
  · cases h
theorem runS_ok {C : Cfg} {e : Ev'} (hc : Gd C e) {ops : Array Oper} {K : SS → Option Out} {Kp : St → Prop} {out : Out} (hk : ∀ s, K s = some out → Kp s.den) :
    ∀ (os : List Oper) (s : SS), runS e ops os s K = some out → RunN C ops os s.den Kp := by
  intro os
  induction os with
  | nil => intro s h; exact hk s h
  | cons o os ih =>
    intro s h
    unfold runS at h
    unfold RunN
    have go : ∀ s : SS, exeS e o s (fun _ s' => runS e ops os s' K) = some out → ∃ rd r ups, StepOk C o s.den rd r ups ∧ RunN C ops os ((s.den.upd ups).put o.dst r) Kp := by
      intro s h
      obtain ⟨rc, _, st, hr⟩ := exeS_ok hc h
      refine ⟨_, _, _, st, ?_⟩
      have := ih _ hr
      rw [den_put, den_upd] at this; exact this
    have skip : ∀ s : SS, runS e ops os (s.put o.dst (.tup [])) K = some out → RunN C ops os (s.den.put o.dst (.tup [])) Kp := by
      intro s h
      have := ih _ h
      rw [den_put] at this; exact this
    cases hg : o.guard with
    | none => simp only [hg] at h ⊢; exact go s h
    | some jw =>
      obtain ⟨j, want⟩ := jw
      simp only [hg] at h ⊢
      split at h
      · rename_i b hy
        obtain ⟨t, ht, hget⟩ := yldS_get hy
        rw [ht] at h
        refine ⟨_, yldS_ok hy, fun e' => ?_, fun e' => ?_⟩
        · cases e'
          cases want with
          | true => have := go _ h; rw [know_den hget rfl] at this; exact this
          | false => have := go _ h; rw [know_den hget rfl] at this; exact this
        · cases want with
          | true => cases b with
            | true => exact absurd rfl e'
            | false => have := skip _ h; rw [know_den hget rfl] at this; exact this
          | false => cases b with
            | true => have := skip _ h; rw [know_den hget rfl] at this; exact this
            | false => exact absurd rfl e'
      · rename_i hy
        exact ⟨_, yldS_ok hy, fun e' => (by cases e'), fun _ => skip s h⟩
      · cases h
def runD (e : Ev') (ops : Array Oper) : List Oper → SS → List SRec → (List SRec → SS → Option Out) → Option Out
  | [], s, acc, K => K acc s
  | o :: os, s, acc, K => match o.guard with
    | none => exeS e o s fun rc s' => runD e ops os s' (acc ++ [rc]) K
    | some (j, want) => match yldS ops s j with
      | some (some b) => match want with
        | true => bif b then (exeS e o (know s (dstOf ops.toList j) true) fun rc s' => runD e ops os s' (acc ++ [rc]) K) else runD e ops os ((know s (dstOf ops.toList j) false).put o.dst (.tup [])) (acc ++ [skipS]) K
        | false => bif b then runD e ops os ((know s (dstOf ops.toList j) true).put o.dst (.tup [])) (acc ++ [skipS]) K else (exeS e o (know s (dstOf ops.toList j) false) fun rc s' => runD e ops os s' (acc ++ [rc]) K)
      | some none => runD e ops os (s.put o.dst (.tup [])) (acc ++ [skipS]) K
      | none => none
theorem runD_ok {C : Cfg} {e : Ev'} (hc : Gd C e) {ops : Array Oper} {K : List SRec → SS → Option Out} {Kp : List Rec → St → Prop} {out : Out} (hk : ∀ l s, K l s = some out → Kp (l.map SRec.den) s.den) :
    ∀ (os : List Oper) (s : SS) (acc : List SRec), runD e ops os s acc K = some out → RunK C ops os s.den (acc.map SRec.den) Kp := by
  intro os
  induction os with
  | nil => intro s acc h; exact hk acc s h
  | cons o os ih =>
    intro s acc h
    unfold runD at h
    unfold RunK
    have go : ∀ s : SS, exeS e o s (fun rc s' => runD e ops os s' (acc ++ [rc]) K) = some out → ∃ rd r ups, StepOk C o s.den rd r ups ∧ RunK C ops os ((s.den.upd ups).put o.dst r) (acc.map SRec.den ++ [⟨false, rd, r, ups⟩]) Kp := by
      intro s h
      obtain ⟨rc, hs, st, hr⟩ := exeS_ok hc h
      refine ⟨_, _, _, st, ?_⟩
      have := ih _ _ hr
      rw [den_put, den_upd, List.map_append] at this
      have e2 : [rc].map SRec.den = [⟨false, rc.rd, rc.r.den, denU rc.ups⟩] := by simp [SRec.den, hs]
      rw [e2] at this; exact this
    have skip : ∀ s : SS, runD e ops os (s.put o.dst (.tup [])) (acc ++ [skipS]) K = some out → RunK C ops os (s.den.put o.dst (.tup [])) (acc.map SRec.den ++ [skipRec]) Kp := by
      intro s h
      have := ih _ _ h
      rw [den_put, List.map_append] at this; exact this
    cases hg : o.guard with
    | none => simp only [hg] at h ⊢; exact go s h
    | some jw =>
      obtain ⟨j, want⟩ := jw
      simp only [hg] at h ⊢
      split at h
      · rename_i b hy
        obtain ⟨t, ht, hget⟩ := yldS_get hy
        rw [ht] at h
        refine ⟨_, yldS_ok hy, fun e' => ?_, fun e' => ?_⟩
        · cases e'
          cases want with
          | true => have := go _ h; rw [know_den hget rfl] at this; exact this
          | false => have := go _ h; rw [know_den hget rfl] at this; exact this
        · cases want with
          | true => cases b with
            | true => exact absurd rfl e'
            | false => have := skip _ h; rw [know_den hget rfl] at this; exact this
          | false => cases b with
            | true => have := skip _ h; rw [know_den hget rfl] at this; exact this
            | false => exact absurd rfl e'
      · rename_i hy
        exact ⟨_, yldS_ok hy, fun e' => (by cases e'), fun _ => skip s h⟩
      · cases h

/-! ### any order -/

def menRS (b : Nat) (x : SRec) : Bool := x.r.men b || anyB (fun u : Nat × Option SB => match u.2 with
  | some bx => bx.ct.men b
  | none => false) x.ups
theorem menRS_den (b : Nat) (x : SRec) : menR b x.den = menRS b x := by
  unfold menR menRS
  rw [anyB_eq]
  show (x.r.den.men b || (denU x.ups).any _) = _
  rw [SV.men_den]
  congr 1
  induction x.ups with
  | nil => rfl
  | cons u ups ih =>
    rw [show denU (u :: ups) = (u.1, u.2.map SB.den) :: denU ups from rfl, List.any_cons, List.any_cons, ih]
    congr 1
    cases hu : u.2 with
    | none => rfl
    | some bx => simp [SB.men_den]
def wrS (x : SRec) : List Nat := x.ups.map (·.1)
def postNone (x : SRec) (b : Nat) : Bool := match look none x.ups b with
  | some _ => false
  | none => true
theorem lookup_look {ups : List (Nat × Option SB)} {b : Nat} : postOf (denU ups) b = (look none ups b).map SB.den := by
  unfold postOf
  induction ups with
  | nil => rfl
  | cons u ups ih =>
    obtain ⟨c, x⟩ := u
    show ((List.lookup b ((c, x.map SB.den) :: denU ups))).getD none = _
    simp only [List.lookup, look]
    by_cases h : b = c
    · subst h; simp
    · have h1 : (b == c) = false := by simpa using h
      have h2 : Nat.beq c b = false := by
        cases hb : Nat.beq c b with
        | false => rfl
        | true => exact absurd (Nat.eq_of_beq_eq_true hb).symm h
      rw [h1, h2]; exact ih
def newS (rcs : List SRec) (s0 : SS) (i : Nat) : List Nat :=
  (wrS (rcs.getD i skipS)).filter fun b => (isNone (s0.box b) && !((List.range i).any fun j => (wrS (rcs.getD j skipS)).contains b)) || (List.range i).any fun j => (wrS (rcs.getD j skipS)).contains b && postNone (rcs.getD j skipS) b
theorem getD_den (rcs : List SRec) (i : Nat) : (rcs.map SRec.den).getD i skipRec = (rcs.getD i skipS).den := by
  simp only [List.getD_eq_getElem?_getD, List.getElem?_map]
  cases rcs[i]? <;> rfl
theorem wrS_den (x : SRec) : wrOf x.den.ups = wrS x := wrOf_denU x.ups
theorem newS_den (rcs : List SRec) (s0 : SS) (i : Nat) : newOf (rcs.map SRec.den) s0.den i = newS rcs s0 i := by
  unfold newOf newS
  rw [getD_den, wrS_den]
  congr 1
  funext b
  congr 1
  · congr 1
    · show ((s0.box b).map SB.den).isNone = _
      cases s0.box b <;> rfl
    · congr 1
      congr 1
      funext j
      rw [getD_den, wrS_den]
  · congr 1
    funext j
    rw [getD_den]
    generalize rcs.getD j skipS = rc
    show ((wrOf rc.den.ups).contains b && (postOf (denU rc.ups) b).isNone) = _
    rw [wrS_den, lookup_look]
    congr 1
    unfold postNone
    cases look none rc.ups b <;> rfl
def indepS (ops : Array Oper) (o p : Oper) (x y : SRec) : Bool :=
  disj o.dst.toList (p.dst.toList ++ looks ops p) && disj p.dst.toList (looks ops o) && disj (wrS x) (wrS y ++ y.rd) && disj (wrS y) x.rd
theorem indepS_den (ops : Array Oper) (o p : Oper) (x y : SRec) : indep ops o p x.den y.den = indepS ops o p x y := by
  unfold indep indepS
  rw [wrS_den, wrS_den]; rfl
def pairS (ops : Array Oper) (rcs : List SRec) (s0 : SS) (ms : List Nat) (i j : Nat) : Bool := match nthS ops.toList i, nthS ops.toList j with
  | some o, some p => (if i < j then (ms.getD j 0).testBit i || indepS ops o p (rcs.getD i skipS) (rcs.getD j skipS) else true) &&
      (Nat.beq i j || (ms.getD j 0).testBit i || (newS rcs s0 i).all fun b => !menRS b (rcs.getD j skipS))
  | _, _ => true
def orderS (ops : Array Oper) (rcs : List SRec) (s0 : SS) : Bool :=
  edgesOk ops && ((List.range ops.size).all fun i => (List.range ops.size).all fun j => pairS ops rcs s0 (masks ops.toList []) i j) &&
  ((List.range ops.size).all fun i => (newS rcs s0 i).all fun b => noMen s0 b (dstOf ops.toList i))
theorem orderS_ok {ops : Array Oper} {rcs : List SRec} {s0 : SS} (h : orderS ops rcs s0 = true) : orderOk ops (rcs.map SRec.den) s0.den := by
  simp only [orderS, Bool.and_eq_true, List.all_eq_true, List.mem_range] at h
  obtain ⟨⟨h1, h2⟩, h3⟩ := h
  refine ⟨?_, fun i o ho b hb => ?_⟩
  · simp only [pairsOk, Bool.and_eq_true, List.all_eq_true, List.mem_range]
    refine ⟨h1, fun i hi j hj => ?_⟩
    have := h2 i hi j hj
    unfold pairS at this
    unfold pairOk
    rw [nthS_eq, nthS_eq, Array.getElem?_toList, Array.getElem?_toList] at this
    cases ho : ops[i]? with
    | none => rfl
    | some o =>
      cases hp : ops[j]? with
      | none => rfl
      | some p =>
        simp only [ho, hp] at this ⊢
        rw [getD_den, getD_den, indepS_den, newS_den]
        simp only [menRS_den]
        rw [beq_nat] at this
        exact this
  · have hi : i < ops.size := by
      rcases Nat.lt_or_ge i ops.size with h | h
      · exact h
      · rw [Array.getElem?_eq_none h] at ho; cases ho
    rw [newS_den] at hb
    have := h3 i hi b hb
    have e : dstOf ops.toList i = o.dst := by
      unfold dstOf
      rw [nthS_eq, Array.getElem?_toList, ho]
    rw [e] at this
    exact noMen_ok this
end Go.Sy
/-
  Symbolic values, part 6: what is live at a loop's head.
-/
namespace Go.Sy
open Go.Ev
set_option linter.unusedVariables false
set_option linter.unusedSimpArgs false

inductive CS where
  | int (k : IntKind)
  | bool
  | str
  | ints (k : IntKind)
  | rows (ks : List Kd)
  | sl (b z : Nat)
  | ptr (b off : Nat)
  | mref (b : Nat)
  | bself (T : TypeId) (b : Nat)
  | tsl (T : TypeId) (b : Nat)
  | fn (k : FuncId)
  | junk
  | nils
inductive GS where
  | c (x : CS)
  | arr (k : IntKind) (n : Nat)
inductive TS where
  | c (x : CS)
  | agg (l : List GS)
inductive SK where
  | ints (k : IntKind)
  | rows (ks : List Kd)
  | mp (k k' : IntKind)
/-- A slice's (or a map's) box: pub, nl: are these live too, or always nought and false? -/
structure SlS where
  c : SK
  pub : Bool
  nl : Bool
structure Shape where
  n : Nat
  sl : List (Nat × SlS)
  bx : List (Nat × List GS)
  t : List (Nat × TS)

/-! ### other numbers for boxes -/

def sw (x y b : Nat) : Nat := bif Nat.beq b x then y else bif Nat.beq b y then x else b
def perm : List (Nat × Nat) → Nat → Nat
  | [], b => b
  | (c, a) :: l, b => sw (perm l c) a (perm l b)
theorem sw_eq (x y b : Nat) : sw x y b = if b = x then y else if b = y then x else b := by
  unfold sw
  simp only [beq_nat, Bool.cond_eq_ite, beq_iff_eq]
theorem sw_inj (x y a b : Nat) (h : sw x y a = sw x y b) : a = b := by
  rw [sw_eq, sw_eq] at h
  split at h <;> split at h <;> (try split at h) <;> (try split at h) <;> omega
theorem perm_inj (l : List (Nat × Nat)) : ∀ a b, perm l a = perm l b → a = b := by
  induction l with
  | nil => exact fun _ _ h => h
  | cons p l ih => obtain ⟨c, d⟩ := p; exact fun a b h => ih _ _ (sw_inj _ _ _ _ h)
theorem perm_high (n : Nat) : ∀ l : List (Nat × Nat), (allB (fun p : Nat × Nat => Nat.blt p.1 n && Nat.blt p.2 n) l) = true → ∀ b, n ≤ b → perm l b = b := by
  intro l
  induction l with
  | nil => exact fun _ _ _ => rfl
  | cons p l ih =>
    obtain ⟨c, d⟩ := p
    intro h b hb
    rw [allB_eq, List.all_cons, ← allB_eq, Bool.and_eq_true, Bool.and_eq_true, blt_iff, blt_iff] at h
    have e := ih h.2 b hb
    show sw (perm l c) d (perm l b) = b
    rw [e, sw_eq]
    have h1 : ¬ b = perm l c := fun e' => by
      have := perm_inj l b c (e.trans e')
      omega
    rw [if_neg h1, if_neg (by omega)]

/-! ### reading -/

/-- All of them: none is struck. -/
def allG : List Bool → Bool
  | [] => true
  | g :: gs => match gs with
    | [] => g
    | gs => g && allG gs
theorem allG_cons (g : Bool) (gs : List Bool) : allG (g :: gs) = (g && allG gs) := by
  cases gs with
  | nil => simp [allG]
  | cons a gs => rfl
theorem allG_append (a b : List Bool) : allG (a ++ b) = true ↔ allG a = true ∧ allG b = true := by
  induction a with
  | nil => simp [allG]
  | cons x a ih => rw [List.cons_append, allG_cons, allG_cons, Bool.and_eq_true, Bool.and_eq_true, ih, and_assoc]
def rdC (top : Bool) (f : Nat → Nat) (bxs : Nat → Option SB) : CS → Cl → Option (List Bool × List Lf)
  | .int k, x => match x with
    | .int k' n => bif decide (k = k') then some ([], [.i n]) else none
    | _ => none
  | .bool, x => match x with
    | .bool b => some ([], [.b b])
    | _ => none
  | .str, x => match x with
    | .str s => some ([], [.s s])
    | _ => none
  | .ints k, x => match x with
    | .ints k' l => bif decide (k = k') then some ([], [.l l]) else none
    | .val (.slice none 0 0) => some ([], [.l []])
    | _ => none
  | .rows ks, x => match x with
    | .rows ks' l => bif ksEq ks ks' then some ([], [.r l]) else none
    | .val (.slice none 0 0) => some ([], [.r []])
    | _ => none
  | .sl c z, x => match x with
    | .sl b n z' nl => bif Nat.beq b (f c) && Nat.beq z z' then (match bxs b with
      | some ⟨ct, _, nl'⟩ => some ([nl == nl', decide (n = ct.len)], [])
      | none => none) else none
    | .val (.slice none 0 0) => bif isNone (bxs (f c)) then some ([], []) else none
    | _ => none
  | .ptr c off, x => match x with
    | .ptr b off' => bif Nat.beq b (f c) && Nat.beq off off' then some ([], []) else none
    | _ => none
  | .mref c, x => match x with
    | .mref b => bif Nat.beq b (f c) then some ([], []) else none
    | _ => none
  | .bself T c, x => match x with
    | .bself T' b u => bif Nat.beq T T' && Nat.beq b (f c) then some ([], [.b u]) else none
    | _ => none
  | .tsl T c, x => match x with
    | .tsl T' b n nl => bif Nat.beq b (f c) && Nat.beq T T' then (match bxs b with
      | some ⟨ct, _, nl'⟩ => some ([nl == nl', decide (n = ct.len)], [])
      | none => none) else none
    | .val (.slice none 0 0) => bif isNone (bxs (f c)) then some ([], []) else none
    | _ => none
  | .fn k, x => match x with
    | .clo k' [] [] => bif Nat.beq k k' then some ([], []) else none
    | _ => none
  | .junk, _ => some ([], [])
  | .nils, x => match x with
    | .val (.slice none 0 0) => some ([], [])
    | _ => none
def mkC (bm : Nat → Option SB) : CS → List Lf → Cl × List Lf
  | .int k, ls => match ls with
    | .i n :: ls => (.int k n, ls)
    | ls => (.junk, ls)
  | .bool, ls => match ls with
    | .b b :: ls => (.bool b, ls)
    | ls => (.junk, ls)
  | .str, ls => match ls with
    | .s s :: ls => (.str s, ls)
    | ls => (.junk, ls)
  | .ints k, ls => match ls with
    | .l l :: ls => (.ints k l, ls)
    | ls => (.junk, ls)
  | .rows ks, ls => match ls with
    | .r l :: ls => (.rows ks l, ls)
    | ls => (.junk, ls)
  | .sl c z, ls => match bm c with
    | some ⟨ct, _, nl⟩ => (.sl c ct.len z nl, ls)
    | none => (.junk, ls)
  | .ptr c off, ls => (.ptr c off, ls)
  | .mref c, ls => (.mref c, ls)
  | .bself T c, ls => match ls with
    | .b u :: ls => (.bself T c u, ls)
    | ls => (.junk, ls)
  | .tsl T c, ls => match bm c with
    | some ⟨ct, _, nl⟩ => (.tsl T c ct.len nl, ls)
    | none => (.junk, ls)
  | .fn k, ls => (.clo k [] [], ls)
  | .junk, ls => (.junk, ls)
  | .nils, ls => (.val (.slice none 0 0), ls)
/-- The boxes made anew are like those that there were. -/
def LikeB (f : Nat → Nat) (bxs bm : Nat → Option SB) : Prop := ∀ c sb, bm c = some sb →
  (∃ sa, bxs (f c) = some sa ∧ sa.ct.len = sb.ct.len ∧ sa.nl = sb.nl) ∨ (bxs (f c) = none ∧ sb.ct.len = 0 ∧ sb.nl = true)
def LikeC (top : Bool) (f : Nat → Nat) (x y : Cl) : Prop := y = .junk ∨ x.den.leC f y.den
theorem rdC_ok {top : Bool} {f : Nat → Nat} {bxs bm : Nat → Option SB} (hB : LikeB f bxs bm) {cs : CS} {x : Cl} {g : List Bool} {l1 : List Lf} (h : rdC top f bxs cs x = some (g, l1)) (hg : allG g = true) (rest : List Lf) :
    ∃ y, mkC bm cs (l1 ++ rest) = (y, rest) ∧ LikeC top f x y := by
  cases cs with
  | int k =>
    simp only [rdC] at h
    split at h
    · obtain ⟨h1, h2⟩ := bif_some h; cases h2; have := of_decide_eq_true h1; subst this; exact ⟨_, rfl, .inr (.inl rfl)⟩
    · cases h
  | bool =>
    simp only [rdC] at h
    split at h
    · cases h; exact ⟨_, rfl, .inr (.inl rfl)⟩
    · cases h
  | str =>
    simp only [rdC] at h
    split at h
    · cases h; exact ⟨_, rfl, .inr (.inl rfl)⟩
    · cases h
  | ints k =>
    simp only [rdC] at h
    split at h
    · obtain ⟨h1, h2⟩ := bif_some h; cases h2; have := of_decide_eq_true h1; subst this; exact ⟨_, rfl, .inr (.inl rfl)⟩
    · cases h; exact ⟨_, rfl, .inr (.inr (.inl ⟨rfl, rfl⟩))⟩
    · cases h
  | rows ks =>
    simp only [rdC] at h
    split at h
    · obtain ⟨h1, h2⟩ := bif_some h; cases h2; have := ksEq_ok h1; subst this; exact ⟨_, rfl, .inr (.inl rfl)⟩
    · cases h; exact ⟨_, rfl, .inr (.inr (.inl ⟨rfl, rfl⟩))⟩
    · cases h
  | sl c z =>
    simp only [rdC] at h
    split at h
    · rename_i b n z' nl
      obtain ⟨h1, h2⟩ := bif_some h
      simp only [Bool.and_eq_true] at h1
      have e1 := Nat.eq_of_beq_eq_true h1.1
      have e2 := Nat.eq_of_beq_eq_true h1.2
      subst e1
      subst e2
      split at h2
      · rename_i ct pub nl' hb
        cases h2
        simp only [allG, Bool.and_eq_true, decide_eq_true_eq, beq_iff_eq] at hg
        obtain ⟨rfl, rfl⟩ := hg
        simp only [mkC]
        cases hbm : bm c with
        | none => exact ⟨_, rfl, .inl rfl⟩
        | some sb =>
          obtain ⟨ct', pub', nl'⟩ := sb
          refine ⟨_, rfl, .inr (.inl ?_)⟩
          rcases hB c _ hbm with ⟨sa, h3, h4, h5⟩ | ⟨h3, _⟩
          · rw [hb] at h3
            cases h3
            show AC.sl (f c) ct.len z nl = AC.sl (f c) ct'.len z nl'
            have h4 : ct.len = ct'.len := h4
            have h5 : nl = nl' := h5
            rw [h4, h5]
          · rw [hb] at h3; cases h3
      · cases h2
    · obtain ⟨h1, h2⟩ := bif_some h
      cases h2
      have hn := (isNone_iff _).1 h1
      simp only [mkC]
      cases hbm : bm c with
      | none => exact ⟨_, rfl, .inl rfl⟩
      | some sb =>
        obtain ⟨ct', pub', nl'⟩ := sb
        refine ⟨_, rfl, .inr (.inr (.inr (.inl ⟨rfl, c, z, ?_⟩)))⟩
        rcases hB c _ hbm with ⟨sa, h3, _⟩ | ⟨_, h4, h5⟩
        · rw [hn] at h3; cases h3
        · have h4 : ct'.len = 0 := h4
          have h5 : nl' = true := h5
          show AC.sl c ct'.len z nl' = _
          rw [h4, h5]
    · cases h
  | ptr c off =>
    simp only [rdC] at h
    split at h
    · obtain ⟨h1, h2⟩ := bif_some h
      cases h2
      simp only [Bool.and_eq_true] at h1
      have e1 := Nat.eq_of_beq_eq_true h1.1
      have e2 := Nat.eq_of_beq_eq_true h1.2
      subst e1
      subst e2
      exact ⟨_, rfl, .inr (.inl rfl)⟩
    · cases h
  | mref c =>
    simp only [rdC] at h
    split at h
    · obtain ⟨h1, h2⟩ := bif_some h; cases h2; have := Nat.eq_of_beq_eq_true h1; subst this; exact ⟨_, rfl, .inr (.inl rfl)⟩
    · cases h
  | bself T c =>
    simp only [rdC] at h
    split at h
    · obtain ⟨h1, h2⟩ := bif_some h
      cases h2
      simp only [Bool.and_eq_true] at h1
      have e1 := Nat.eq_of_beq_eq_true h1.1
      have e2 := Nat.eq_of_beq_eq_true h1.2
      subst e1
      subst e2
      exact ⟨_, rfl, .inr (.inl rfl)⟩
    · cases h
  | tsl T c =>
    simp only [rdC] at h
    split at h
    · rename_i T' b n nl
      obtain ⟨h1, h2⟩ := bif_some h
      simp only [Bool.and_eq_true] at h1
      have e1 := Nat.eq_of_beq_eq_true h1.1
      have e2 := Nat.eq_of_beq_eq_true h1.2
      subst e1
      subst e2
      split at h2
      · rename_i ct pub nl' hb
        cases h2
        simp only [allG, Bool.and_eq_true, decide_eq_true_eq, beq_iff_eq] at hg
        obtain ⟨rfl, rfl⟩ := hg
        simp only [mkC]
        cases hbm : bm c with
        | none => exact ⟨_, rfl, .inl rfl⟩
        | some sb =>
          obtain ⟨ct', pub', nl'⟩ := sb
          refine ⟨_, rfl, .inr (.inl ?_)⟩
          rcases hB c _ hbm with ⟨sa, h3, h4, h5⟩ | ⟨h3, _⟩
          · rw [hb] at h3
            cases h3
            show AC.tsl T (f c) ct.len nl = AC.tsl T (f c) ct'.len nl'
            have h4 : ct.len = ct'.len := h4
            have h5 : nl = nl' := h5
            rw [h4, h5]
          · rw [hb] at h3; cases h3
      · cases h2
    · obtain ⟨h1, h2⟩ := bif_some h
      cases h2
      have hn := (isNone_iff _).1 h1
      simp only [mkC]
      cases hbm : bm c with
      | none => exact ⟨_, rfl, .inl rfl⟩
      | some sb =>
        obtain ⟨ct', pub', nl'⟩ := sb
        refine ⟨_, rfl, .inr (.inr (.inr (.inr ⟨rfl, T, c, ?_⟩)))⟩
        rcases hB c _ hbm with ⟨sa, h3, _⟩ | ⟨_, h4, h5⟩
        · rw [hn] at h3; cases h3
        · have h4 : ct'.len = 0 := h4
          have h5 : nl' = true := h5
          show AC.tsl T c ct'.len nl' = _
          rw [h4, h5]
    · cases h
  | fn k =>
    simp only [rdC] at h
    split at h
    · obtain ⟨h1, h2⟩ := bif_some h; cases h2; have := Nat.eq_of_beq_eq_true h1; subst this; exact ⟨_, rfl, .inr (.inl rfl)⟩
    · cases h
  | junk => cases h; exact ⟨_, rfl, .inl rfl⟩
  | nils =>
    simp only [rdC] at h
    split at h
    · cases h; exact ⟨_, rfl, .inr (.inl rfl)⟩
    · cases h
def rdG (f : Nat → Nat) (bxs : Nat → Option SB) : List GS → List Sg → Option (List Bool × List Lf)
  | [], l => match l with
    | [] => some ([], [])
    | _ :: _ => none
  | .c c :: gs, l => match l with
    | .c x :: l => match rdC false f bxs c x, rdG f bxs gs l with
      | some (g, a), some (g', b) => some (g ++ g', a ++ b)
      | _, _ => none
    | _ => none
  | .arr k n :: gs, l => match l with
    | .arr k' n' xs :: l => bif decide (k = k') && Nat.beq n n' then (match rdG f bxs gs l with
      | some (g', b) => some (g', .l xs :: b)
      | none => none) else none
    | _ => none
def mkG (bm : Nat → Option SB) : List GS → List Lf → List Sg × List Lf
  | [], ls => ([], ls)
  | .c c :: gs, ls => match mkC bm c ls with
    | (x, ls) => match mkG bm gs ls with
      | (l, ls) => (.c x :: l, ls)
  | .arr k n :: gs, ls => match ls with
    | .l xs :: ls => match mkG bm gs ls with
      | (l, ls) => (.arr k n xs :: l, ls)
    | ls => ([], ls)
theorem renL_append (f : Nat → Nat) (a b : List AC) : renL f (a ++ b) = renL f a ++ renL f b := by simp [renL]
theorem arrL_ren (f : Nat → Nat) (k : IntKind) (n : Nat) (l : List Int) : renL f (arrL k n l) = arrL k n l := by simp [renL, arrL, AC.ren]
def sureG (bm : Nat → Option SB) : List GS → Bool
  | [] => true
  | .c .junk :: _ => false
  | .c (.sl c _) :: gs => !isNone (bm c) && sureG bm gs
  | .c (.tsl _ c) :: gs => !isNone (bm c) && sureG bm gs
  | .c _ :: gs => sureG bm gs
  | .arr .. :: gs => sureG bm gs
theorem mkC_sure {bm : Nat → Option SB} {f : Nat → Nat} {bxs : Nat → Option SB} {c : CS} {x : Cl} {g : List Bool} {l1 rest : List Lf} (h : rdC false f bxs c x = some (g, l1)) (hj : c ≠ .junk) (hs : ∀ b z, c = .sl b z → bm b ≠ none) (hst : ∀ T b, c = .tsl T b → bm b ≠ none) {y : Cl} (e : mkC bm c (l1 ++ rest) = (y, rest)) : y ≠ .junk := by
  intro hy
  subst hy
  cases c with
  | junk => exact hj rfl
  | nils => simp [mkC] at e
  | sl b z =>
    simp only [mkC] at e
    cases hb : bm b with
    | none => exact hs b z rfl hb
    | some sb => simp [hb] at e
  | ptr b off => simp [mkC] at e
  | mref b => simp [mkC] at e
  | tsl T b =>
    simp only [mkC] at e
    cases hb : bm b with
    | none => exact hst T b rfl hb
    | some sb => simp [hb] at e
  | bself T b =>
    simp only [rdC] at h
    split at h
    · obtain ⟨_, h2⟩ := bif_some h; cases h2; simp [mkC] at e
    · cases h
  | fn k => simp [mkC] at e
  | int k =>
    simp only [rdC] at h
    split at h
    · obtain ⟨_, h2⟩ := bif_some h; cases h2; simp [mkC] at e
    · cases h
  | bool =>
    simp only [rdC] at h
    split at h
    · cases h; simp [mkC] at e
    · cases h
  | str =>
    simp only [rdC] at h
    split at h
    · cases h; simp [mkC] at e
    · cases h
  | ints k =>
    simp only [rdC] at h
    split at h
    · obtain ⟨_, h2⟩ := bif_some h; cases h2; simp [mkC] at e
    · cases h; simp [mkC] at e
    · cases h
  | rows ks =>
    simp only [rdC] at h
    split at h
    · obtain ⟨_, h2⟩ := bif_some h; cases h2; simp [mkC] at e
    · cases h; simp [mkC] at e
    · cases h
theorem rdG_ok {f : Nat → Nat} {bxs bm : Nat → Option SB} (hB : LikeB f bxs bm) : ∀ {gs : List GS} {l : List Sg} {g : List Bool} {l1 : List Lf}, rdG f bxs gs l = some (g, l1) → allG g = true → sureG bm gs = true → ∀ rest,
    ∃ m, mkG bm gs (l1 ++ rest) = (m, rest) ∧ LeL f (denS l) (denS m)
  | [], l, g, l1, h, _, _, rest => by
    unfold rdG at h
    split at h
    · cases h; exact ⟨[], rfl, .nil⟩
    · cases h
  | .c c :: gs, l, g, l1, h, hg, hs, rest => by
    unfold rdG at h
    split at h
    · rename_i x l
      split at h
      · rename_i g1 a g2 b hx hl
        cases h
        rw [allG_append] at hg
        have hj : c ≠ .junk := fun e => by subst e; cases hs
        have hs1 : ∀ b z, c = .sl b z → bm b ≠ none := fun b z e hn => by
          subst e
          simp only [sureG, Bool.and_eq_true, Bool.not_eq_true'] at hs
          rw [(isNone_iff _).2 hn] at hs; exact absurd hs.1 (by simp)
        have hst1 : ∀ T b, c = .tsl T b → bm b ≠ none := fun T b e hn => by
          subst e
          simp only [sureG, Bool.and_eq_true, Bool.not_eq_true'] at hs
          rw [(isNone_iff _).2 hn] at hs; exact absurd hs.1 (by simp)
        have hs2 : sureG bm gs = true := by
          cases c <;> first | exact hs | (simp only [sureG, Bool.and_eq_true] at hs; exact hs.2) | exact absurd rfl hj
        obtain ⟨y, e1, e2⟩ := rdC_ok hB hx hg.1 (b ++ rest)
        have hne := mkC_sure hx hj hs1 hst1 e1
        obtain ⟨m, e3, e4⟩ := rdG_ok hB hl hg.2 hs2 rest
        refine ⟨.c y :: m, ?_, ?_⟩
        · unfold mkG
          simp only
          rw [List.append_assoc, e1]
          simp only [e3]
        · rw [denS_cons, denS_cons]
          rcases e2 with e2 | e2
          · exact absurd e2 hne
          · exact .cons e2 e4
      · cases h
    · cases h
  | .arr k n :: gs, l, g, l1, h, hg, hs, rest => by
    unfold rdG at h
    split at h
    · rename_i k' n' xs l
      obtain ⟨h1, h2⟩ := bif_some h
      simp only [Bool.and_eq_true, decide_eq_true_eq] at h1
      obtain ⟨rfl, h1⟩ := h1
      have := Nat.eq_of_beq_eq_true h1
      subst this
      split at h2
      · rename_i g' b hl
        cases h2
        obtain ⟨m, e3, e4⟩ := rdG_ok hB hl hg hs rest
        refine ⟨.arr k n xs :: m, ?_, ?_⟩
        · unfold mkG
          simp only [List.cons_append, e3]
        · rw [denS_cons, denS_cons]
          refine LeL.append ?_ e4
          have := LeL.ren f (arrL k n xs)
          rw [arrL_ren] at this; exact this
      · cases h2
    · cases h
def rdT (f : Nat → Nat) (bxs : Nat → Option SB) : TS → SV → Option (List Bool × List Lf)
  | .c c, v => match v with
    | .one (.c x) => rdC true f bxs c x
    | _ => none
  | .agg gs, v => match v with
    | .one (.agg l) => rdG f bxs gs l
    | _ => none
def mkT (bm : Nat → Option SB) : TS → List Lf → SV × List Lf
  | .c c, ls => match mkC bm c ls with
    | (x, ls) => (.one (.c x), ls)
  | .agg gs, ls => match mkG bm gs ls with
    | (l, ls) => (.one (.agg l), ls)
def sureT (bm : Nat → Option SB) : TS → Bool
  | .c _ => true
  | .agg gs => sureG bm gs
theorem rdT_ok {f : Nat → Nat} {bxs bm : Nat → Option SB} (hB : LikeB f bxs bm) {ts : TS} {v : SV} {g : List Bool} {l1 : List Lf} (h : rdT f bxs ts v = some (g, l1)) (hg : allG g = true) (hs : sureT bm ts = true) (rest : List Lf) :
    ∃ y, mkT bm ts (l1 ++ rest) = (y, rest) ∧ v.den.leR f y.den := by
  cases ts with
  | c c =>
    simp only [rdT] at h
    split at h
    · rename_i x
      obtain ⟨y, e1, e2⟩ := rdC_ok hB h hg rest
      refine ⟨.one (.c y), by simp only [mkT, e1], ?_⟩
      rcases e2 with rfl | e2
      · exact .inl rfl
      · exact .inr (.inr (.inr (.inl ⟨_, _, rfl, rfl, e2⟩)))
    · cases h
  | agg gs =>
    simp only [rdT] at h
    split at h
    · rename_i l
      obtain ⟨m, e1, e2⟩ := rdG_ok hB h hg hs rest
      exact ⟨.one (.agg m), by simp only [mkT, e1], .inr (.inr (.inr (.inr ⟨_, _, rfl, rfl, e2⟩)))⟩
    · cases h

/-! ### slices' boxes -/

def rdPub (p : Bool) (pub : Nat) : Option (List Lf) := match p with
  | true => some [.n pub]
  | false => match pub with
    | 0 => some []
    | _ + 1 => none
def rdNl (p : Bool) (nl : Bool) : Option (List Lf) := match p with
  | true => some [.b nl]
  | false => match nl with
    | false => some []
    | true => none
def rdK : SK → Ct → Option Lf
  | .ints k, ct => match ct with
    | .ints k' l => bif decide (k = k') then some (.l l) else none
    | _ => none
  | .rows ks, ct => match ct with
    | .rows ks' l => bif ksEq ks ks' then some (.r l) else none
    | _ => none
  | .mp k k', ct => match ct with
    | .mp j j' l => bif decide (k = j) && decide (k' = j') then some (.m l) else none
    | _ => none
def isMp : SK → Bool
  | .mp .. => true
  | _ => false
def rdS (sh : SlS) : Option SB → Option (List Lf)
  | some ⟨ct, pub, nl⟩ => match rdK sh.c ct, rdPub sh.pub pub, rdNl sh.nl nl with
    | some a, some b, some c => some (a :: (b ++ c))
    | _, _, _ => none
  | none => bif isMp sh.c then none else match sh.nl, sh.pub with
    | true, false => some [match sh.c with
      | .ints _ => .l []
      | .rows _ => .r []
      | .mp _ _ => .m [], .b true]
    | true, true => some [match sh.c with
      | .ints _ => .l []
      | .rows _ => .r []
      | .mp _ _ => .m [], .n 0, .b true]
    | false, _ => none
def mkPub (p : Bool) (ls : List Lf) : Nat × List Lf := match p with
  | true => match ls with
    | .n pub :: ls => (pub, ls)
    | ls => (0, ls)
  | false => (0, ls)
def mkNl (p : Bool) (ls : List Lf) : Bool × List Lf := match p with
  | true => match ls with
    | .b nl :: ls => (nl, ls)
    | ls => (false, ls)
  | false => (false, ls)
def mkK : SK → Lf → Ct
  | .ints k, x => match x with
    | .l l => .ints k l
    | _ => .ints k []
  | .rows ks, x => match x with
    | .r l => .rows ks l
    | _ => .rows ks []
  | .mp k k', x => match x with
    | .m l => .mp k k' l
    | _ => .mp k k' []
def mkB (ct : Ct) (pub : Nat) (nl : Bool) : SB := match ct with
  | .ints k l => ⟨.ints k l, pub, nl⟩
  | .rows ks l => ⟨.rows ks l, pub, nl⟩
  | .sg l => ⟨.sg l, pub, nl⟩
  | .mp k k' l => ⟨.mp k k' l, pub, nl⟩
theorem mkB_eq (ct : Ct) (pub : Nat) (nl : Bool) : mkB ct pub nl = ⟨ct, pub, nl⟩ := by cases ct <;> rfl
def mkS (sh : SlS) (ls : List Lf) : SB × List Lf := match ls with
  | a :: ls => match mkPub sh.pub ls with
    | (pub, ls) => match mkNl sh.nl ls with
      | (nl, ls) => (mkB (mkK sh.c a) pub nl, ls)
  | [] => (⟨mkK sh.c (.b false), 0, false⟩, [])
theorem Kd.ren_den (k : Kd) (x : D) (f : Nat → Nat) : (k.den x).ren f = k.den x := by cases k <;> rfl
theorem cellsK_ren (f : Nat → Nat) (row : List D) : ∀ (ks : List Kd) (j : Nat), renL f (cellsK row ks j) = cellsK row ks j
  | [], _ => rfl
  | k :: ks, j => by
    have := cellsK_ren f row ks (j + 1)
    unfold renL at this ⊢
    rw [cellsK, List.map_cons, Kd.ren_den, this]
theorem mkK_ren (sk : SK) (x : Lf) (f : Nat → Nat) : renL f (mkK sk x).den = (mkK sk x).den := by
  cases sk with
  | ints k => cases x <;> simp [mkK, Ct.den, renL, IL, AC.ren]
  | mp k k' => cases x <;> rfl
  | rows ks =>
    have : ∃ l, mkK (.rows ks) x = .rows ks l := by cases x <;> exact ⟨_, rfl⟩
    obtain ⟨l, e⟩ := this
    rw [e]
    show renL f (rowsL ks _) = rowsL ks _
    clear e
    induction l with
    | nil => rfl
    | cons r l ih => rw [rowsL_cons, renL_append, cellsK_ren, ih]
def LikeS (a : Option SB) (b : SB) : Prop := a = some b ∨ (a = none ∧ b.ct.den = [] ∧ b.ct.len = 0 ∧ b.pub = 0 ∧ b.nl = true ∧ b.ct.obj = none)
theorem rdS_ok {sh : SlS} {a : Option SB} {l1 : List Lf} (h : rdS sh a = some l1) (rest : List Lf) : ∃ b, mkS sh (l1 ++ rest) = (b, rest) ∧ LikeS a b ∧ ∀ f, renL f b.ct.den = b.ct.den := by
  unfold rdS at h
  split at h
  · rename_i ct pub nl
    split at h
    · rename_i x p q hx hp hq
      cases h
      refine ⟨⟨ct, pub, nl⟩, ?_, .inl rfl, ?_⟩
      rotate_left
      · have e1 : mkK sh.c x = ct := by
          unfold rdK at hx
          split at hx
          · rename_i k hk
            split at hx
            · obtain ⟨h1, h2⟩ := bif_some hx; cases h2; have := of_decide_eq_true h1; subst this; rw [hk]; rfl
            · cases hx
          · rename_i ks hk
            split at hx
            · obtain ⟨h1, h2⟩ := bif_some hx; cases h2; have := ksEq_ok h1; subst this; rw [hk]; rfl
            · cases hx
          · rename_i k k' hk
            split at hx
            · obtain ⟨h1, h2⟩ := bif_some hx; cases h2; simp only [Bool.and_eq_true, decide_eq_true_eq] at h1; obtain ⟨rfl, rfl⟩ := h1; rw [hk]; rfl
            · cases hx
        intro f
        show renL f ct.den = ct.den
        rw [← e1]; exact mkK_ren _ _ f
      have e1 : mkK sh.c x = ct := by
        unfold rdK at hx
        split at hx
        · rename_i k hk
          split at hx
          · obtain ⟨h1, h2⟩ := bif_some hx; cases h2; have := of_decide_eq_true h1; subst this; rw [hk]; rfl
          · cases hx
        · rename_i ks hk
          split at hx
          · obtain ⟨h1, h2⟩ := bif_some hx; cases h2; have := ksEq_ok h1; subst this; rw [hk]; rfl
          · cases hx
        · rename_i k k' hk
          split at hx
          · obtain ⟨h1, h2⟩ := bif_some hx; cases h2; simp only [Bool.and_eq_true, decide_eq_true_eq] at h1; obtain ⟨rfl, rfl⟩ := h1; rw [hk]; rfl
          · cases hx
      have e2 : ∀ r, mkPub sh.pub (p ++ r) = (pub, r) := fun r => by
        generalize sh.pub = q at hp
        cases q with
        | true => cases hp; rfl
        | false => cases pub with
          | zero => cases hp; rfl
          | succ _ => cases hp
      have e3 : ∀ r, mkNl sh.nl (q ++ r) = (nl, r) := fun r => by
        generalize sh.nl = q at hq
        cases q with
        | true => cases hq; rfl
        | false => cases nl with
          | false => cases hq; rfl
          | true => cases hq
      simp only [mkS, List.cons_append, List.append_assoc, e1, e2, e3, mkB_eq]
    · cases h
  · cases hmp : isMp sh.c with
    | true => rw [hmp] at h; cases h
    | false =>
    rw [hmp] at h
    have h : (match sh.nl, sh.pub with
      | true, false => some [match sh.c with
        | .ints _ => .l []
        | .rows _ => .r []
        | .mp _ _ => .m [], .b true]
      | true, true => some [match sh.c with
        | .ints _ => .l []
        | .rows _ => .r []
        | .mp _ _ => .m [], .n 0, .b true]
      | false, _ => none) = some l1 := h
    have hobj : (mkK sh.c (match sh.c with | .ints _ => .l [] | .rows _ => .r [] | .mp _ _ => .m [])).obj = none := by
      cases hc : sh.c with
      | mp k k' => rw [hc] at hmp; cases hmp
      | ints k => rfl
      | rows ks => rfl
    split at h
    · rename_i h1 h2
      cases h
      refine ⟨⟨mkK sh.c (match sh.c with | .ints _ => .l [] | .rows _ => .r [] | .mp _ _ => .m []), 0, true⟩, ?_, .inr ⟨rfl, ?_, ?_, rfl, rfl, hobj⟩, fun f => mkK_ren _ _ f⟩
      · simp only [mkS, List.cons_append, List.nil_append, h1, h2, mkPub, mkNl, mkB_eq]
      · show (mkK sh.c _).den = []
        cases sh.c <;> rfl
      · show (mkK sh.c _).len = 0
        cases sh.c <;> rfl
    · rename_i h1 h2
      cases h
      refine ⟨⟨mkK sh.c (match sh.c with | .ints _ => .l [] | .rows _ => .r [] | .mp _ _ => .m []), 0, true⟩, ?_, .inr ⟨rfl, ?_, ?_, rfl, rfl, hobj⟩, fun f => mkK_ren _ _ f⟩
      · simp only [mkS, List.cons_append, List.nil_append, h1, h2, mkPub, mkNl, mkB_eq]
      · show (mkK sh.c _).den = []
        cases sh.c <;> rfl
      · show (mkK sh.c _).len = 0
        cases sh.c <;> rfl
    · cases h

/-! ### a whole state -/

def colC : CS → Cl → List (Nat × Nat)
  | .sl c _, x => match x with
    | .sl b _ _ _ => [(c, b)]
    | _ => []
  | .ptr c _, x => match x with
    | .ptr b _ => bif Nat.beq c b then [] else [(c, b)]
    | _ => []
  | .mref c, x => match x with
    | .mref b => bif Nat.beq c b then [] else [(c, b)]
    | _ => []
  | .bself _ c, x => match x with
    | .bself _ b _ => bif Nat.beq c b then [] else [(c, b)]
    | _ => []
  | .tsl _ c, x => match x with
    | .tsl _ b _ _ => [(c, b)]
    | _ => []
  | _, _ => []
def colG : List GS → List Sg → List (Nat × Nat)
  | .c c :: gs, l => match l with
    | .c x :: l => colC c x ++ colG gs l
    | _ => []
  | .arr .. :: gs, l => match l with
    | _ :: l => colG gs l
    | [] => []
  | [], _ => []
def colT : TS → SV → List (Nat × Nat)
  | .c c, v => match v with
    | .one (.c x) => colC c x
    | _ => []
  | .agg gs, v => match v with
    | .one (.agg l) => colG gs l
    | _ => []
def colA (s : SS) : List (Nat × TS) → List (Nat × Nat)
  | [] => []
  | (t, x) :: l => colT x (s.get t) ++ colA s l
def colB (s : SS) : List (Nat × List GS) → List (Nat × Nat)
  | [] => []
  | (b, gs) :: l => (match s.box b with
    | some ⟨.sg m, _, _⟩ => colG gs m
    | _ => []) ++ colB s l
def rdSs (f : Nat → Nat) (s : SS) : List (Nat × SlS) → Option (List Lf)
  | [] => some []
  | (c, sh) :: l => match rdS sh (s.box (f c)), rdSs f s l with
    | some a, some b => some (a ++ b)
    | _, _ => none
def mkSs : List (Nat × SlS) → List Lf → List (Nat × Option SB) × List Lf
  | [], ls => ([], ls)
  | (c, sh) :: l, ls => match mkS sh ls with
    | (b, ls) => match mkSs l ls with
      | (m, ls) => ((c, some b) :: m, ls)
def rdGs (f : Nat → Nat) (s : SS) : List (Nat × List GS) → Option (List Bool × List Lf)
  | [] => some ([], [])
  | (c, gs) :: l => match s.box (f c) with
    | some ⟨.sg m, 0, false⟩ => match rdG f s.box gs m, rdGs f s l with
      | some (g, a), some (g', b) => some (g ++ g', a ++ b)
      | _, _ => none
    | _ => none
def mkGs (bm : Nat → Option SB) : List (Nat × List GS) → List Lf → List (Nat × Option SB) × List Lf
  | [], ls => ([], ls)
  | (c, gs) :: l, ls => match mkG bm gs ls with
    | (m, ls) => match mkGs bm l ls with
      | (r, ls) => ((c, some ⟨.sg m, 0, false⟩) :: r, ls)
def rdTs (f : Nat → Nat) (s : SS) : List (Nat × TS) → Option (List Bool × List Lf)
  | [] => some ([], [])
  | (t, x) :: l => match rdT f s.box x (s.get t), rdTs f s l with
    | some (g, a), some (g', b) => some (g ++ g', a ++ b)
    | _, _ => none
def mkTs (bm : Nat → Option SB) : List (Nat × TS) → List Lf → List (Nat × SV) × List Lf
  | [], ls => ([], ls)
  | (t, x) :: l, ls => match mkT bm x ls with
    | (v, ls) => match mkTs bm l ls with
      | (r, ls) => ((t, v) :: r, ls)
def mkSt (sh : Shape) (ls : List Lf) : SS :=
  match mkSs sh.sl ls with
  | (a, ls) => match mkGs (look none a) sh.bx ls with
    | (b, ls) => match mkTs (look none a) sh.t ls with
      | (t, _) => ⟨sh.n, t, b ++ a⟩
def fstIn (c : Nat) : List (Nat × SlS) → Bool
  | [] => false
  | (c', _) :: l => bif Nat.beq c' c then true else fstIn c l
def sureC (sl : List (Nat × SlS)) : List GS → Bool
  | [] => true
  | .c .junk :: _ => false
  | .c (.sl c _) :: gs => fstIn c sl && sureC sl gs
  | .c (.tsl _ c) :: gs => fstIn c sl && sureC sl gs
  | .c _ :: gs => sureC sl gs
  | .arr .. :: gs => sureC sl gs
def sureAll (sh : Shape) : Bool :=
  allB (fun p : Nat × List GS => sureC sh.sl p.2 && !fstIn p.1 sh.sl) sh.bx &&
  allB (fun p : Nat × TS => match p.2 with
    | .c _ => true
    | .agg gs => sureC sh.sl gs) sh.t
def rdSt (sh : Shape) (s : SS) : Option (List Bool × List Lf) :=
  let as := colB s sh.bx ++ colA s sh.t
  bif Nat.beq s.n sh.n && sureAll sh && allB (fun p : Nat × Nat => Nat.blt p.1 s.n && Nat.blt p.2 s.n) as then
    (match rdSs (perm as) s sh.sl, rdGs (perm as) s sh.bx, rdTs (perm as) s sh.t with
    | some a, some (g, b), some (g', c) => some (g ++ g', a ++ (b ++ c))
    | _, _, _ => none) else none
theorem rdSs_ok {f : Nat → Nat} {s : SS} : ∀ {l : List (Nat × SlS)} {l1 : List Lf}, rdSs f s l = some l1 → ∀ rest, ∃ m, mkSs l (l1 ++ rest) = (m, rest) ∧ (∀ p ∈ m, ∃ b, p.2 = some b ∧ LikeS (s.box (f p.1)) b ∧ ∀ f, renL f b.ct.den = b.ct.den) ∧ ∀ c, fstIn c l = true → look none m c ≠ none
  | [], l1, h, rest => by cases h; exact ⟨[], rfl, by simp, fun c h => by cases h⟩
  | (c, sh) :: l, l1, h, rest => by
    unfold rdSs at h
    split at h
    · rename_i a b ha hb
      cases h
      obtain ⟨x, e1, e2⟩ := rdS_ok ha (b ++ rest)
      obtain ⟨m, e3, e4, e5⟩ := rdSs_ok hb rest
      refine ⟨(c, some x) :: m, ?_, ?_, fun c' hc => ?_⟩
      · unfold mkSs
        rw [List.append_assoc, e1]
        simp only [e3]
      · intro p hp
        rcases List.mem_cons.1 hp with rfl | hp
        · exact ⟨x, rfl, e2⟩
        · exact e4 p hp
      · simp only [look]
        unfold fstIn at hc
        cases hb' : Nat.beq c c' with
        | true => simp
        | false => rw [hb'] at hc; exact e5 c' hc
    · cases h
theorem sureC_ok {sl : List (Nat × SlS)} {bm : Nat → Option SB} (h : ∀ c, fstIn c sl = true → bm c ≠ none) : ∀ {gs : List GS}, sureC sl gs = true → sureG bm gs = true
  | [], _ => rfl
  | .arr k n :: gs, hs => sureC_ok h (gs := gs) hs
  | .c c :: gs, hs => by
    cases c with
    | junk => cases hs
    | sl c z =>
      simp only [sureC, Bool.and_eq_true] at hs
      simp only [sureG, Bool.and_eq_true, Bool.not_eq_true']
      refine ⟨?_, sureC_ok h hs.2⟩
      cases hb : bm c with
      | none => exact absurd hb (h c hs.1)
      | some x => rfl
    | tsl T c =>
      simp only [sureC, Bool.and_eq_true] at hs
      simp only [sureG, Bool.and_eq_true, Bool.not_eq_true']
      refine ⟨?_, sureC_ok h hs.2⟩
      cases hb : bm c with
      | none => exact absurd hb (h c hs.1)
      | some x => rfl
    | _ => exact sureC_ok h (gs := gs) hs
theorem rdGs_ok {f : Nat → Nat} {s : SS} {bm : Nat → Option SB} (hB : LikeB f s.box bm) : ∀ {l : List (Nat × List GS)} {g : List Bool} {l1 : List Lf}, rdGs f s l = some (g, l1) → allG g = true → (∀ p ∈ l, sureG bm p.2 = true) → ∀ rest,
    ∃ m, mkGs bm l (l1 ++ rest) = (m, rest) ∧ ∀ p ∈ m, ∃ b a, p.2 = some b ∧ (s.box (f p.1)).map SB.den = some a ∧ a.leB f b.den
  | [], g, l1, h, _, _, rest => by cases h; exact ⟨[], rfl, by simp⟩
  | (c, gs) :: l, g, l1, h, hg, hs, rest => by
    unfold rdGs at h
    split at h
    · rename_i m hb
      split at h
      · rename_i g1 a g2 b ha hb'
        cases h
        rw [allG_append] at hg
        obtain ⟨m', e1, e2⟩ := rdG_ok hB ha hg.1 (hs (c, gs) (by simp)) (b ++ rest)
        obtain ⟨r, e3, e4⟩ := rdGs_ok hB hb' hg.2 (fun p hp => hs p (by simp [hp])) rest
        refine ⟨(c, some ⟨.sg m', 0, false⟩) :: r, ?_, ?_⟩
        · unfold mkGs
          rw [List.append_assoc, e1]
          simp only [e3]
        · intro p hp
          rcases List.mem_cons.1 hp with rfl | hp
          · refine ⟨_, (SB.mk (.sg m) 0 false).den, rfl, ?_, ⟨e2, rfl, rfl, rfl, rfl⟩⟩
            show (s.box (f c)).map SB.den = _
            rw [hb]; rfl
          · exact e4 p hp
      · cases h
    · cases h
theorem rdTs_ok {f : Nat → Nat} {s : SS} {bm : Nat → Option SB} (hB : LikeB f s.box bm) : ∀ {l : List (Nat × TS)} {g : List Bool} {l1 : List Lf}, rdTs f s l = some (g, l1) → allG g = true → (∀ p ∈ l, sureT bm p.2 = true) → ∀ rest,
    ∃ m, mkTs bm l (l1 ++ rest) = (m, rest) ∧ ∀ p ∈ m, (s.get p.1).den.leR f p.2.den
  | [], g, l1, h, _, _, rest => by cases h; exact ⟨[], rfl, by simp⟩
  | (t, x) :: l, g, l1, h, hg, hs, rest => by
    unfold rdTs at h
    split at h
    · rename_i g1 a g2 b ha hb'
      cases h
      rw [allG_append] at hg
      obtain ⟨v, e1, e2⟩ := rdT_ok hB ha hg.1 (hs (t, x) (by simp)) (b ++ rest)
      obtain ⟨r, e3, e4⟩ := rdTs_ok hB hb' hg.2 (fun p hp => hs p (by simp [hp])) rest
      refine ⟨(t, v) :: r, ?_, ?_⟩
      · unfold mkTs
        rw [List.append_assoc, e1]
        simp only [e3]
      · intro p hp
        rcases List.mem_cons.1 hp with rfl | hp
        · exact e2
        · exact e4 p hp
    · cases h
theorem look_append {α : Type} (d : α) (a b : List (Nat × α)) (t : Nat) : look d (a ++ b) t = look d a t ∨ look d (a ++ b) t = look d b t := by
  induction a with
  | nil => exact .inr rfl
  | cons p a ih =>
    obtain ⟨j, x⟩ := p
    simp only [List.cons_append, look]
    cases Nat.beq j t with
    | true => exact .inl rfl
    | false => exact ih
theorem rdSt_le {sh : Shape} {s : SS} {g : List Bool} {ls : List Lf} (h : rdSt sh s = some (g, ls)) (hg : allG g = true) : s.den.le (mkSt sh ls).den := by
  unfold rdSt at h
  dsimp only at h
  obtain ⟨h1, h2⟩ := bif_some h
  simp only [Bool.and_eq_true] at h1
  obtain ⟨⟨hn, hsure⟩, hlt⟩ := h1
  have hn := Nat.eq_of_beq_eq_true hn
  split at h2
  · rename_i a g1 b g2 c ha hb hc
    cases h2
    rw [allG_append] at hg
    simp only [sureAll, Bool.and_eq_true, allB_eq, List.all_eq_true] at hsure
    generalize hf : perm (colB s sh.bx ++ colA s sh.t) = f at ha hb hc
    have inj : ∀ x y, f x = f y → x = y := by rw [← hf]; exact perm_inj _
    have high : ∀ b, s.n ≤ b → f b = b := by rw [← hf]; exact perm_high _ _ hlt
    obtain ⟨ma, a1, a2, a3⟩ := rdSs_ok ha (b ++ c)
    have hB : LikeB f s.box (look none ma) := fun c sb e => by
      rcases look_mem (d := (none : Option SB)) (l := ma) (t := c) with g | g
      · rw [g] at e; cases e
      · obtain ⟨x, e1, e2, _⟩ := a2 _ g
        have e1 : look none ma c = some x := e1
        rw [e] at e1
        cases e1
        rcases e2 with e2 | ⟨e2, e3, e4, e5, e6, e60⟩
        · exact .inl ⟨_, e2, rfl, rfl⟩
        · exact .inr ⟨e2, e4, e6⟩
    have sureB : ∀ p ∈ sh.bx, sureG (look none ma) p.2 = true := fun p hp => by
      have := hsure.1 p hp
      exact sureC_ok a3 this.1
    have sureTT : ∀ p ∈ sh.t, sureT (look none ma) p.2 = true := fun p hp => by
      have := hsure.2 p hp
      obtain ⟨t, x⟩ := p
      cases x with
      | c _ => rfl
      | agg gs => exact sureC_ok a3 this
    obtain ⟨mb, b1, b2⟩ := rdGs_ok hB hb hg.1 sureB c
    obtain ⟨mt, t1, t2⟩ := rdTs_ok hB hc hg.2 sureTT []
    rw [List.append_nil] at t1
    have e : mkSt sh (a ++ (b ++ c)) = ⟨sh.n, mt, mb ++ ma⟩ := by
      unfold mkSt
      simp only [a1, b1, t1]
    rw [e]
    refine ⟨f, ⟨inj, high⟩, hn, fun t _ => ?_, fun b' _ => ?_⟩
    · show (s.get t).den.leR f (look (.one (.c .junk)) mt t).den
      rcases look_mem (d := SV.one (.c .junk)) (l := mt) (t := t) with g | g
      · rw [g]; exact .inl rfl
      · exact t2 _ g
    · show ((look none (mb ++ ma) b').map SB.den = none) ∨ _
      have key : ∀ m : List (Nat × Option SB), (∀ p ∈ m, ∃ b, p.2 = some b ∧ ((∃ a, (s.box (f p.1)).map SB.den = some a ∧ a.leB f b.den) ∨ LikeS (s.box (f p.1)) b ∧ b.den.ren f = b.den)) →
          ((look none m b').map SB.den = none) ∨ (∃ r, (look none m b').map SB.den = some ⟨[], 0, true, r, none⟩) ∨ (∃ bx, (look none m b').map SB.den = some bx ∧ s.den.box (f b') = some (bx.ren f)) ∨ ∃ bx a, (look none m b').map SB.den = some bx ∧ s.den.box (f b') = some a ∧ a.leB f bx := by
        intro m hm
        rcases look_mem (d := (none : Option SB)) (l := m) (t := b') with g | g
        · rw [g]; exact .inl rfl
        · obtain ⟨x, e1, e2⟩ := hm _ g
          have e1 : look none m b' = some x := e1
          rw [e1]
          rcases e2 with ⟨a, e2, e3⟩ | ⟨e2 | ⟨e2, e3, e4, e5, e6, e60⟩, e7⟩
          · exact .inr (.inr (.inr ⟨_, _, rfl, e2, e3⟩))
          · refine .inr (.inr (.inl ⟨_, rfl, ?_⟩))
            show (s.box (f b')).map SB.den = _
            rw [e7, e2]; rfl
          · refine .inr (.inl ⟨false, ?_⟩)
            show some (Box.mk x.ct.den x.pub x.nl false x.ct.obj) = _
            rw [e3, e5, e6, e60]
      have hS : ∀ p ∈ ma, ∃ b, p.2 = some b ∧ ((∃ a, (s.box (f p.1)).map SB.den = some a ∧ a.leB f b.den) ∨ LikeS (s.box (f p.1)) b ∧ b.den.ren f = b.den) := fun p hp => by
        obtain ⟨x, e1, e2, e3⟩ := a2 p hp
        refine ⟨x, e1, .inr ⟨e2, ?_⟩⟩
        show Box.mk (renL f x.ct.den) x.pub x.nl false x.ct.obj = Box.mk x.ct.den x.pub x.nl false x.ct.obj
        rw [e3 f]
      have hgoal : (SS.den ⟨sh.n, mt, mb ++ ma⟩).box b' = (look none (mb ++ ma) b').map SB.den := rfl
      rw [hgoal]
      rcases look_append (none : Option SB) mb ma b' with g | g
      · rw [g]
        exact key mb fun p hp => by obtain ⟨x, a, e1, e2, e3⟩ := b2 p hp; exact ⟨x, e1, .inl ⟨a, e2, e3⟩⟩
      · rw [g]
        exact key ma hS
  · cases h2
end Go.Sy
/-
  Symbolic values, part 7: code by cuts, and functions.
-/
namespace Go.Sy
open Go.Ev
set_option linter.unusedVariables false
set_option linter.unusedSimpArgs false

def nl : Code → Nat
  | .seq x y => nl x + nl y
  | .cond _ x y => nl x + nl y
  | .block _ c => nl c
  | .loop c => nl c + 1
  | _ => 0
def goesS (next : SS → Option Out) (K : Ex → SS → Option Out) : Ex → SS → Option Out
  | .normal, s => next s
  | e, s => K e s
def inBlockS (id : Nat) (K : Ex → SS → Option Out) : Ex → SS → Option Out
  | .exit id', s => bif Nat.beq id' id then K .normal s else K (.exit id') s
  | e, s => K e s
/-- A loop's head is reached. -/
def headS (sh : Nat → Shape) (H : Hd) (o : Nat) (s : SS) : Option Out :=
  match rdSt (sh o) s with
  | some (g, ls) => bif allG g then H o ls else none
  | none => none
def backS (hd : Nat → SS → Option Out) (o : Nat) (K : Ex → SS → Option Out) : Ex → SS → Option Out
  | .normal, s => hd o s
  | e, s => K e s
def tmpOf : Operand → Option Nat
  | .tmp t => some t
  | _ => none
def condS (s : SS) (c : Operand) (v : SV) (x y : SS → Option Out) : Option Out := match v with
  | .one (.c (.bool b)) => bif b then x (know s (tmpOf c) true) else y (know s (tmpOf c) false)
  | _ => none
theorem know_op {e : Ev'} {s : SS} {c : Operand} {b : Bool} (h : evS e.G s c = c1 (.bool b)) : (know s (tmpOf c) b).den = s.den := by
  cases c with
  | tmp t => exact know_den h rfl
  | _ => rfl
def runC (e : Ev') (hd : Nat → SS → Option Out) : Code → Nat → SS → (Ex → SS → Option Out) → Option Out
  | .skip, _, s, K => K .normal s
  | .region _ ops d, _, s, K => match d with
    | false => runS e ops ops.toList s (K .normal)
    | true => runD e ops ops.toList s [] fun rcs s' => bif orderS ops rcs s then K .normal s' else none
  | .seq x y, o, s, K => runC e hd x o s (goesS (fun s => runC e hd y (o + nl x) s K) K)
  | .cond c x y, o, s, K => condS s c (evS e.G s c) (fun s => runC e hd x o s K) (fun s => runC e hd y (o + nl x) s K)
  | .block id c, o, s, K => runC e hd c o s (inBlockS id K)
  | .loop _, o, s, _ => hd o s
  | .exit id, _, s, K => K (.exit id) s
  | .label _, _, s, K => K .normal s
  | .ret, _, s, K => K .ret s
  | _, _, _, _ => none
/-- What a round of the i-th loop comes to, and what is behind it. -/
def atL (e : Ev') (hd : Nat → SS → Option Out) (i : Nat) : Code → Nat → (Ex → SS → Option Out) → Option (SS → Option Out)
  | .seq x y, o, K => bif Nat.blt i (o + nl x) then atL e hd i x o (goesS (fun s => runC e hd y (o + nl x) s K) K) else atL e hd i y (o + nl x) K
  | .cond _ x y, o, K => bif Nat.blt i (o + nl x) then atL e hd i x o K else atL e hd i y (o + nl x) K
  | .block id c, o, K => atL e hd i c o (inBlockS id K)
  | .loop c, o, K => bif Nat.beq i o then some (fun s => runC e hd c (o + 1) s (backS hd o K)) else atL e hd i c (o + 1) (backS hd o K)
  | _, _, _ => none
section eqs
variable (e : Ev') (hd : Nat → SS → Option Out) (i o : Nat) (K : Ex → SS → Option Out)
theorem atL_seq (x y : Code) : atL e hd i (.seq x y) o K = bif Nat.blt i (o + nl x) then atL e hd i x o (goesS (fun s => runC e hd y (o + nl x) s K) K) else atL e hd i y (o + nl x) K := rfl
theorem atL_cond (c : Operand) (x y : Code) : atL e hd i (.cond c x y) o K = bif Nat.blt i (o + nl x) then atL e hd i x o K else atL e hd i y (o + nl x) K := rfl
theorem atL_block (id : Nat) (c : Code) : atL e hd i (.block id c) o K = atL e hd i c o (inBlockS id K) := rfl
theorem atL_loop (c : Code) : atL e hd i (.loop c) o K = bif Nat.beq i o then some (fun s => runC e hd c (o + 1) s (backS hd o K)) else atL e hd i c (o + 1) (backS hd o K) := rfl
end eqs
def segH (e : Ev') (sh : Nat → Shape) (c : Code) (Kt : Ex → SS → Option Out) (H : Hd) : Hd := fun i ls =>
  match atL e (headS sh H) i c 0 Kt with
  | some f => f (mkSt (sh i) ls)
  | none => none
def HN (e : Ev') (sh : Nat → Shape) (c : Code) (Kt : Ex → SS → Option Out) : Nat → Hd
  | 0 => fun _ _ => none
  | n + 1 => segH e sh c Kt (HN e sh c Kt n)

theorem least {p : Nat → Prop} (h : ∃ n, p n) : ∃ n, p n ∧ ∀ m, p m → n ≤ m := by
  obtain ⟨n, hn⟩ := h
  induction n using Nat.strongRecOn with
  | _ n ih =>
    by_cases hm : ∃ m, m < n ∧ p m
    · obtain ⟨m, h1, h2⟩ := hm; exact ih m h1 h2
    · exact ⟨n, hn, fun m h => Nat.not_lt.1 fun hl => hm ⟨m, hl, h⟩⟩
theorem leastOf (Inv : Nat → St → Prop) : ∃ f : St → Nat, ∀ s, (∃ n, Inv n s) → Inv (f s) s ∧ ∀ n, Inv n s → f s ≤ n := by
  have : ∀ s, ∃ k, (∃ n, Inv n s) → Inv k s ∧ ∀ n, Inv n s → k ≤ n := fun s => by
    by_cases h : ∃ n, Inv n s
    · obtain ⟨k, h1⟩ := least (p := fun n => Inv n s) h; exact ⟨k, fun _ => h1⟩
    · exact ⟨0, fun h' => (h h').elim⟩
  exact ⟨fun s => Classical.choose (this s), fun s h => Classical.choose_spec (this s) h⟩

section sound
variable {C : Cfg} {e : Ev'} {sh : Nat → Shape} {c0 : Code} {Kt : Ex → SS → Option Out} {out : Out}
/-- The loops of a piece of code go on as that piece is left. -/
def LoopsAt (e : Ev') (sh : Nat → Shape) (F : Nat → Hd) (x : Code) (o : Nat) (K : Hd → Ex → SS → Option Out) : Prop :=
  ∀ n i ls, o ≤ i → i < o + nl x → F (n + 1) i ls = (match atL e (headS sh (F n)) i x o (K (F n)) with
    | some f => f (mkSt (sh i) ls)
    | none => none)
theorem headS_le {H : Hd} {o : Nat} {s : SS} (h : headS sh H o s = some out) : ∃ ls, s.den.le (mkSt (sh o) ls).den ∧ H o ls = some out := by
  unfold headS at h
  split at h
  · rename_i g ls hr
    obtain ⟨h1, h2⟩ := bif_some h
    exact ⟨ls, rdSt_le hr h1, h2⟩
  · cases h
theorem runC_ok (hc : Gd C e) {F : Nat → Hd} (F0 : ∀ i ls, F 0 i ls = none) (x : Code) : ∀ (o N : Nat) (K : Hd → Ex → SS → Option Out) (Ks : Ex → St → Prop),
    (∀ n, n ≤ N → ∀ ex s, K (F n) ex s = some out → Ks ex s.den) → LoopsAt e sh F x o K → ∀ n, n ≤ N → ∀ s, runC e (headS sh (F n)) x o s (K (F n)) = some out → WPc C x Ks s.den := by
  induction x with
  | skip => intro o N K Ks hk _ n hn s h; exact hk n hn _ s h
  | label l => intro o N K Ks hk _ n hn s h; exact hk n hn _ s h
  | exit id => intro o N K Ks hk _ n hn s h; exact hk n hn _ s h
  | ret => intro o N K Ks hk _ n hn s h; exact hk n hn _ s h
  | region id ops d =>
    intro o N K Ks hk _ n hn s h
    cases d with
    | false => exact runS_ok hc (hk n hn .normal) _ _ h
    | true =>
      refine runD_ok hc (Kp := fun rcs s' => orderOk ops rcs s.den ∧ Ks .normal s') ?_ _ _ [] h
      intro l s' h'
      obtain ⟨h1, h2⟩ := bif_some h'
      exact ⟨orderS_ok h1, hk n hn _ _ h2⟩
  | seq x y ihx ihy =>
    intro o N K Ks hk hl n hn s h
    refine ihx o N (fun H => goesS (fun s => runC e (headS sh H) y (o + nl x) s (K H)) (K H)) _ ?_ ?_ n hn s h
    · intro m hm ex s' h'
      cases ex with
      | normal =>
        refine ihy (o + nl x) N K Ks hk ?_ m hm s' h'
        intro m i ls h1 h2
        rw [hl m i ls (by omega) (by show i < o + (nl x + nl y); omega)]
        rw [atL_seq, (blt_not i (o + nl x)).2 h1, cond_false]
      | exit id => exact hk m hm _ _ h'
      | ret => exact hk m hm _ _ h'
    · intro m i ls h1 h2
      rw [hl m i ls h1 (by show i < o + (nl x + nl y); omega)]
      rw [atL_seq, (blt_iff i (o + nl x)).2 h2, cond_true]
  | cond v x y ihx ihy =>
    intro o N K Ks hk hl n hn s h
    have hv := evS_den hc.g s v
    unfold runC condS at h
    split at h
    · rename_i b hb
      rw [hb] at hv
      refine ⟨b, hv.symm, fun e1 => ?_, fun e1 => ?_⟩
      · subst e1
        rw [← know_op hb]
        refine ihx o N K Ks hk ?_ n hn _ h
        intro m i ls h1 h2
        rw [hl m i ls h1 (by show i < o + (nl x + nl y); omega)]
        rw [atL_cond, (blt_iff i (o + nl x)).2 h2, cond_true]
      · subst e1
        rw [← know_op hb]
        refine ihy (o + nl x) N K Ks hk ?_ n hn _ h
        intro m i ls h1 h2
        rw [hl m i ls (by omega) (by show i < o + (nl x + nl y); omega)]
        rw [atL_cond, (blt_not i (o + nl x)).2 h1, cond_false]
    · cases h
  | block id c ih =>
    intro o N K Ks hk hl n hn s h
    refine ih o N (fun H => inBlockS id (K H)) _ ?_ ?_ n hn s h
    · intro m hm ex s' h'
      cases ex with
      | normal => exact hk m hm _ _ h'
      | ret => exact hk m hm _ _ h'
      | exit id' =>
        simp only [inBlockA]
        unfold inBlockS at h'
        rcases bif_or h' with ⟨h1, h2⟩ | ⟨h1, h2⟩
        · rw [if_pos (Nat.eq_of_beq_eq_true h1)]; exact hk m hm _ _ h2
        · rw [if_neg (fun e' => by subst e'; simp at h1)]; exact hk m hm _ _ h2
    · intro m i ls h1 h2
      rw [hl m i ls h1 h2, atL_block]
  | loop c ih =>
    intro o N K Ks hk hl n hn s h
    obtain ⟨ls0, le0, h0⟩ := headS_le h
    obtain ⟨f, hf⟩ := leastOf fun n s => n ≤ N ∧ ∃ ls, s = (mkSt (sh o) ls).den ∧ F n o ls = some out
    refine ⟨fun s => ∃ n, n ≤ N ∧ ∃ ls, s = (mkSt (sh o) ls).den ∧ F n o ls = some out, f, ⟨_, le0, n, hn, ls0, rfl, h0⟩, fun s1 hs1 => ?_⟩
    obtain ⟨⟨h1, ls, rfl, h2⟩, hmin⟩ := hf s1 hs1
    generalize hm : f (mkSt (sh o) ls).den = m at h1 h2
    cases m with
    | zero => rw [F0] at h2; cases h2
    | succ m =>
      rw [hl m o ls (Nat.le_refl _) (by show o < o + (nl c + 1); omega)] at h2
      rw [atL_loop, show Nat.beq o o = true from Nat.beq_refl o, cond_true] at h2
      refine ih (o + 1) m (fun H => backS (headS sh H) o (K H)) _ ?_ ?_ m (Nat.le_refl _) _ h2
      · intro m' hm' ex s' h'
        cases ex with
        | normal =>
          obtain ⟨ls', le', h3⟩ := headS_le h'
          refine ⟨_, le', ⟨m', by omega, ls', rfl, h3⟩, ?_⟩
          have := (hf (mkSt (sh o) ls').den ⟨m', by omega, ls', rfl, h3⟩).2 m' ⟨by omega, ls', rfl, h3⟩
          omega
        | exit id => exact hk m' (by omega) _ _ h'
        | ret => exact hk m' (by omega) _ _ h'
      · intro m' i ls' h3 h4
        rw [hl m' i ls' (by omega) (by show i < o + (nl c + 1); omega)]
        rw [atL_loop]
        have : Nat.beq i o = false := by
          cases hb : Nat.beq i o with
          | false => rfl
          | true => have := Nat.eq_of_beq_eq_true hb; omega
        rw [this, cond_false]
  | _ => intro o N K Ks hk _ n hn s h; unfold runC at h; cases h
end sound

/-! ### functions -/

def lowS (s : SS) (b : Nat) : Option SB := bif Nat.blt b s.n then s.box b else none
def resS (P : Program) (s : SS) (T : TypeId) : ResultVar → Option (Bool × S1)
  | .tmp t => match pub1 P T (lowS s) (s.get t) with
    | some (g, .one v, _) => some (g, v)
    | _ => none
  | .cell a U => match s.get a with
    | .one (.c (.ptr b off)) => match s.box b with
      | some ⟨.sg l, _, nl⟩ => match loadS P U l off with
        | some v => match pub1 P U (lowS s) (.one v) with
          | some (g, .one v, _) => some (!nl && g, v)
          | _ => none
        | none => none
      | _ => none
    | _ => none
def resL (P : Program) (s : SS) : List TypeId → List ResultVar → Option (Bool × List S1)
  | _, [] => some (true, [])
  | ts, r :: rs => match resS P s (ts.headD 0) r, resL P s ts.tail rs with
    | some (g, v), some (g', vs) => some (g && g', v :: vs)
    | _, _ => none
def resAll (P : Program) (s : SS) (ts : List TypeId) (rs : List ResultVar) : Option (Bool × SV) :=
  match resL P s ts rs with
  | some (g, [v]) => some (g, .one v)
  | some (g, vs) => some (g, .tup vs)
  | none => none
def pinsOf (s : SS) : List Nat → Option (List SB)
  | [] => some []
  | b :: bs => match s.box b, pinsOf s bs with
    | some ⟨ct, pub, false⟩, some l => bif ct.pure then some (⟨ct, pub, false⟩ :: l) else none
    | _, _ => none
def finS (P : Program) (ts : List TypeId) (rs : List ResultVar) (n : Nat) (pins : List Nat) (s : SS) : Option Out :=
  match resAll P s ts rs, pinsOf s pins with
  | some (g, r), some bs => bif r.pure && Nat.beq s.n n then (bif g then some ⟨r, bs⟩ else none) else none
  | _, _ => none
/-- The boxes that a box's fields own. -/
def followG : Sg → List Nat
  | .c (.sl b _ _ false) => [b]
  | .c (.tsl _ b _ false) => [b]
  | _ => []
def followB (b : SB) : List Nat := match b.ct with
  | .sg l => l.flatMap followG
  | _ => []
def boxesOf (s : SS) : List Nat → Option (List SB)
  | [] => some []
  | b :: bs => match s.box b, boxesOf s bs with
    | some ⟨ct, pub, false⟩, some l => some (⟨ct, pub, false⟩ :: l)
    | _, _ => none
def litS1 : S1 → Bool
  | .c (.int _ _) => true
  | .c (.bool _) => true
  | .c (.str _) => true
  | .c (.val .nilIface) => true
  | _ => false
def litSV : SV → Bool
  | .one x => litS1 x
  | .tup l => allB litS1 l
def finM (P : Program) (ts : List TypeId) (rs : List ResultVar) (n : Nat) (roots : List Nat) (s : SS) : Option Out :=
  match resAll P s ts rs, boxesOf s roots with
  | some (g, r), some b0 => match boxesOf s (b0.flatMap followB) with
    | some b1 => bif litSV r && Nat.beq s.n n then (bif g then some ⟨r, b0 ++ b1⟩ else none) else none
    | none => none
  | _, _ => none
def topM (P : Program) (ts : List TypeId) (rs : List ResultVar) (n : Nat) (roots : List Nat) : Ex → SS → Option Out
  | .normal, s => finM P ts rs n roots s
  | .ret, s => finM P ts rs n roots s
  | .exit _, _ => none
def topS (P : Program) (ts : List TypeId) (rs : List ResultVar) (n : Nat) (pins : List Nat) : Ex → SS → Option Out
  | .normal, s => finS P ts rs n pins s
  | .ret, s => finS P ts rs n pins s
  | .exit _, _ => none
def nums {α : Type} : Nat → List α → List (Nat × α)
  | _, [] => []
  | i, a :: l => (i, a) :: nums (i + 1) l
def initS (n : Nat) (args : List SV) (pins : List (Nat × SB)) : SS := ⟨n, nums 0 args, pins.map fun p => (p.1, some p.2)⟩
theorem look_nums {α : Type} (d : α) (l : List α) : ∀ (i t : Nat), look d (nums i l) (i + t) = l.getD t d := by
  induction l with
  | nil => intro i t; simp [nums, look]
  | cons a l ih =>
    intro i t
    simp only [nums, look]
    cases t with
    | zero => simp
    | succ t =>
      have : Nat.beq i (i + (t + 1)) = false := by
        cases hb : Nat.beq i (i + (t + 1)) with
        | false => rfl
        | true => have := Nat.eq_of_beq_eq_true hb; omega
      rw [this, show i + (t + 1) = (i + 1) + t by omega]
      simp only [cond_false, ih]
      simp [List.getD_eq_getElem?_getD]
def argOkS (n : Nat) : SV → Bool
  | .one (.c (.ptr b _)) => Nat.ble n b
  | .one (.c x) => x.pure
  | .one (.agg l) => allB Sg.pure l
  | .tup _ => false
theorem argOkS_ok {n : Nat} {v : SV} (h : argOkS n v = true) : argOk n v.den = true := by
  unfold argOkS at h
  split at h
  · exact decide_eq_true (Nat.le_of_ble_eq_true h)
  · rename_i x hx
    show argOk n (.c x.den) = true
    have := Cl.pure_den x
    rw [h] at this
    cases x <;> first | rfl | cases h
  · rename_i l
    show (denS l).all (·.pure) = true
    rw [denS_pure]; exact h
  · cases h
structure FnD where
  k : FuncId
  fn : Func
  sh : Nat → Shape
  ts : List TypeId
  /-- 0: the boxes that it was handed, each by itself; else: so many of them are roots, and what they name counts too. -/
  rt : Nat
def codeOf (f : Func) : Code := match f.body with
  | some c => c
  | none => .skip
def FnD.top (f : FnD) (P : Program) (pins : List Nat) : Ex → SS → Option Out := bif Nat.beq f.rt 0 then topS P f.ts f.fn.results.toList f.fn.ntmps pins else topM P f.ts f.fn.results.toList f.fn.ntmps (pins.take f.rt)
theorem FnD.top0 {f : FnD} (h : Nat.beq f.rt 0 = true) (P : Program) (pins : List Nat) : f.top P pins = topS P f.ts f.fn.results.toList f.fn.ntmps pins := by rw [FnD.top, h]; rfl
theorem FnD.topM' {f : FnD} (h : Nat.beq f.rt 0 = false) (P : Program) (pins : List Nat) : f.top P pins = topM P f.ts f.fn.results.toList f.fn.ntmps (pins.take f.rt) := by rw [FnD.top, h]; rfl
/-- A function from its beginning on, and from its loops' heads on. -/
def FnD.ent (f : FnD) (e : Ev') (pins : List Nat) (H : Hd) (args : List SV) (bs : List SB) : Option Out :=
  runC e (headS f.sh H) (codeOf f.fn) 0 (initS f.fn.ntmps args (pins.zip bs)) (f.top e.P pins)
def FnD.seg (f : FnD) (e : Ev') (pins : List Nat) (H : Hd) : Hd := segH e f.sh (codeOf f.fn) (f.top e.P pins) H
def FnD.H (f : FnD) (e : Ev') (pins : List Nat) : Nat → Hd := HN e f.sh (codeOf f.fn) (f.top e.P pins)
def FnD.run (f : FnD) (e : Ev') (pins : List Nat) (n : Nat) (args : List SV) (bs : List SB) : Option Out := f.ent e pins (f.H e pins n) args bs
theorem FnD.H_succ (f : FnD) (e : Ev') (pins : List Nat) (n : Nat) : f.H e pins (n + 1) = f.seg e pins (f.H e pins n) := rfl
theorem lowS_den (s : SS) : denB (lowS s) = lowBox s.den := by
  funext b
  unfold denB lowS lowBox
  cases hb : Nat.blt b s.n with
  | true => rw [if_pos (show b < s.den.n from (blt_iff _ _).1 hb)]; rfl
  | false => rw [if_neg (show ¬ b < s.den.n from fun h => by have := (blt_not _ _).1 hb; exact absurd h (Nat.not_lt.2 this))]; rfl
theorem one_not_tup (v : S1) (vs : List AV) : v.den ≠ .tup vs := by cases v <;> intro h <;> cases h
theorem resS_ok {P : Program} {s : SS} {T : TypeId} {x : ResultVar} {g : Bool} {v : S1} (h : resS P s T x = some (g, v)) (hg : g = true) : ResP1 P s.den x v.den := by
  unfold resS at h
  split at h
  · rename_i t
    split at h
    · rename_i g' v' bs hp
      cases h
      obtain ⟨h1, _, h2⟩ := pub1_ok hp hg
      rw [lowS_den] at h1
      exact ⟨_, ⟨rfl, h2⟩, h1⟩
    · cases h
  · rename_i a U
    split at h
    · rename_i b off ha
      split at h
      · rename_i l pub nl hb
        split at h
        · rename_i v' hv
          split at h
          · rename_i g' v'' bs hp
            cases h
            simp only [Bool.and_eq_true, Bool.not_eq_true'] at hg
            obtain ⟨h1, _, h2⟩ := pub1_ok hp hg.2
            rw [lowS_den] at h1
            refine ⟨v'.den, ⟨b, off, SB.den ⟨.sg l, pub, nl⟩, ?_, ?_, hg.1, ?_⟩, h1⟩
            · show (s.get a).den = _; rw [ha]; rfl
            · show (s.box b).map SB.den = _; rw [hb]; rfl
            · exact ⟨rfl, loadA_or (loadS_ok hv)⟩
          · cases h
        · cases h
      · cases h
    · cases h
theorem resL_ok {P : Program} {s : SS} : ∀ {ts : List TypeId} {rs : List ResultVar} {g : Bool} {vs : List S1}, resL P s ts rs = some (g, vs) → g = true → ResPL P s.den rs (vs.map S1.den)
  | _, [], g, vs, h, _ => by
    simp only [resL, Option.some.injEq, Prod.mk.injEq] at h
    obtain ⟨_, rfl⟩ := h
    exact trivial
  | ts, r :: rs, g, vs, h, hg => by
    unfold resL at h
    split at h
    · rename_i g1 v g2 vs' h1 h2
      cases h
      simp only [Bool.and_eq_true] at hg
      exact ⟨resS_ok h1 hg.1, resL_ok h2 hg.2⟩
    · cases h
theorem resL_len {P : Program} {s : SS} : ∀ {ts : List TypeId} {rs : List ResultVar} {g : Bool} {vs : List S1}, resL P s ts rs = some (g, vs) → vs.length = rs.length
  | _, [], g, vs, h => by
    simp only [resL, Option.some.injEq, Prod.mk.injEq] at h
    obtain ⟨_, rfl⟩ := h
    rfl
  | ts, r :: rs, g, vs, h => by
    unfold resL at h
    split at h
    · rename_i g1 v g2 vs' h1 h2
      cases h
      simp [resL_len h2]
    · cases h
theorem resAll_ok {P : Program} {s : SS} {ts : List TypeId} {rs : List ResultVar} {g : Bool} {r : SV} (h : resAll P s ts rs = some (g, r)) (hg : g = true) : ResP P s.den rs r.den := by
  unfold resAll at h
  split at h
  · rename_i g' v hr
    cases h
    have h1 := resL_ok hr hg
    have h2 := resL_len hr
    match rs, h1, h2 with
    | [x], h1, _ => exact h1.1
  · rename_i g' vs hne hr
    cases h
    have h1 := resL_ok hr hg
    have h2 := resL_len hr
    unfold ResP
    split
    · rename_i x
      match vs, h2, hne with
      | [v], _, hne => exact (hne _ rfl).elim
    · exact ⟨_, rfl, h1⟩
  · cases h
theorem pinsOf_ok {s : SS} : ∀ {pins : List Nat} {bs : List SB}, pinsOf s pins = some bs → pins.length = bs.length ∧ ∀ x ∈ pins.zip bs, s.box x.1 = some x.2 ∧ x.2.ct.pure = true ∧ x.2.nl = false
  | [], bs, h => by cases h; exact ⟨rfl, by simp⟩
  | b :: pins, bs, h => by
    unfold pinsOf at h
    split at h
    · rename_i ct pub l hb hl
      obtain ⟨h1, h2⟩ := bif_some h
      cases h2
      obtain ⟨h3, h4⟩ := pinsOf_ok hl
      refine ⟨by simp [h3], fun x hx => ?_⟩
      rcases List.mem_cons.1 hx with rfl | hx
      · exact ⟨hb, h1, rfl⟩
      · exact h4 x hx
    · cases h
theorem finS_ok {P : Program} {ts : List TypeId} {rs : List ResultVar} {n : Nat} {pins : List Nat} {s : SS} {out : Out} (h : finS P ts rs n pins s = some out) :
    ResP P s.den rs out.r.den ∧ s.n = n ∧ out.r.pure = true ∧ pinsOf s pins = some out.bs := by
  unfold finS at h
  split at h
  · rename_i g r bs hr hb
    obtain ⟨h1, h2⟩ := bif_some h
    obtain ⟨h3, h4⟩ := bif_some h2
    cases h4
    simp only [Bool.and_eq_true] at h1
    exact ⟨resAll_ok hr h3, Nat.eq_of_beq_eq_true h1.2, h1.1, hb⟩
  · cases h
section top
variable {C : Cfg} {e : Ev'}
theorem init_den (n : Nat) (args : List SV) (pins : List Nat) (b0 b1 : List SB) (h : b1.length = b0.length) :
    (initS n args (pins.zip b0)).den = initB (args.map SV.den) n ((pins.zip (b0.zip b1)).map fun x => (x.1, x.2.1.den, x.2.2.den)) := by
  simp only [SS.den, initB, initS]
  congr 1
  · funext t
    have := look_nums (SV.one (.c .junk)) args 0 t
    rw [Nat.zero_add] at this
    show SV.den (look _ _ t) = _
    rw [this]
    simp only [List.getD_eq_getElem?_getD, List.getElem?_map]
    cases args[t]? <;> rfl
  · funext b
    show (look none ((pins.zip b0).map fun p => (p.1, some p.2)) b).map SB.den = _
    unfold boxAt
    induction pins generalizing b0 b1 with
    | nil => rfl
    | cons p pins ih =>
      cases b0 with
      | nil => rfl
      | cons x b0 =>
        cases b1 with
        | nil => cases h
        | cons y b1 =>
          simp only [List.zip_cons_cons, List.map_cons, look, List.find?_cons, beq_nat]
          cases p == b with
          | true => rfl
          | false => exact ih b0 b1 (by simpa using h)
theorem FnD.okP (hc : Gd C e) (f : FnD) (hm : C.P.follows .mixedOrders = true) (hf : C.P.funcs[f.k]? = some f.fn) (hb : f.fn.body = some (codeOf f.fn)) (hn : (f.fn.name == "runtime.NumGoroutine") = false) {args : List SV} {out : Out} {n : Nat} {pins : List Nat} {bs : List SB} (hpl : bs.length = pins.length) (hp : allB (fun p => Nat.ble f.fn.ntmps p) pins = true) (hbs : allB (fun b : SB => b.ct.pure && !b.nl) bs = true)
    (hol : out.bs.length = pins.length) (hob : allB (fun b : SB => b.ct.pure && !b.nl) out.bs = true) (hor : out.r.pure = true)
    (ha : allB (argOkS f.fn.ntmps) args = true) (hl : Nat.ble (lenL args) f.fn.ntmps = true) (h : f.run e pins n args bs = some out) (g : Nat → Nat) (hinj : ∀ x ∈ pins, ∀ y ∈ pins, g x = g y → x = y) (hnd : pins.Nodup)
    (pre : Nat → Option Box) (hpre : ∀ x ∈ pins.zip bs, pre (g x.1) = some x.2.den) (hrt : Nat.beq f.rt 0 = true := by rfl) :
    FnOkB C f.k ((args.map SV.den).map (AV.ren g)) pre out.r.den ((pins.zip (bs.zip out.bs)).map fun x => (g x.1, some x.2.2.den)) := by
  have hw : WPc C (codeOf f.fn) (fun ex s => (ex = .normal ∨ ex = .ret) ∧ ResP C.P s f.fn.results.toList out.r.den ∧ s.n = f.fn.ntmps ∧ ∀ x ∈ (pins.zip (bs.zip out.bs)).map (fun x => ((x.1, x.2.1.den, x.2.2.den) : Nat × Box × Box)), s.box x.1 = some x.2.2) (initS f.fn.ntmps args (pins.zip bs)).den := by
    refine runC_ok hc (sh := f.sh) (out := out) (F := f.H e pins) (fun _ _ => rfl) (codeOf f.fn) 0 n (fun _ => f.top e.P pins) _ ?_ ?_ n (Nat.le_refl _) _ h
    · intro m _ ex s hs
      rw [FnD.top0 hrt] at hs
      have key : finS e.P f.ts f.fn.results.toList f.fn.ntmps pins s = some out → ResP C.P s.den f.fn.results.toList out.r.den ∧ s.den.n = f.fn.ntmps ∧ ∀ x ∈ (pins.zip (bs.zip out.bs)).map (fun x => ((x.1, x.2.1.den, x.2.2.den) : Nat × Box × Box)), s.den.box x.1 = some x.2.2 := by
        intro hs
        obtain ⟨h1, h2, h3, h4⟩ := finS_ok hs
        rw [← hc.p] at h1
        refine ⟨h1, h2, fun x hx => ?_⟩
        obtain ⟨y, hy, rfl⟩ := List.mem_map.1 hx
        obtain ⟨_, h5⟩ := pinsOf_ok h4
        have hz : (y.1, y.2.2) ∈ pins.zip out.bs := by
          obtain ⟨i, hi, e1⟩ := List.getElem_of_mem hy
          rw [List.getElem_zip, List.getElem_zip] at e1
          simp only [List.length_zip] at hi
          rw [← e1]
          have hi1 : i < pins.length := by omega
          have hi2 : i < out.bs.length := by omega
          have := List.getElem_mem (l := pins.zip out.bs) (n := i) (by rw [List.length_zip]; omega)
          rw [List.getElem_zip] at this
          exact this
        have := (h5 _ hz).1
        show (s.box y.1).map SB.den = some y.2.2.den
        rw [show s.box y.1 = some y.2.2 from this]; rfl
      cases ex with
      | normal => exact ⟨.inl rfl, key hs⟩
      | ret => exact ⟨.inr rfl, key hs⟩
      | exit id => cases hs
    · intro m i ls _ _; rfl
  rw [init_den _ _ _ _ out.bs (by omega)] at hw
  rw [allB_eq, List.all_eq_true] at hp hbs hob ha
  have harg : (args.map SV.den).all (argOk f.fn.ntmps) = true := by
    rw [List.all_eq_true]
    intro x hx
    obtain ⟨v, hv, rfl⟩ := List.mem_map.1 hx
    exact argOkS_ok (ha v hv)
  have hlen := Nat.le_of_ble_eq_true hl
  rw [lenL_eq] at hlen
  have mem3 : ∀ y ∈ pins.zip (bs.zip out.bs), y.1 ∈ pins ∧ y.2.1 ∈ bs ∧ y.2.2 ∈ out.bs ∧ (y.1, y.2.1) ∈ pins.zip bs := fun y hy => by
    obtain ⟨i, hi, e1⟩ := List.getElem_of_mem hy
    rw [List.getElem_zip, List.getElem_zip] at e1
    simp only [List.length_zip] at hi
    subst e1
    refine ⟨List.getElem_mem _, List.getElem_mem _, List.getElem_mem _, ?_⟩
    have := List.getElem_mem (l := pins.zip bs) (n := i) (by rw [List.length_zip]; omega)
    rw [List.getElem_zip] at this
    exact this
  have key := fnOkB_of_wpc (C := C) (k := f.k) (fn := f.fn) (c := codeOf f.fn) (args := args.map SV.den) (r := out.r.den) ((pins.zip (bs.zip out.bs)).map fun x => (x.1, x.2.1.den, x.2.2.den)) hm hf hb hn harg
    (by rw [SV.pure_den]; exact hor) (by rw [List.length_map]; exact hlen) (fun x hx => by
      obtain ⟨y, hy, rfl⟩ := List.mem_map.1 hx
      obtain ⟨m1, m2, m3, _⟩ := mem3 y hy
      have q1 := hbs _ m2
      have q2 := hob _ m3
      simp only [Bool.and_eq_true, Bool.not_eq_true'] at q1 q2
      exact ⟨Nat.le_of_ble_eq_true (hp _ m1), by show y.2.1.ct.den.all _ = true; rw [Ct.pure_den]; exact q1.1, by show y.2.2.ct.den.all _ = true; rw [Ct.pure_den]; exact q2.1, q1.2, q2.2⟩) hw g
    (fun x hx y hy e' => by
      obtain ⟨x', hx', rfl⟩ := List.mem_map.1 hx
      obtain ⟨y', hy', rfl⟩ := List.mem_map.1 hy
      have e1 := hinj _ (mem3 x' hx').1 _ (mem3 y' hy').1 e'
      obtain ⟨i, hi, ex⟩ := List.getElem_of_mem hx'
      obtain ⟨j, hj, ey⟩ := List.getElem_of_mem hy'
      rw [List.getElem_zip] at ex ey
      have ei : i = j := by
        rw [← ex, ← ey] at e1
        exact (List.getElem_inj hnd).1 e1
      subst ei
      rw [← ex, ← ey])
    pre (fun x hx => by
      obtain ⟨y, hy, rfl⟩ := List.mem_map.1 hx
      exact hpre _ (mem3 y hy).2.2.2)
  rw [List.map_map (l := pins.zip (bs.zip out.bs))] at key
  exact key
/-- THE CONTRACT OF A FUNCTION that is handed no box, by what it comes to. -/
theorem FnD.ok (hc : Gd C e) (f : FnD) (hm : C.P.follows .mixedOrders = true) (hf : C.P.funcs[f.k]? = some f.fn) (hb : f.fn.body = some (codeOf f.fn)) (hn : (f.fn.name == "runtime.NumGoroutine") = false) {args : List SV} {r : SV} {n : Nat} (ha : allB S1.pure (args.map fun v => match v with | .one x => x | .tup _ => .c .junk) = true) (ht : allB (fun v => !isTupS v) args = true) (hor : r.pure = true) (hl : Nat.ble (lenL args) f.fn.ntmps = true)
    (h : f.run e [] n args [] = some ⟨r, []⟩) (hrt : Nat.beq f.rt 0 = true := by rfl) : FnOk C f.k (args.map SV.den) r.den := by
  intro pre
  rw [allB_eq, List.all_eq_true] at ha ht
  have ha' : ∀ v ∈ args, argOkS f.fn.ntmps v = true ∧ v.den.ren id = v.den := fun v hv => by
    have h1 := ht v hv
    cases v with
    | tup _ => cases h1
    | one x =>
      have h2 := ha x (List.mem_map.2 ⟨_, hv, rfl⟩)
      refine ⟨?_, ?_⟩
      · cases x with
        | c x => cases x <;> first | exact h2 | cases h2
        | agg l => exact h2
      · have hc : ∀ a : AC, a.ren id = a := fun a => by cases a <;> rfl
        cases x with
        | c x => show AV.c (x.den.ren id) = _; rw [hc]; rfl
        | agg l =>
          show AV.agg (renL id (denS l)) = AV.agg (denS l)
          have : (fun a : AC => a.ren id) = id := funext hc
          simp [renL, this]
  have := FnD.okP hc f hm hf hb hn (args := args) (out := ⟨r, []⟩) (n := n) (pins := []) (bs := []) rfl rfl rfl rfl rfl hor (by rw [allB_eq, List.all_eq_true]; exact fun v hv => (ha' v hv).1) hl h id (by simp) (by simp) pre (by simp) hrt
  rw [List.map_map] at this
  have e : args.map (AV.ren id ∘ SV.den) = args.map SV.den := List.map_congr_left fun v hv => (ha' v hv).2
  rw [e] at this
  exact this
theorem ren_pure {x : AV} (h : x.pure = true) (g : Nat → Nat) (ht : ∀ l, x ≠ .tup l) : x.ren g = x := by
  have hc : ∀ a : AC, a.pure = true → a.ren g = a := fun a ha => by cases a <;> first | rfl | cases ha
  cases x with
  | c a => show AV.c (a.ren g) = _; rw [hc a h]
  | agg l =>
    have h : l.all (·.pure) = true := h
    rw [List.all_eq_true] at h
    show AV.agg (l.map fun a : AC => a.ren g) = AV.agg l
    congr 1
    conv => rhs; rw [← List.map_id l]
    exact List.map_congr_left fun a ha => hc a (h a ha)
  | tup l => exact absurd rfl (ht l)
/-- THE CONTRACT OF A FUNCTION that is handed one box, by its first argument. -/
theorem FnD.ok1 (hc : Gd C e) (f : FnD) (hm : C.P.follows .mixedOrders = true) (hf : C.P.funcs[f.k]? = some f.fn) (hb : f.fn.body = some (codeOf f.fn)) (hn : (f.fn.name == "runtime.NumGoroutine") = false) {as : List SV} {r : SV} {n nt : Nat} {b0 b1 : SB}
    (hnt : f.fn.ntmps = nt) (ha : allB (argOkS nt) as = true) (hp : allB (fun v : SV => v.pure && !isTupS v) as = true) (hor : r.pure = true) (hl : Nat.ble (lenL (c1 (.ptr nt 0) :: as)) nt = true) (hb0 : (b0.ct.pure && !b0.nl) = true) (hb1 : (b1.ct.pure && !b1.nl) = true)
    (h : f.run e [nt] n (c1 (.ptr nt 0) :: as) [b0] = some ⟨r, [b1]⟩) (q : Nat) (pre : Nat → Option Box) (hpre : pre q = some b0.den) (hrt : Nat.beq f.rt 0 = true := by rfl) : FnOkB C f.k ((c1 (.ptr q 0) :: as).map SV.den) pre r.den [(q, some b1.den)] := by
  subst hnt
  have key := FnD.okP hc f hm hf hb hn (args := c1 (.ptr f.fn.ntmps 0) :: as) (out := ⟨r, [b1]⟩) (n := n) (pins := [f.fn.ntmps]) (bs := [b0]) rfl
    (by simp [allB]) (by rw [allB, hb0]; rfl) rfl (by rw [allB, hb1]; rfl) hor
    (by rw [allB, show argOkS f.fn.ntmps (c1 (.ptr f.fn.ntmps 0)) = true by simp [argOkS], ha]; rfl) hl h (fun _ => q) (by simp) (by simp) pre (by simpa using hpre) hrt
  have e1 : ((c1 (.ptr f.fn.ntmps 0) :: as).map SV.den).map (AV.ren fun _ => q) = (c1 (.ptr q 0) :: as).map SV.den := by
    rw [List.map_cons, List.map_cons, List.map_cons]
    congr 1
    rw [List.map_map]
    refine List.map_congr_left fun v hv => ?_
    rw [allB_eq, List.all_eq_true] at hp
    have := hp v hv
    rw [Bool.and_eq_true] at this
    refine ren_pure (by rw [SV.pure_den]; exact this.1) _ fun l hl => ?_
    cases v with
    | one x => cases x <;> cases hl
    | tup _ => simp [isTupS] at this
  rw [e1] at key
  exact key
end top
end Go.Sy
/-
  Symbolic values, part 8: what a function's callees do, as one table; words for texts that a program prints.
-/
namespace Go.Sy
open Go.Ev
set_option linter.unusedVariables false

def Γof : List (FuncId × SpecF) → Env
  | [], _ => fun _ _ _ => none
  | (j, f) :: l, k => bif Nat.beq j k then f else Γof l k
theorem env_nil (C : Cfg) : EnvOk C (Γof []) := fun k args bx K out h => by cases h
theorem env_cons {C : Cfg} {j : FuncId} {f : SpecF} {l : List (FuncId × SpecF)} (h : SpecOk C j f) (hl : EnvOk C (Γof l)) : EnvOk C (Γof ((j, f) :: l)) := fun k => by
  unfold Γof
  cases hb : Nat.beq j k with
  | true => have : j = k := Nat.eq_of_beq_eq_true hb
            subst this; exact h
  | false => exact hl k
abbrev vI (n : Int) : SV := .one (.c (.int .i64 n))
abbrev vB (b : Bool) : SV := .one (.c (.bool b))
abbrev vS (s : ByteArray) : SV := .one (.c (.str s))
abbrev agg (l : List Sg) : SV := .one (.agg l)
abbrev tI (n : Int) : S1 := .c (.int .i64 n)
abbrev tS (s : ByteArray) : S1 := .c (.str s)
abbrev tB (b : Bool) : S1 := .c (.bool b)
abbrev tU (n : Int) : S1 := .c (.int .u64 n)
abbrev gU (n : Int) : Sg := .c (.int .u64 n)
abbrev gI (n : Int) : Sg := .c (.int .i64 n)
abbrev ret (v : SV) : Option Out := some ⟨v, []⟩
def noSh : Nat → Shape := fun _ => ⟨0, [], [], []⟩
def shOf : List (Nat × Shape) → Nat → Shape
  | [], _ => ⟨0, [], [], []⟩
  | (j, s) :: l, i => bif Nat.beq j i then s else shOf l i
end Go.Sy
/-
  Symbolic values, part 10: contracts of the library, that the kit's shelf has proved, as contracts here.
-/
namespace Go.Sy
open Go.Ev Go.RowKit
set_option linter.unusedVariables false

theorem trans_below {C : Cfg} (pre : Nat → Option Box) (μ : Nat → Nat) (M : Mem) (wf : Wf C M) {w' : World} (h : Below M.w.heap.size M.w w') : Trans C [] pre μ M μ { M with w := w' } := by
  have hc : ∀ b o, M.I b o → w'.cell? ⟨b, o, none⟩ = M.w.cell? ⟨b, o, none⟩ := fun b o i => World.cell?_of_block (h.block b (wf.imm b o i).1)
  have g : Grow C M { M with w := w' } := ⟨h.size, fun b o i => ⟨i, hc b o i⟩, fun b s => s, fun b x s e => ⟨x, (h.block b (wf.sp b s)).trans e, C.refl x⟩⟩
  exact ⟨g, ⟨fun b o i => ⟨Nat.lt_of_lt_of_le (wf.imm b o i).1 h.size, (wf.imm b o i).2⟩, fun b s => Nat.lt_of_lt_of_le (wf.sp b s) h.size, fun g' flat hg => (wf.glob g' flat hg).mono g, fun g' vs hg => fix_mono g (wf.fix g' vs hg)⟩,
    h.os, h.tape, h.output, fun blk hb _ _ => ⟨h.block blk hb, fun _ i => i⟩, fun _ _ s => s,
    fun blk c T fz e _ => ⟨c, fz, (h.block blk ((Array.getElem?_eq_some_iff.1 e).1)).trans e, rfl⟩, fun _ _ => rfl⟩
theorem fnOk_shelf {C : Cfg} {k : FuncId} {as : List SV} {r : SV} {rv : Value} (hc : callable C.P k) (hs : allB scal as = true)
    (h : ∀ M, Wf C M → Calls C.P k (as.map litV).toArray M.w fun e w' => e = .returned rv ∧ Below M.w.heap.size M.w w')
    (hr : ∀ μ M, RepV C μ M r.den rv) : FnOk C k (as.map SV.den) r.den := by
  intro pre
  refine ⟨hc, fun μ M vs wf hsz hrep _ _ => ?_⟩
  have e : vs = (as.map litV).toArray := by
    apply Array.ext
    · simpa using hsz
    · intro i h1 h2
      have := hrep i (by simpa using h2) h1
      rw [List.getElem_map] at this
      simp only [List.getElem_toArray, List.getElem_map]
      rw [allB_eq, List.all_eq_true] at hs
      exact litV_eq (hs _ (by simp [List.getElem_mem])) this
  subst e
  exact (h M wf).mono fun e w' ⟨he, hb⟩ => ⟨rv, μ, { M with w := w' }, he, rfl, hr _ _, trans_below _ _ _ wf hb, by simp [wrOf], by simp [wrOf], by simp [wrOf]⟩
theorem fix_var {C : Cfg} {M : Mem} (wf : Wf C M) {g : Nat} {vs : Array Value} {name : String} (hF : C.F g = some vs) (hn : C.P.globalNamed name = some g) (h0 : 0 < vs.size) : M.w.var? C.P name = some vs := by
  have hf := wf.fix g vs hF
  unfold World.var?
  rw [hn]
  show (match M.w.heap[g]? with | some (.cells cs _ _) => some cs | _ => none) = some vs
  have h1 := (hf 0).2
  cases hh : M.w.heap[g]? with
  | none =>
    rw [World.cell?, hh] at h1
    rw [Array.getElem?_eq_getElem h0] at h1; simp at h1
  | some o =>
    cases o with
    | cells cs T fz =>
      simp only [Option.some.injEq]
      apply Array.ext_getElem?
      intro i
      have := (hf i).2
      rw [World.cell?, hh] at this
      simpa using this
    | _ => rw [World.cell?, hh] at h1; rw [Array.getElem?_eq_getElem h0] at h1; simp at h1
theorem repT {C : Cfg} {μ : Nat → Nat} {M : Mem} (l : List S1) (h : ∀ x ∈ l, scal (.one x) = true) : RepV C μ M (SV.tup l).den (.tuple (l.map fun x => litV (.one x)).toArray) := by
  refine ⟨_, rfl, by simp, fun i h1 h2 => ?_⟩
  have hl : i < l.length := by simpa using h1
  simp only [List.getElem_map, List.getElem_toArray]
  have hs := h _ (List.getElem_mem hl)
  generalize l[i] = x at hs
  unfold scal at hs
  split at hs
  · rename_i e; cases e; exact RepI.lit _
  · rename_i e; cases e; exact RepI.lit _
  · rename_i e; cases e; exact RepI.lit _
  · cases hs
/-- A text by its bytes. -/
def tx (l : List UInt8) : ByteArray := ⟨l.toArray⟩
theorem tx_toList (l : List UInt8) : (tx l).data.toList = l := by simp [tx]
theorem toList_tx (s : ByteArray) : tx s.data.toList = s := by cases s; simp [tx]
theorem bytes_eta (s : ByteArray) : ByteArray.mk s.data.toList.toArray = s := by cases s; simp
end Go.Sy
/-
  Symbolic values, part 6b: the contract of a function that is handed several boxes, which may name one another, and that may make some.
-/
namespace Go.Sy
open Go.Ev
set_option linter.unusedVariables false
set_option linter.unusedSimpArgs false

def Cl.ren (f : Nat → Nat) : Cl → Cl
  | .ptr b o => .ptr (f b) o
  | .pti b o i z => .pti (f b) o i z
  | .sl b n z nl => .sl (f b) n z nl
  | .mref b => .mref (f b)
  | .bself T b u => .bself T (f b) u
  | .tsl T b n nl => .tsl T (f b) n nl
  | x => x
def Sg.ren (f : Nat → Nat) : Sg → Sg
  | .c x => .c (x.ren f)
  | x => x
def SB.ren (f : Nat → Nat) (b : SB) : SB := ⟨match b.ct with
  | .sg l => .sg (l.map (Sg.ren f))
  | c => c, b.pub, b.nl⟩
theorem Cl.ren_den (f : Nat → Nat) (x : Cl) : (x.ren f).den = x.den.ren f := by cases x <;> rfl
theorem ren_pureC {a : AC} (h : a.pure = true) (f : Nat → Nat) : a.ren f = a := by cases a <;> first | rfl | cases h
theorem renL_pure {l : List AC} (h : l.all (·.pure) = true) (f : Nat → Nat) : renL f l = l := by
  rw [List.all_eq_true] at h
  unfold renL
  conv => rhs; rw [← List.map_id l]
  exact List.map_congr_left fun a ha => ren_pureC (h a ha) f
theorem Sg.ren_den (f : Nat → Nat) (x : Sg) : (x.ren f).den = renL f x.den := by
  cases x with
  | c x => show [(x.ren f).den] = [x.den.ren f]; rw [Cl.ren_den]
  | arr k n l => exact (renL_pure (arrL_pure k n l) f).symm
theorem denS_ren (f : Nat → Nat) (l : List Sg) : denS (l.map (Sg.ren f)) = renL f (denS l) := by
  induction l with
  | nil => rfl
  | cons x l ih =>
    simp only [denS, List.map_cons, List.flatMap_cons, renL, List.map_append] at ih ⊢
    rw [ih, Sg.ren_den]; rfl
theorem SB.ren_den (f : Nat → Nat) (b : SB) : (b.ren f).den = b.den.ren f := by
  obtain ⟨ct, pub, nl⟩ := b
  cases ct with
  | sg l =>
    show Box.mk (denS (l.map (Sg.ren f))) pub nl false none = Box.mk (renL f (denS l)) pub nl false none
    rw [denS_ren]
  | ints k l =>
    show Box.mk (IL k l) pub nl false none = Box.mk (renL f (IL k l)) pub nl false none
    rw [renL_pure (IL_pure k l)]
  | rows ks l =>
    show Box.mk (rowsL ks l) pub nl false none = Box.mk (renL f (rowsL ks l)) pub nl false none
    rw [renL_pure (rowsL_pure ks l)]
  | mp k k' l => rfl

theorem boxesOf_ok {s : SS} : ∀ {ids : List Nat} {bs : List SB}, boxesOf s ids = some bs → ids.length = bs.length ∧ ∀ x ∈ ids.zip bs, s.box x.1 = some x.2
  | [], bs, h => by cases h; exact ⟨rfl, by simp⟩
  | b :: ids, bs, h => by
    unfold boxesOf at h
    split at h
    · rename_i ct pub l hb hl
      cases h
      obtain ⟨h3, h4⟩ := boxesOf_ok hl
      refine ⟨by simp [h3], fun x hx => ?_⟩
      rcases List.mem_cons.1 hx with rfl | hx
      · exact hb
      · exact h4 x hx
    · cases h
theorem litSV_ok {r : SV} (h : litSV r = true) : isLitR r.den = true := by
  have one : ∀ x : S1, litS1 x = true → isLit1 x.den = true := fun x hx => by
    unfold litS1 at hx
    split at hx <;> first | rfl | cases hx
  cases r with
  | one x =>
    have := one x h
    cases x with
    | c x => exact this
    | agg l => cases h
  | tup l =>
    show (l.map S1.den).all isLit1 = true
    have h : allB litS1 l = true := h
    rw [allB_eq, List.all_eq_true] at h
    rw [List.all_eq_true]
    intro x hx
    obtain ⟨y, hy, rfl⟩ := List.mem_map.1 hx
    exact one y (h y hy)
theorem finM_ok {P : Program} {ts : List TypeId} {rs : List ResultVar} {n : Nat} {roots : List Nat} {s : SS} {out : Out} (h : finM P ts rs n roots s = some out) :
    ResP P s.den rs out.r.den ∧ s.n = n ∧ litSV out.r = true ∧ ∃ b0 b1, out.bs = b0 ++ b1 ∧ boxesOf s roots = some b0 ∧ boxesOf s (b0.flatMap followB) = some b1 := by
  unfold finM at h
  split at h
  · rename_i g r b0 hr hb
    split at h
    · rename_i b1 hb1
      obtain ⟨h1, h2⟩ := bif_some h
      obtain ⟨h3, h4⟩ := bif_some h2
      cases h4
      simp only [Bool.and_eq_true] at h1
      exact ⟨resAll_ok hr h3, Nat.eq_of_beq_eq_true h1.2, h1.1, b0, b1, rfl, hb, hb1⟩
    · cases h
  · cases h

/-- A box that is handed over, or there at the return: its number in the function, the caller's, what it holds (in the function's numbers). -/
structure PinM where
  id : Nat
  g : Nat
  bx : SB
def PinM.out (x : PinM) : OutB := ⟨x.id, x.g, x.bx.den⟩
/-- From the function's numbers to the caller's. -/
def mapM : List PinM → Nat → Nat
  | [], b => b
  | x :: l, b => bif Nat.beq x.id b then x.g else mapM l b
theorem mapM_mem {l : List PinM} (hn : (l.map PinM.id).Nodup) {x : PinM} (h : x ∈ l) : mapM l x.id = x.g := by
  induction l with
  | nil => cases h
  | cons y l ih =>
    rw [List.map_cons, List.nodup_cons] at hn
    rcases List.mem_cons.1 h with rfl | h
    · simp [mapM]
    · have : Nat.beq y.id x.id = false := by
        cases e : Nat.beq y.id x.id with
        | false => rfl
        | true => exact absurd (List.mem_map.2 ⟨x, h, (Nat.eq_of_beq_eq_true e).symm⟩) hn.1
      rw [mapM, this]; exact ih hn.2 h
/-- The caller's numbers at the return. -/
def gmM (ins outs : List PinM) (b : Nat) : Nat := gm (mapM ins) (outs.map PinM.out) b
/-- No slice that is not nil, pointer or map is named but those of 'ids'. -/
def namesIn (ids : List Nat) : Sg → Bool
  | .c (.ptr b _) => ids.any (Nat.beq b)
  | .c (.pti b _ _ _) => ids.any (Nat.beq b)
  | .c (.mref b) => ids.any (Nat.beq b)
  | .c (.sl b _ _ false) => ids.any (Nat.beq b)
  | .c (.bself _ b _) => ids.any (Nat.beq b)
  | .c (.tsl _ b _ false) => ids.any (Nat.beq b)
  | _ => true
def namesB (ids : List Nat) (b : SB) : Bool := match b.ct with
  | .sg l => l.all (namesIn ids)
  | _ => true
theorem menS_men {b : Nat} {a : AC} (h : menS b a = true) : a.men b = true := by
  unfold menS at h
  split at h <;> first | exact h | cases h
theorem any_nat {ids : List Nat} {b : Nat} (h : ids.any (Nat.beq b) = true) : b ∈ ids := by
  obtain ⟨x, hx, e⟩ := List.any_eq_true.1 h
  have : b = x := Nat.eq_of_beq_eq_true e
  rw [this]; exact hx
theorem namesIn_ok {ids : List Nat} {x : Sg} (h : namesIn ids x = true) {b : Nat} (hb : x.den.any (menS b) = true) : b ∈ ids := by
  cases x with
  | arr k n l =>
    obtain ⟨a, ha, e⟩ := List.any_eq_true.1 hb
    have := arrL_men k n l b
    rw [List.any_eq_false] at this
    exact absurd (menS_men e) (this a ha)
  | c x =>
    have hb : (menS b x.den || false) = true := hb
    rw [Bool.or_false] at hb
    cases x with
    | ptr b' o =>
      have e : b' = b := by simpa [Cl.den, menS, AC.men] using hb
      subst e; exact any_nat h
    | pti b' o i z =>
      have e : b' = b := by simpa [Cl.den, menS, AC.men] using hb
      subst e; exact any_nat h
    | mref b' =>
      have e : b' = b := by simpa [Cl.den, menS, AC.men] using hb
      subst e; exact any_nat h
    | sl b' n z nl =>
      cases nl with
      | true => cases hb
      | false =>
        have e : b' = b := by simpa [Cl.den, menS, AC.men] using hb
        subst e; exact any_nat h
    | bself T b' u =>
      have e : b' = b := by simpa [Cl.den, menS, AC.men] using hb
      subst e; exact any_nat h
    | tsl T b' n nl =>
      cases nl with
      | true => cases hb
      | false =>
        have e : b' = b := by simpa [Cl.den, menS, AC.men] using hb
        subst e; exact any_nat h
    | _ => cases hb
theorem namesB_ok {ids : List Nat} {x : SB} (h : namesB ids x = true) {b : Nat} (hb : x.den.cells.any (menS b) = true) : b ∈ ids := by
  obtain ⟨ct, pub, nl⟩ := x
  have np : ∀ l : List AC, l.all (·.pure) = true → l.any (menS b) = true → b ∈ ids := fun l hl e => by
    obtain ⟨a, ha, e⟩ := List.any_eq_true.1 e
    rw [List.all_eq_true] at hl
    have := hl a ha
    cases a <;> first | cases e | cases this
  cases ct with
  | sg l =>
    have hb : (denS l).any (menS b) = true := hb
    have h : l.all (namesIn ids) = true := h
    rw [List.all_eq_true] at h
    obtain ⟨a, ha, e⟩ := List.any_eq_true.1 hb
    obtain ⟨x, hx, hxa⟩ := List.mem_flatMap.1 ha
    exact namesIn_ok (h x hx) (List.any_eq_true.2 ⟨a, hxa, e⟩)
  | ints k l => exact np _ (IL_pure k l) hb
  | rows ks l => exact np _ (rowsL_pure ks l) hb
  | mp k k' l => exact np [] rfl hb
/-- What the boxes are at the return, for the caller. -/
def upsM (ins outs : List PinM) : List (Nat × Option SB) :=
  outs.map (fun x => (x.g, some (x.bx.ren (gmM ins outs)))) ++ (ins.filter fun x => !outs.any fun y => Nat.beq y.g x.g).map fun x => (x.g, none)
section top
variable {C : Cfg} {e : Ev'}
theorem initM_den (n : Nat) (args : List SV) (ins : List PinM) : (initS n args ((ins.map PinM.id).zip (ins.map PinM.bx))).den = initM (args.map SV.den) n (ins.map fun x => (x.id, x.bx.den)) := by
  simp only [SS.den, initM, initS]
  congr 1
  · funext t
    have := look_nums (SV.one (.c .junk)) args 0 t
    rw [Nat.zero_add] at this
    show SV.den (look _ _ t) = _
    rw [this]
    simp only [List.getD_eq_getElem?_getD, List.getElem?_map]
    cases args[t]? <;> rfl
  · funext b
    show (look none (((ins.map PinM.id).zip (ins.map PinM.bx)).map fun p => (p.1, some p.2)) b).map SB.den = _
    unfold boxIn
    induction ins with
    | nil => rfl
    | cons p ins ih =>
      simp only [List.zip_cons_cons, List.map_cons, look, List.find?_cons, beq_nat]
      cases p.id == b with
      | true => rfl
      | false => exact ih
theorem nodup_map_inj {α β : Type} {f : α → β} : ∀ {l : List α}, (l.map f).Nodup → ∀ x ∈ l, ∀ y ∈ l, f x = f y → x = y
  | [], _, x, hx => by cases hx
  | a :: l, hn, x, hx => by
    intro y hy e
    rw [List.map_cons, List.nodup_cons] at hn
    rcases List.mem_cons.1 hx with rfl | hx2
    · rcases List.mem_cons.1 hy with rfl | hy
      · rfl
      · exact absurd (List.mem_map.2 ⟨y, hy, e.symm⟩) hn.1
    · rcases List.mem_cons.1 hy with hya | hy
      · subst hya; exact absurd (List.mem_map.2 ⟨x, hx2, e⟩) hn.1
      · exact nodup_map_inj hn.2 x hx2 y hy e

theorem lookup_map {α : Type} (h : α → Nat) (v : α → Option Box) : ∀ (l : List α) (b : Nat), ((l.map fun x => (h x, v x)).lookup b) = (l.find? fun x => h x == b).map v
  | [], _ => rfl
  | x :: l, b => by
    simp only [List.map_cons, List.lookup_cons, List.find?_cons]
    have : (b == h x) = (h x == b) := by rw [Bool.eq_iff_iff, beq_iff_eq, beq_iff_eq]; exact eq_comm
    rw [this]
    cases h x == b with
    | true => rfl
    | false => exact lookup_map h v l b

theorem FnD.okM (hc : Gd C e) (f : FnD) (hm : C.P.follows .mixedOrders = true) (hf : C.P.funcs[f.k]? = some f.fn) (hb : f.fn.body = some (codeOf f.fn)) (hn : (f.fn.name == "runtime.NumGoroutine") = false) (hrt : Nat.beq f.rt 0 = false)
    {args : List SV} {r : SV} {n : Nat} {ins outs : List PinM}
    (ha : allB (fun v => !isTupS v) args = true) (hl : Nat.ble (lenL args) f.fn.ntmps = true) (hr : litSV r = true)
    (h : f.run e (ins.map PinM.id) n args (ins.map PinM.bx) = some ⟨r, outs.map PinM.bx⟩)
    (hids : outs.map PinM.id = (ins.map PinM.id).take f.rt ++ ((outs.map PinM.bx).take f.rt).flatMap followB) (hrl : Nat.ble f.rt (lenL ins) = true)
    (hin : ∀ x ∈ ins, f.fn.ntmps ≤ x.id ∧ x.bx.nl = false) (hin1 : (ins.map PinM.id).Nodup) (hin2 : (ins.map PinM.g).Nodup) (hout1 : (outs.map PinM.id).Nodup) (hout2 : (outs.map PinM.g).Nodup)
    (pre : Nat → Option Box) (hpre : ∀ x ∈ ins, pre x.g = some (x.bx.ren (mapM ins)).den)
    (hout : ∀ x ∈ outs, x.bx.nl = false ∧ ((∃ y ∈ ins, y.id = x.id ∧ y.g = x.g) ∨ (x.id < f.fn.ntmps ∧ pre x.g = none)) ∧ namesB (outs.map PinM.id) x.bx = true) :
    FnOkB C f.k ((args.map SV.den).map (AV.ren (mapM ins))) pre r.den (denU (upsM ins outs)) := by
  have hw : WPc C (codeOf f.fn) (fun ex s => (ex = .normal ∨ ex = .ret) ∧ ResAs C.P s f.fn.results.toList r.den ∧ s.n = f.fn.ntmps ∧ ∀ x ∈ outs.map PinM.out, s.box x.id = some x.bx) (initS f.fn.ntmps args ((ins.map PinM.id).zip (ins.map PinM.bx))).den := by
    refine runC_ok hc (sh := f.sh) (out := ⟨r, outs.map PinM.bx⟩) (F := f.H e (ins.map PinM.id)) (fun _ _ => rfl) (codeOf f.fn) 0 n (fun _ => f.top e.P (ins.map PinM.id)) _ ?_ ?_ n (Nat.le_refl _) _ h
    · intro m _ ex s hs
      rw [FnD.topM' hrt] at hs
      have key : finM e.P f.ts f.fn.results.toList f.fn.ntmps ((ins.map PinM.id).take f.rt) s = some ⟨r, outs.map PinM.bx⟩ → ResAs C.P s.den f.fn.results.toList r.den ∧ s.den.n = f.fn.ntmps ∧ ∀ x ∈ outs.map PinM.out, s.den.box x.id = some x.bx := by
        intro hs
        obtain ⟨h1, h2, h3, b0, b1, h4, h5, h6⟩ := finM_ok hs
        rw [← hc.p] at h1
        refine ⟨resP_lit (litSV_ok h3) h1, h2, ?_⟩
        obtain ⟨l0, q0⟩ := boxesOf_ok h5
        obtain ⟨l1, q1⟩ := boxesOf_ok h6
        have e0 : b0 = (outs.map PinM.bx).take f.rt := by
          have : b0.length = f.rt := by
            rw [← l0, List.length_take, List.length_map]
            have := Nat.le_of_ble_eq_true hrl
            rw [lenL_eq] at this
            omega
          have h4 : outs.map PinM.bx = b0 ++ b1 := h4
          rw [h4, ← this, List.take_left]
        have hz : (outs.map PinM.id).zip (outs.map PinM.bx) = ((ins.map PinM.id).take f.rt).zip b0 ++ (b0.flatMap followB).zip b1 := by
          have h4 : outs.map PinM.bx = b0 ++ b1 := h4
          rw [hids, ← e0, h4, List.zip_append l0]
        intro x hx
        obtain ⟨y, hy, rfl⟩ := List.mem_map.1 hx
        have hy' : (y.id, y.bx) ∈ (outs.map PinM.id).zip (outs.map PinM.bx) := by
          rw [List.zip_map_left, List.zip_map_right]
          simp only [List.mem_map]
          exact ⟨(y, y.bx), ⟨(y, y), by
            obtain ⟨i, hi, e1⟩ := List.getElem_of_mem hy
            have := List.getElem_mem (l := outs.zip outs) (n := i) (by rw [List.length_zip]; omega)
            rw [List.getElem_zip, e1] at this
            exact this, rfl⟩, rfl⟩
        have hbx : s.box y.id = some y.bx := by
          rw [hz] at hy'
          rcases List.mem_append.1 hy' with hy' | hy'
          · exact q0 _ hy'
          · exact q1 _ hy'
        show (s.box y.id).map SB.den = some y.bx.den
        rw [hbx]; rfl
      cases ex with
      | normal => exact ⟨.inl rfl, key hs⟩
      | ret => exact ⟨.inr rfl, key hs⟩
      | exit id => cases hs
    · intro m i ls _ _; rfl
  rw [initM_den] at hw
  have hlen := Nat.le_of_ble_eq_true hl
  rw [lenL_eq] at hlen
  rw [allB_eq, List.all_eq_true] at ha
  have hidinj := nodup_map_inj hin1
  have hginj := nodup_map_inj hin2
  have hpure : r.den.pure = true := by
    rw [SV.pure_den]
    cases r with
    | one x =>
      cases x with
      | c x => cases x <;> first | rfl | cases hr
      | agg l => cases hr
    | tup l =>
      show allB S1.pure l = true
      have hr : allB litS1 l = true := hr
      rw [allB_eq, List.all_eq_true] at hr ⊢
      intro x hx
      have := hr x hx
      cases x with
      | c x => cases x <;> first | rfl | cases this
      | agg l => cases this
  have wr : ∀ b, b ∈ wrOf (denU (upsM ins outs)) ↔ (∃ x ∈ outs, x.g = b) ∨ ∃ x ∈ (ins.filter fun x => !outs.any fun y => Nat.beq y.g x.g), x.g = b := fun b => by
    simp only [wrOf, denU, upsM, List.map_append, List.map_map, List.mem_append, List.mem_map, Function.comp]
  have wo : ∀ x ∈ outs, x.g ∈ wrOf (denU (upsM ins outs)) := fun x hx => (wr _).2 (.inl ⟨x, hx, rfl⟩)
  have wi : ∀ x ∈ ins, x.g ∈ wrOf (denU (upsM ins outs)) := fun x hx => (wr _).2 (by
    by_cases h1 : ∃ y ∈ outs, y.g = x.g
    · exact .inl h1
    · refine .inr ⟨x, List.mem_filter.2 ⟨hx, ?_⟩, rfl⟩
      rw [Bool.not_eq_true', List.any_eq_false]
      exact fun y hy e' => h1 ⟨y, hy, Nat.eq_of_beq_eq_true e'⟩)
  refine fnOkM_of_wpc (C := C) (k := f.k) (fn := f.fn) (c := codeOf f.fn) (args := args.map SV.den) (r := r.den) (ins.map fun x => (x.id, x.bx.den)) (outs.map PinM.out) _ hm hf hb hn hpure (by rw [List.length_map]; exact hlen) ?_ ?_ hw (mapM ins) ?_ pre ?_ ?_ ?_ ?_ ?_ ?_ ?_ ?_
  · intro a ha' vs
    obtain ⟨v, hv, rfl⟩ := List.mem_map.1 ha'
    have := ha v hv
    cases v with
    | one x => exact one_not_tup x vs
    | tup _ => cases this
  · intro x hx
    obtain ⟨y, hy, rfl⟩ := List.mem_map.1 hx
    exact hin y hy
  · intro x hx y hy e1
    obtain ⟨x', hx', rfl⟩ := List.mem_map.1 hx
    obtain ⟨y', hy', rfl⟩ := List.mem_map.1 hy
    have e1 : mapM ins x'.id = mapM ins y'.id := e1
    rw [mapM_mem hin1 hx', mapM_mem hin1 hy'] at e1
    rw [hginj _ hx' _ hy' e1]
  · intro x hx
    obtain ⟨y, hy, rfl⟩ := List.mem_map.1 hx
    show pre (mapM ins y.id) = _
    rw [mapM_mem hin1 hy, hpre y hy, SB.ren_den]
  · intro x hx
    obtain ⟨y, hy, rfl⟩ := List.mem_map.1 hx
    obtain ⟨h1, h2, h3⟩ := hout y hy
    refine ⟨h1, rfl, ?_, ?_⟩
    · rcases h2 with ⟨z, hz, e1, e2⟩ | h2
      · refine .inl ⟨_, List.mem_map.2 ⟨z, hz, rfl⟩, e1, ?_⟩
        show y.g = mapM ins y.id
        rw [← e1, mapM_mem hin1 hz, e2]
      · exact .inr h2
    · intro b hb'
      have := namesB_ok h3 hb'
      obtain ⟨z, hz, e1⟩ := List.mem_map.1 this
      exact ⟨z.out, List.mem_map.2 ⟨z, hz, rfl⟩, e1⟩
  · intro x hx y hy e1
    obtain ⟨x', hx', rfl⟩ := List.mem_map.1 hx
    obtain ⟨y', hy', rfl⟩ := List.mem_map.1 hy
    rw [nodup_map_inj hout1 _ hx' _ hy' e1]
  · intro x hx y hy e1
    obtain ⟨x', hx', rfl⟩ := List.mem_map.1 hx
    obtain ⟨y', hy', rfl⟩ := List.mem_map.1 hy
    rw [nodup_map_inj hout2 _ hx' _ hy' e1]
  · intro x hx
    obtain ⟨y, hy, rfl⟩ := List.mem_map.1 hx
    show mapM ins y.id ∈ _
    rw [mapM_mem hin1 hy]
    exact wi y hy
  · intro x hx
    obtain ⟨y, hy, rfl⟩ := List.mem_map.1 hx
    exact wo y hy
  · intro b hb' hne
    rcases (wr b).1 hb' with ⟨x, hx, rfl⟩ | ⟨x, hx', rfl⟩
    · rcases (hout x hx).2.1 with ⟨y, hy, e1, e2⟩ | ⟨_, e1⟩
      · refine ⟨_, List.mem_map.2 ⟨y, hy, rfl⟩, ?_⟩
        show mapM ins y.id = x.g
        rw [mapM_mem hin1 hy, e2]
      · exact absurd e1 hne
    · have hx := (List.mem_filter.1 hx').1
      refine ⟨_, List.mem_map.2 ⟨x, hx, rfl⟩, ?_⟩
      show mapM ins x.id = x.g
      rw [mapM_mem hin1 hx]
  · intro b hb'
    have e1 : denU (upsM ins outs) = outs.map (fun x => (x.g, some (x.bx.den.ren (gmM ins outs)))) ++ (ins.filter fun x => !outs.any fun y => Nat.beq y.g x.g).map fun x => (x.g, none) := by
      simp only [denU, upsM, List.map_append, List.map_map]
      congr 1
      refine List.map_congr_left fun x _ => ?_
      show (x.g, some (x.bx.ren (gmM ins outs)).den) = _
      rw [SB.ren_den]
    unfold postOf atG
    rw [e1, List.lookup_append, lookup_map (h := PinM.g) (v := fun x : PinM => some (x.bx.den.ren (gmM ins outs))), lookup_map (h := PinM.g) (v := fun _ : PinM => none)]
    rw [List.find?_map]
    show _ = ((outs.find? fun x => x.g == b).map PinM.out).map _
    cases e2 : outs.find? fun x => x.g == b with
    | some x => rfl
    | none =>
      show (((ins.filter _).find? _).map _).getD none = none
      cases (List.filter (fun x : PinM => !outs.any fun y => Nat.beq y.g x.g) ins).find? fun x => x.g == b <;> rfl

theorem upsM_wr {ins outs : List PinM} {b : Nat} : b ∈ wrOf (denU (upsM ins outs)) ↔ (∃ x ∈ outs, x.g = b) ∨ ∃ x ∈ (ins.filter fun x => !outs.any fun y => Nat.beq y.g x.g), x.g = b := by
  simp only [wrOf, denU, upsM, List.map_append, List.map_map, List.mem_append, List.mem_map, Function.comp]
theorem upsM_post {ins outs : List PinM} (h2 : (outs.map PinM.g).Nodup) {x : PinM} (hx : x ∈ outs) : postOf (denU (upsM ins outs)) x.g = some (x.bx.ren (gmM ins outs)).den := by
  have e1 : denU (upsM ins outs) = outs.map (fun x => (x.g, some (x.bx.ren (gmM ins outs)).den)) ++ (ins.filter fun x => !outs.any fun y => Nat.beq y.g x.g).map fun x => (x.g, none) := by
    simp only [denU, upsM, List.map_append, List.map_map]
    congr 1
  unfold postOf
  rw [e1, List.lookup_append, lookup_map (h := PinM.g) (v := fun x : PinM => some (x.bx.ren (gmM ins outs)).den)]
  have e2 : (outs.find? fun y => y.g == x.g) = some x := by
    cases e : outs.find? fun y => y.g == x.g with
    | none =>
      have := List.find?_eq_none.1 e x hx
      simp at this
    | some y =>
      have m := List.mem_of_find?_eq_some e
      have g : y.g = x.g := by simpa using List.find?_some e
      rw [nodup_map_inj h2 y m x hx g]
  rw [e2]; rfl
theorem post_mem {ups : List (Nat × Option SB)} {b : Nat} {B : Box} (h : postOf (denU ups) b = some B) : ∃ bx, (b, some bx) ∈ ups ∧ B = bx.den := by
  rw [lookup_look] at h
  obtain ⟨bx, h', rfl⟩ := Option.map_eq_some_iff.1 h
  clear h
  have h := h'
  refine ⟨bx, ?_, rfl⟩
  rcases look_mem (d := (none : Option SB)) (l := ups) (t := b) with g | g
  · rw [g] at h; cases h
  · rw [h] at g; exact g
/-- The same, for whatever the caller knows of the boxes, and wants to know. -/
theorem FnD.okM2 (hc : Gd C e) (f : FnD) (hm : C.P.follows .mixedOrders = true) (hf : C.P.funcs[f.k]? = some f.fn) (hb : f.fn.body = some (codeOf f.fn)) (hn : (f.fn.name == "runtime.NumGoroutine") = false) (hrt : Nat.beq f.rt 0 = false)
    {args : List SV} {r : SV} {n : Nat} {ins outs : List PinM}
    (ha : allB (fun v => !isTupS v) args = true) (hl : Nat.ble (lenL args) f.fn.ntmps = true) (hr : litSV r = true)
    (h : f.run e (ins.map PinM.id) n args (ins.map PinM.bx) = some ⟨r, outs.map PinM.bx⟩)
    (hids : outs.map PinM.id = (ins.map PinM.id).take f.rt ++ ((outs.map PinM.bx).take f.rt).flatMap followB) (hrl : Nat.ble f.rt (lenL ins) = true)
    (hin : ∀ x ∈ ins, f.fn.ntmps ≤ x.id ∧ x.bx.nl = false) (hin1 : (ins.map PinM.id).Nodup) (hin2 : (ins.map PinM.g).Nodup) (hout1 : (outs.map PinM.id).Nodup) (hout2 : (outs.map PinM.g).Nodup)
    (pre : Nat → Option Box) (hpre : ∀ x ∈ ins, ∃ y, pre x.g = some y ∧ y.nl = false ∧ ∀ μ M, RepB C μ M x.g y → RepB C μ M x.g (x.bx.ren (mapM ins)).den)
    (hout : ∀ x ∈ outs, x.bx.nl = false ∧ ((∃ y ∈ ins, y.id = x.id ∧ y.g = x.g) ∨ (x.id < f.fn.ntmps ∧ pre x.g = none)) ∧ namesB (outs.map PinM.id) x.bx = true)
    (ups : List (Nat × Option SB)) (hk : ∀ x ∈ ins, x.g ∈ ups.map (·.1)) (hk2 : ∀ x ∈ outs, x.g ∈ ups.map (·.1))
    (hq : ∀ b bx, (b, some bx) ∈ ups → ∃ x ∈ outs, x.g = b ∧ bx = x.bx.ren (gmM ins outs)) :
    FnOkB C f.k ((args.map SV.den).map (AV.ren (mapM ins))) pre r.den (denU ups) := by
  let pre0 : Nat → Option Box := fun b => (ins.find? fun x => x.g == b).map fun x => (x.bx.ren (mapM ins)).den
  have p0 : ∀ x ∈ ins, pre0 x.g = some (x.bx.ren (mapM ins)).den := fun x hx => by
    show (ins.find? fun y => y.g == x.g).map _ = _
    cases e : ins.find? fun y => y.g == x.g with
    | none =>
      have := List.find?_eq_none.1 e x hx
      simp at this
    | some y =>
      have m := List.mem_of_find?_eq_some e
      have g : y.g = x.g := by simpa using List.find?_some e
      rw [nodup_map_inj hin2 y m x hx g]; rfl
  have pn : ∀ b, pre b = none → pre0 b = none := fun b hb => by
    show (ins.find? fun y => y.g == b).map _ = _
    cases e : ins.find? fun y => y.g == b with
    | none => rfl
    | some y =>
      have m := List.mem_of_find?_eq_some e
      have g : y.g = b := by simpa using List.find?_some e
      obtain ⟨z, hz, _⟩ := hpre y m
      rw [g, hb] at hz; cases hz
  have both : ∀ x ∈ ins, ∀ b, x.g = b → match pre0 b, pre b with
      | none, none => True
      | some x, some y => x.nl = y.nl ∧ ∀ μ M, RepB C μ M b y → RepB C μ M b x
      | _, _ => False := fun x hx b e => by
    subst e
    obtain ⟨y, hy, hn, hr⟩ := hpre x hx
    rw [p0 x hx, hy]
    refine ⟨?_, hr⟩
    rw [hn]; exact (hin x hx).2
  have key := FnD.okM hc f hm hf hb hn hrt ha hl hr h hids hrl hin hin1 hin2 hout1 hout2 pre0 p0 (fun x hx => by
    obtain ⟨h1, h2, h3⟩ := hout x hx
    exact ⟨h1, h2.imp id fun ⟨a, b⟩ => ⟨a, pn _ b⟩, h3⟩)
  refine key.conv (fun b hb' => ?_) (fun b hb' => ?_) fun b hb' bx e1 => ?_
  · rw [wrOf_denU]
    rcases upsM_wr.1 hb' with ⟨x, hx, rfl⟩ | ⟨x, hx, rfl⟩
    · exact hk2 x hx
    · exact hk x (List.mem_filter.1 hx).1
  · rcases upsM_wr.1 hb' with ⟨x, hx, e2⟩ | ⟨x, hx, e2⟩
    · rcases (hout x hx).2.1 with ⟨y, hy, _, e1⟩ | ⟨_, e1⟩
      · exact both y hy b (e1.trans e2)
      · subst e2
        rw [e1, pn _ e1]; trivial
    · exact both x (List.mem_filter.1 hx).1 b e2
  · obtain ⟨z, hz, rfl⟩ := post_mem e1
    obtain ⟨x, hx, rfl, rfl⟩ := hq b z hz
    exact ⟨upsM_wr.2 (.inl ⟨x, hx, rfl⟩), upsM_post hout2 hx⟩
end top
end Go.Sy
/-
  Symbolic values, part 9: from a contract to the world that a claim speaks of.
-/
namespace Go.Sy
open Go.Ev Go.RowKit
set_option linter.unusedVariables false

/-- Everything that is there at the start is written by nobody. -/
def memOf (W : World) : Mem := ⟨W, fun b _ => b < W.heap.size, fun _ => False⟩
theorem wf_memOf {C : Cfg} (W : World) (hG : ∀ g flat, C.G g = some flat → RepI C (memOf W) (.iptr flat) (.pointer (some ⟨g, 0, none⟩)))
    (hF : ∀ g vs, C.F g = some vs → g < W.heap.size ∧ ∀ i, W.cell? ⟨g, i, none⟩ = vs[i]?) : Wf C (memOf W) :=
  ⟨fun b o h => ⟨h, fun h => h⟩, fun b h => h.elim, hG, fun g vs e i => ⟨(hF g vs e).1, (hF g vs e).2 i⟩⟩
theorem law_calls {C : Cfg} {k : FuncId} {args : List AV} {vs : Array Value} {W : World} (wf : Wf C (memOf W)) (h : FnOk C k args (.c (.lit (.bool true))))
    (hs : vs.size = args.length) (hr : ∀ i (h : i < args.length) (h' : i < vs.size), Rep1 C id (memOf W) args[i] vs[i]) :
    Calls C.P k vs W fun e W' => e = .returned (.bool true) ∧ Below W.heap.size W W' := by
  obtain ⟨_, hc⟩ := h fun _ => none
  refine (hc id (memOf W) vs wf hs hr (by simp [wrOf]) (by simp [wrOf])).mono fun e w' hh => ?_
  obtain ⟨v, μ', M', he, hw, hv, ht, _⟩ := hh
  subst hw
  have : v = .bool true := RepI.lit_eq hv
  subst this
  refine ⟨he, ht.os, ht.tape, ht.output, ht.grow.size, fun b hb => ?_⟩
  exact (ht.fr b hb (fun h => h) (by simp [wrOf])).1
end Go.Sy
/-
  Symbolic values, part 11: what the claims' rows share: the witness, the listed variables, and the arguments as they are read.
-/
namespace Go.Sy
open Go.Ev Go.ChangeShapes Go.WideShapes Go.ChangeAt Go.WideMaps Go.WideElems Go.RowKit Go.Joins
set_option linter.unusedVariables false

theorem witness_row_sh {H : Type} {enc : TypeId × Value → H} {C : Checked} {os : Os} {f : FuncId} {fn : Func} {s : OpenSpec} {conds : List PathCond} {apart : Bool} {laid : List (String × DataW Unit)} (w0 : World) (args : Array Value) (hos : w0.os = os)
    (hsh : (w0.forCall (fun _ _ => 0) ⟨#[], args, []⟩).Shaped C.prog) (hok : Input.okWideB C.prog (w0.forCall (fun _ _ => 0) ⟨#[], args, []⟩) f ⟨#[], args, []⟩ = true)
    (hrow : s.preRow enc C.prog fn conds apart laid (w0.forCall (fun _ _ => 0) ⟨#[], args, []⟩).memory args) :
    ∃ (w : World) (tape : Tape) (i : Input), w.os = os ∧ (w.forCall tape i).Shaped C.prog ∧ i.vars = [] ∧ Input.okWide C.prog (w.forCall tape i) .any w.heap.size f i ∧
      s.preRow enc C.prog fn conds apart laid (w.forCall tape i).memory i.args ∧ ({} : Assume).holds C.prog (lone (Frame.enter C.prog f i.args .normal) [] (w.forCall tape i)) :=
  ⟨w0, fun _ _ => 0, ⟨#[], args, []⟩, hos, hsh, (Input.okWide_of_okWideB (base := 0) hok).1, (Input.okWide_of_okWideB hok).2, hrow, by
    simp only [Assume.holds]
    exact ⟨by simp, by simp, fun _ => Modest.zero, by simp, by simp⟩⟩
/-- A listed table's cells. -/
theorem laid_tab {P : Program} {W : World} {laid : List (String × DataW Unit)} (h : laidMetH P laid W) (name : String) (k : IntKind) (zs : List Int) {g : Nat} {t e : TypeId} {n : Nat} (hf : laid.filter (fun x => x.1 == name) = [(name, Lib.tabData k zs)])
    (hg : P.globalNamed name = some g) (hty : (P.globals[g]?).map (·.type) = some t) (ht : P.underlying t = some (.array n e)) (he : P.underlying e = some (.int k)) (hce : P.cellsOf e = 1) (hct : P.cellsOf t = n) : Lib.TabIs P W name k zs := by
  have h1 := h.filter (fun x => x.1 == name)
  rw [hf, MakeChecks.laidMetH_plain _ _ _ (by simp [Lib.tabData, DataW.handleName?])] at h1
  exact Lib.tabIs_of_head (rest := []) hg hty ht he hce hct h1
theorem tab_fix {P : Program} {W : World} {name : String} {k : IntKind} {zs : List Int} {g : Nat} (h : Lib.TabIs P W name k zs) (hg : P.globalNamed name = some g) (h0 : 0 < zs.length) :
    g < W.heap.size ∧ ∀ i, W.cell? ⟨g, i, none⟩ = (zs.map fun z => Value.int k z).toArray[i]? := by
  have hc : ∀ i, W.cell? ⟨g, i, none⟩ = (zs.map fun z => Value.int k z).toArray[i]? := fun i => World.var?_cell hg h i
  refine ⟨?_, hc⟩
  rcases Nat.lt_or_ge g W.heap.size with h' | h'
  · exact h'
  · have := hc 0
    cases zs with
    | nil => simp at h0
    | cons z zs => simp [World.cell?, Array.getElem?_eq_none h'] at this
/-! ### numbers of a kind -/
theorem wf_u8 {n : Int} (h : (Lit.int .u8 n).wf = true) : 0 ≤ n ∧ n < 256 := by
  simp [Lit.wf, IntKind.min, IntKind.max, IntKind.signed, IntKind.bits] at h
  omega
theorem wf_u64 {n : Int} (h : (Lit.int .u64 n).wf = true) : 0 ≤ n ∧ n < 18446744073709551616 := by
  simp [Lit.wf, IntKind.min, IntKind.max, IntKind.signed, IntKind.bits] at h
  omega
theorem wf_i64 {n : Int} (h : (Lit.int .i64 n).wf = true) : -9223372036854775808 ≤ n ∧ n < 9223372036854775808 := by
  simp [Lit.wf, IntKind.min, IntKind.max, IntKind.signed, IntKind.bits] at h
  omega
end Go.Sy
