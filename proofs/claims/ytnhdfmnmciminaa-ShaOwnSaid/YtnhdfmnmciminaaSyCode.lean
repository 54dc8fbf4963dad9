/-
  Symbolic values, part 7: code by cuts, and functions.
-/
import Derived.Test.YtnhdfmnmciminaaSyLoop
namespace Go.Sy
open Go.Ev
set_option linter.unusedVariables false
set_option linter.unusedSimpArgs false

def nl : Code → Nat
  | .seq x y => nl x + nl y
  | .cond _ x y => nl x + nl y
  | .block _ c => nl c
  | .loop c => nl c + 1
  | _ => 0
def goesS (next : SS → Option Out) (K : Ex → SS → Option Out) : Ex → SS → Option Out
  | .normal, s => next s
  | e, s => K e s
def inBlockS (id : Nat) (K : Ex → SS → Option Out) : Ex → SS → Option Out
  | .exit id', s => bif Nat.beq id' id then K .normal s else K (.exit id') s
  | e, s => K e s
/-- A loop's head is reached. -/
def headS (sh : Nat → Shape) (H : Hd) (o : Nat) (s : SS) : Option Out :=
  match rdSt (sh o) s with
  | some (g, ls) => bif allG g then H o ls else none
  | none => none
def backS (hd : Nat → SS → Option Out) (o : Nat) (K : Ex → SS → Option Out) : Ex → SS → Option Out
  | .normal, s => hd o s
  | e, s => K e s
def tmpOf : Operand → Option Nat
  | .tmp t => some t
  | _ => none
def condS (s : SS) (c : Operand) (v : SV) (x y : SS → Option Out) : Option Out := match v with
  | .one (.c (.bool b)) => bif b then x (know s (tmpOf c) true) else y (know s (tmpOf c) false)
  | _ => none
theorem know_op {e : Ev'} {s : SS} {c : Operand} {b : Bool} (h : evS e.G s c = c1 (.bool b)) : (know s (tmpOf c) b).den = s.den := by
  cases c with
  | tmp t => exact know_den h rfl
  | _ => rfl
def runC (e : Ev') (hd : Nat → SS → Option Out) : Code → Nat → SS → (Ex → SS → Option Out) → Option Out
  | .skip, _, s, K => K .normal s
  | .region _ ops d, _, s, K => match d with
    | false => runS e ops ops.toList s (K .normal)
    | true => runD e ops ops.toList s [] fun rcs s' => bif orderS ops rcs s then K .normal s' else none
  | .seq x y, o, s, K => runC e hd x o s (goesS (fun s => runC e hd y (o + nl x) s K) K)
  | .cond c x y, o, s, K => condS s c (evS e.G s c) (fun s => runC e hd x o s K) (fun s => runC e hd y (o + nl x) s K)
  | .block id c, o, s, K => runC e hd c o s (inBlockS id K)
  | .loop _, o, s, _ => hd o s
  | .exit id, _, s, K => K (.exit id) s
  | .label _, _, s, K => K .normal s
  | .ret, _, s, K => K .ret s
  | _, _, _, _ => none
/-- What a round of the i-th loop comes to, and what is behind it. -/
def atL (e : Ev') (hd : Nat → SS → Option Out) (i : Nat) : Code → Nat → (Ex → SS → Option Out) → Option (SS → Option Out)
  | .seq x y, o, K => bif Nat.blt i (o + nl x) then atL e hd i x o (goesS (fun s => runC e hd y (o + nl x) s K) K) else atL e hd i y (o + nl x) K
  | .cond _ x y, o, K => bif Nat.blt i (o + nl x) then atL e hd i x o K else atL e hd i y (o + nl x) K
  | .block id c, o, K => atL e hd i c o (inBlockS id K)
  | .loop c, o, K => bif Nat.beq i o then some (fun s => runC e hd c (o + 1) s (backS hd o K)) else atL e hd i c (o + 1) (backS hd o K)
  | _, _, _ => none
section eqs
variable (e : Ev') (hd : Nat → SS → Option Out) (i o : Nat) (K : Ex → SS → Option Out)
theorem atL_seq (x y : Code) : atL e hd i (.seq x y) o K = bif Nat.blt i (o + nl x) then atL e hd i x o (goesS (fun s => runC e hd y (o + nl x) s K) K) else atL e hd i y (o + nl x) K := rfl
theorem atL_cond (c : Operand) (x y : Code) : atL e hd i (.cond c x y) o K = bif Nat.blt i (o + nl x) then atL e hd i x o K else atL e hd i y (o + nl x) K := rfl
theorem atL_block (id : Nat) (c : Code) : atL e hd i (.block id c) o K = atL e hd i c o (inBlockS id K) := rfl
theorem atL_loop (c : Code) : atL e hd i (.loop c) o K = bif Nat.beq i o then some (fun s => runC e hd c (o + 1) s (backS hd o K)) else atL e hd i c (o + 1) (backS hd o K) := rfl
end eqs
def segH (e : Ev') (sh : Nat → Shape) (c : Code) (Kt : Ex → SS → Option Out) (H : Hd) : Hd := fun i ls =>
  match atL e (headS sh H) i c 0 Kt with
  | some f => f (mkSt (sh i) ls)
  | none => none
def HN (e : Ev') (sh : Nat → Shape) (c : Code) (Kt : Ex → SS → Option Out) : Nat → Hd
  | 0 => fun _ _ => none
  | n + 1 => segH e sh c Kt (HN e sh c Kt n)

theorem least {p : Nat → Prop} (h : ∃ n, p n) : ∃ n, p n ∧ ∀ m, p m → n ≤ m := by
  obtain ⟨n, hn⟩ := h
  induction n using Nat.strongRecOn with
  | _ n ih =>
    by_cases hm : ∃ m, m < n ∧ p m
    · obtain ⟨m, h1, h2⟩ := hm; exact ih m h1 h2
    · exact ⟨n, hn, fun m h => Nat.not_lt.1 fun hl => hm ⟨m, hl, h⟩⟩
theorem leastOf (Inv : Nat → St → Prop) : ∃ f : St → Nat, ∀ s, (∃ n, Inv n s) → Inv (f s) s ∧ ∀ n, Inv n s → f s ≤ n := by
  have : ∀ s, ∃ k, (∃ n, Inv n s) → Inv k s ∧ ∀ n, Inv n s → k ≤ n := fun s => by
    by_cases h : ∃ n, Inv n s
    · obtain ⟨k, h1⟩ := least (p := fun n => Inv n s) h; exact ⟨k, fun _ => h1⟩
    · exact ⟨0, fun h' => (h h').elim⟩
  exact ⟨fun s => Classical.choose (this s), fun s h => Classical.choose_spec (this s) h⟩

section sound
variable {C : Cfg} {e : Ev'} {sh : Nat → Shape} {c0 : Code} {Kt : Ex → SS → Option Out} {out : Out}
/-- The loops of a piece of code go on as that piece is left. -/
def LoopsAt (e : Ev') (sh : Nat → Shape) (F : Nat → Hd) (x : Code) (o : Nat) (K : Hd → Ex → SS → Option Out) : Prop :=
  ∀ n i ls, o ≤ i → i < o + nl x → F (n + 1) i ls = (match atL e (headS sh (F n)) i x o (K (F n)) with
    | some f => f (mkSt (sh i) ls)
    | none => none)
theorem headS_le {H : Hd} {o : Nat} {s : SS} (h : headS sh H o s = some out) : ∃ ls, s.den.le (mkSt (sh o) ls).den ∧ H o ls = some out := by
  unfold headS at h
  split at h
  · rename_i g ls hr
    obtain ⟨h1, h2⟩ := bif_some h
    exact ⟨ls, rdSt_le hr h1, h2⟩
  · cases h
theorem runC_ok (hc : Gd C e) {F : Nat → Hd} (F0 : ∀ i ls, F 0 i ls = none) (x : Code) : ∀ (o N : Nat) (K : Hd → Ex → SS → Option Out) (Ks : Ex → St → Prop),
    (∀ n, n ≤ N → ∀ ex s, K (F n) ex s = some out → Ks ex s.den) → LoopsAt e sh F x o K → ∀ n, n ≤ N → ∀ s, runC e (headS sh (F n)) x o s (K (F n)) = some out → WPc C x Ks s.den := by
  induction x with
  | skip => intro o N K Ks hk _ n hn s h; exact hk n hn _ s h
  | label l => intro o N K Ks hk _ n hn s h; exact hk n hn _ s h
  | exit id => intro o N K Ks hk _ n hn s h; exact hk n hn _ s h
  | ret => intro o N K Ks hk _ n hn s h; exact hk n hn _ s h
  | region id ops d =>
    intro o N K Ks hk _ n hn s h
    cases d with
    | false => exact runS_ok hc (hk n hn .normal) _ _ h
    | true =>
      refine runD_ok hc (Kp := fun rcs s' => orderOk ops rcs s.den ∧ Ks .normal s') ?_ _ _ [] h
      intro l s' h'
      obtain ⟨h1, h2⟩ := bif_some h'
      exact ⟨orderS_ok h1, hk n hn _ _ h2⟩
  | seq x y ihx ihy =>
    intro o N K Ks hk hl n hn s h
    refine ihx o N (fun H => goesS (fun s => runC e (headS sh H) y (o + nl x) s (K H)) (K H)) _ ?_ ?_ n hn s h
    · intro m hm ex s' h'
      cases ex with
      | normal =>
        refine ihy (o + nl x) N K Ks hk ?_ m hm s' h'
        intro m i ls h1 h2
        rw [hl m i ls (by omega) (by show i < o + (nl x + nl y); omega)]
        rw [atL_seq, (blt_not i (o + nl x)).2 h1, cond_false]
      | exit id => exact hk m hm _ _ h'
      | ret => exact hk m hm _ _ h'
    · intro m i ls h1 h2
      rw [hl m i ls h1 (by show i < o + (nl x + nl y); omega)]
      rw [atL_seq, (blt_iff i (o + nl x)).2 h2, cond_true]
  | cond v x y ihx ihy =>
    intro o N K Ks hk hl n hn s h
    have hv := evS_den hc.g s v
    unfold runC condS at h
    split at h
    · rename_i b hb
      rw [hb] at hv
      refine ⟨b, hv.symm, fun e1 => ?_, fun e1 => ?_⟩
      · subst e1
        rw [← know_op hb]
        refine ihx o N K Ks hk ?_ n hn _ h
        intro m i ls h1 h2
        rw [hl m i ls h1 (by show i < o + (nl x + nl y); omega)]
        rw [atL_cond, (blt_iff i (o + nl x)).2 h2, cond_true]
      · subst e1
        rw [← know_op hb]
        refine ihy (o + nl x) N K Ks hk ?_ n hn _ h
        intro m i ls h1 h2
        rw [hl m i ls (by omega) (by show i < o + (nl x + nl y); omega)]
        rw [atL_cond, (blt_not i (o + nl x)).2 h1, cond_false]
    · cases h
  | block id c ih =>
    intro o N K Ks hk hl n hn s h
    refine ih o N (fun H => inBlockS id (K H)) _ ?_ ?_ n hn s h
    · intro m hm ex s' h'
      cases ex with
      | normal => exact hk m hm _ _ h'
      | ret => exact hk m hm _ _ h'
      | exit id' =>
        simp only [inBlockA]
        unfold inBlockS at h'
        rcases bif_or h' with ⟨h1, h2⟩ | ⟨h1, h2⟩
        · rw [if_pos (Nat.eq_of_beq_eq_true h1)]; exact hk m hm _ _ h2
        · rw [if_neg (fun e' => by subst e'; simp at h1)]; exact hk m hm _ _ h2
    · intro m i ls h1 h2
      rw [hl m i ls h1 h2, atL_block]
  | loop c ih =>
    intro o N K Ks hk hl n hn s h
    obtain ⟨ls0, le0, h0⟩ := headS_le h
    obtain ⟨f, hf⟩ := leastOf fun n s => n ≤ N ∧ ∃ ls, s = (mkSt (sh o) ls).den ∧ F n o ls = some out
    refine ⟨fun s => ∃ n, n ≤ N ∧ ∃ ls, s = (mkSt (sh o) ls).den ∧ F n o ls = some out, f, ⟨_, le0, n, hn, ls0, rfl, h0⟩, fun s1 hs1 => ?_⟩
    obtain ⟨⟨h1, ls, rfl, h2⟩, hmin⟩ := hf s1 hs1
    generalize hm : f (mkSt (sh o) ls).den = m at h1 h2
    cases m with
    | zero => rw [F0] at h2; cases h2
    | succ m =>
      rw [hl m o ls (Nat.le_refl _) (by show o < o + (nl c + 1); omega)] at h2
      rw [atL_loop, show Nat.beq o o = true from Nat.beq_refl o, cond_true] at h2
      refine ih (o + 1) m (fun H => backS (headS sh H) o (K H)) _ ?_ ?_ m (Nat.le_refl _) _ h2
      · intro m' hm' ex s' h'
        cases ex with
        | normal =>
          obtain ⟨ls', le', h3⟩ := headS_le h'
          refine ⟨_, le', ⟨m', by omega, ls', rfl, h3⟩, ?_⟩
          have := (hf (mkSt (sh o) ls').den ⟨m', by omega, ls', rfl, h3⟩).2 m' ⟨by omega, ls', rfl, h3⟩
          omega
        | exit id => exact hk m' (by omega) _ _ h'
        | ret => exact hk m' (by omega) _ _ h'
      · intro m' i ls' h3 h4
        rw [hl m' i ls' (by omega) (by show i < o + (nl c + 1); omega)]
        rw [atL_loop]
        have : Nat.beq i o = false := by
          cases hb : Nat.beq i o with
          | false => rfl
          | true => have := Nat.eq_of_beq_eq_true hb; omega
        rw [this, cond_false]
  | _ => intro o N K Ks hk _ n hn s h; unfold runC at h; cases h
end sound

/-! ### functions -/

def lowS (s : SS) (b : Nat) : Option SB := bif Nat.blt b s.n then s.box b else none
def resS (P : Program) (s : SS) (T : TypeId) : ResultVar → Option (Bool × S1)
  | .tmp t => match pub1 P T (lowS s) (s.get t) with
    | some (g, .one v, _) => some (g, v)
    | _ => none
  | .cell a U => match s.get a with
    | .one (.c (.ptr b off)) => match s.box b with
      | some ⟨.sg l, _, nl⟩ => match loadS P U l off with
        | some v => match pub1 P U (lowS s) (.one v) with
          | some (g, .one v, _) => some (!nl && g, v)
          | _ => none
        | none => none
      | _ => none
    | _ => none
def resL (P : Program) (s : SS) : List TypeId → List ResultVar → Option (Bool × List S1)
  | _, [] => some (true, [])
  | ts, r :: rs => match resS P s (ts.headD 0) r, resL P s ts.tail rs with
    | some (g, v), some (g', vs) => some (g && g', v :: vs)
    | _, _ => none
def resAll (P : Program) (s : SS) (ts : List TypeId) (rs : List ResultVar) : Option (Bool × SV) :=
  match resL P s ts rs with
  | some (g, [v]) => some (g, .one v)
  | some (g, vs) => some (g, .tup vs)
  | none => none
def pinsOf (s : SS) : List Nat → Option (List SB)
  | [] => some []
  | b :: bs => match s.box b, pinsOf s bs with
    | some ⟨ct, pub, false⟩, some l => bif ct.pure then some (⟨ct, pub, false⟩ :: l) else none
    | _, _ => none
def finS (P : Program) (ts : List TypeId) (rs : List ResultVar) (n : Nat) (pins : List Nat) (s : SS) : Option Out :=
  match resAll P s ts rs, pinsOf s pins with
  | some (g, r), some bs => bif r.pure && Nat.beq s.n n then (bif g then some ⟨r, bs⟩ else none) else none
  | _, _ => none
def topS (P : Program) (ts : List TypeId) (rs : List ResultVar) (n : Nat) (pins : List Nat) : Ex → SS → Option Out
  | .normal, s => finS P ts rs n pins s
  | .ret, s => finS P ts rs n pins s
  | .exit _, _ => none
def nums {α : Type} : Nat → List α → List (Nat × α)
  | _, [] => []
  | i, a :: l => (i, a) :: nums (i + 1) l
def initS (n : Nat) (args : List SV) (pins : List (Nat × SB)) : SS := ⟨n, nums 0 args, pins.map fun p => (p.1, some p.2)⟩
theorem look_nums {α : Type} (d : α) (l : List α) : ∀ (i t : Nat), look d (nums i l) (i + t) = l.getD t d := by
  induction l with
  | nil => intro i t; simp [nums, look]
  | cons a l ih =>
    intro i t
    simp only [nums, look]
    cases t with
    | zero => simp
    | succ t =>
      have : Nat.beq i (i + (t + 1)) = false := by
        cases hb : Nat.beq i (i + (t + 1)) with
        | false => rfl
        | true => have := Nat.eq_of_beq_eq_true hb; omega
      rw [this, show i + (t + 1) = (i + 1) + t by omega]
      simp only [cond_false, ih]
      simp [List.getD_eq_getElem?_getD]
def argOkS (n : Nat) : SV → Bool
  | .one (.c (.ptr b _)) => Nat.ble n b
  | .one (.c x) => x.pure
  | .one (.agg l) => allB Sg.pure l
  | .tup _ => false
theorem argOkS_ok {n : Nat} {v : SV} (h : argOkS n v = true) : argOk n v.den = true := by
  unfold argOkS at h
  split at h
  · exact decide_eq_true (Nat.le_of_ble_eq_true h)
  · rename_i x hx
    show argOk n (.c x.den) = true
    have := Cl.pure_den x
    rw [h] at this
    cases x <;> first | rfl | cases h
  · rename_i l
    show (denS l).all (·.pure) = true
    rw [denS_pure]; exact h
  · cases h
structure FnD where
  k : FuncId
  fn : Func
  sh : Nat → Shape
  ts : List TypeId
def codeOf (f : Func) : Code := match f.body with
  | some c => c
  | none => .skip
def FnD.top (f : FnD) (P : Program) (pins : List Nat) : Ex → SS → Option Out := topS P f.ts f.fn.results.toList f.fn.ntmps pins
/-- A function from its beginning on, and from its loops' heads on. -/
def FnD.ent (f : FnD) (e : Ev') (pins : List Nat) (H : Hd) (args : List SV) (bs : List SB) : Option Out :=
  runC e (headS f.sh H) (codeOf f.fn) 0 (initS f.fn.ntmps args (pins.zip bs)) (f.top e.P pins)
def FnD.seg (f : FnD) (e : Ev') (pins : List Nat) (H : Hd) : Hd := segH e f.sh (codeOf f.fn) (f.top e.P pins) H
def FnD.H (f : FnD) (e : Ev') (pins : List Nat) : Nat → Hd := HN e f.sh (codeOf f.fn) (f.top e.P pins)
def FnD.run (f : FnD) (e : Ev') (pins : List Nat) (n : Nat) (args : List SV) (bs : List SB) : Option Out := f.ent e pins (f.H e pins n) args bs
theorem FnD.H_succ (f : FnD) (e : Ev') (pins : List Nat) (n : Nat) : f.H e pins (n + 1) = f.seg e pins (f.H e pins n) := rfl
theorem FnD.H_zero (f : FnD) (e : Ev') (pins : List Nat) (i : Nat) (ls : List Lf) : f.H e pins 0 i ls = none := rfl

theorem lowS_den (s : SS) : denB (lowS s) = lowBox s.den := by
  funext b
  unfold denB lowS lowBox
  cases hb : Nat.blt b s.n with
  | true => rw [if_pos (show b < s.den.n from (blt_iff _ _).1 hb)]; rfl
  | false => rw [if_neg (show ¬ b < s.den.n from fun h => by have := (blt_not _ _).1 hb; exact absurd h (Nat.not_lt.2 this))]; rfl
theorem one_not_tup (v : S1) (vs : List AV) : v.den ≠ .tup vs := by cases v <;> intro h <;> cases h
theorem resS_ok {P : Program} {s : SS} {T : TypeId} {x : ResultVar} {g : Bool} {v : S1} (h : resS P s T x = some (g, v)) (hg : g = true) : ResP1 P s.den x v.den := by
  unfold resS at h
  split at h
  · rename_i t
    split at h
    · rename_i g' v' bs hp
      cases h
      obtain ⟨h1, _, h2⟩ := pub1_ok hp hg
      rw [lowS_den] at h1
      exact ⟨_, ⟨rfl, h2⟩, h1⟩
    · cases h
  · rename_i a U
    split at h
    · rename_i b off ha
      split at h
      · rename_i l pub nl hb
        split at h
        · rename_i v' hv
          split at h
          · rename_i g' v'' bs hp
            cases h
            simp only [Bool.and_eq_true, Bool.not_eq_true'] at hg
            obtain ⟨h1, _, h2⟩ := pub1_ok hp hg.2
            rw [lowS_den] at h1
            refine ⟨v'.den, ⟨b, off, SB.den ⟨.sg l, pub, nl⟩, ?_, ?_, hg.1, ?_⟩, h1⟩
            · show (s.get a).den = _; rw [ha]; rfl
            · show (s.box b).map SB.den = _; rw [hb]; rfl
            · exact loadA_or (loadS_ok hv)
          · cases h
        · cases h
      · cases h
    · cases h
theorem resL_ok {P : Program} {s : SS} : ∀ {ts : List TypeId} {rs : List ResultVar} {g : Bool} {vs : List S1}, resL P s ts rs = some (g, vs) → g = true → ResPL P s.den rs (vs.map S1.den)
  | _, [], g, vs, h, _ => by
    simp only [resL, Option.some.injEq, Prod.mk.injEq] at h
    obtain ⟨_, rfl⟩ := h
    exact trivial
  | ts, r :: rs, g, vs, h, hg => by
    unfold resL at h
    split at h
    · rename_i g1 v g2 vs' h1 h2
      cases h
      simp only [Bool.and_eq_true] at hg
      exact ⟨resS_ok h1 hg.1, resL_ok h2 hg.2⟩
    · cases h
theorem resL_len {P : Program} {s : SS} : ∀ {ts : List TypeId} {rs : List ResultVar} {g : Bool} {vs : List S1}, resL P s ts rs = some (g, vs) → vs.length = rs.length
  | _, [], g, vs, h => by
    simp only [resL, Option.some.injEq, Prod.mk.injEq] at h
    obtain ⟨_, rfl⟩ := h
    rfl
  | ts, r :: rs, g, vs, h => by
    unfold resL at h
    split at h
    · rename_i g1 v g2 vs' h1 h2
      cases h
      simp [resL_len h2]
    · cases h
theorem resAll_ok {P : Program} {s : SS} {ts : List TypeId} {rs : List ResultVar} {g : Bool} {r : SV} (h : resAll P s ts rs = some (g, r)) (hg : g = true) : ResP P s.den rs r.den := by
  unfold resAll at h
  split at h
  · rename_i g' v hr
    cases h
    have h1 := resL_ok hr hg
    have h2 := resL_len hr
    match rs, h1, h2 with
    | [x], h1, _ => exact h1.1
  · rename_i g' vs hne hr
    cases h
    have h1 := resL_ok hr hg
    have h2 := resL_len hr
    unfold ResP
    split
    · rename_i x
      match vs, h2, hne with
      | [v], _, hne => exact (hne _ rfl).elim
    · exact ⟨_, rfl, h1⟩
  · cases h
theorem pinsOf_ok {s : SS} : ∀ {pins : List Nat} {bs : List SB}, pinsOf s pins = some bs → pins.length = bs.length ∧ ∀ x ∈ pins.zip bs, s.box x.1 = some x.2 ∧ x.2.ct.pure = true ∧ x.2.nl = false
  | [], bs, h => by cases h; exact ⟨rfl, by simp⟩
  | b :: pins, bs, h => by
    unfold pinsOf at h
    split at h
    · rename_i ct pub l hb hl
      obtain ⟨h1, h2⟩ := bif_some h
      cases h2
      obtain ⟨h3, h4⟩ := pinsOf_ok hl
      refine ⟨by simp [h3], fun x hx => ?_⟩
      rcases List.mem_cons.1 hx with rfl | hx
      · exact ⟨hb, h1, rfl⟩
      · exact h4 x hx
    · cases h
theorem finS_ok {P : Program} {ts : List TypeId} {rs : List ResultVar} {n : Nat} {pins : List Nat} {s : SS} {out : Out} (h : finS P ts rs n pins s = some out) :
    ResP P s.den rs out.r.den ∧ s.n = n ∧ out.r.pure = true ∧ pinsOf s pins = some out.bs := by
  unfold finS at h
  split at h
  · rename_i g r bs hr hb
    obtain ⟨h1, h2⟩ := bif_some h
    obtain ⟨h3, h4⟩ := bif_some h2
    cases h4
    simp only [Bool.and_eq_true] at h1
    exact ⟨resAll_ok hr h3, Nat.eq_of_beq_eq_true h1.2, h1.1, hb⟩
  · cases h
theorem look_pins (pins : List Nat) (bs : List SB) (b : Nat) : (look none ((pins.zip bs).map fun p => (p.1, some p.2)) b) = ((pins.zip bs).find? fun x => x.1 == b).map (·.2) := by
  induction pins.zip bs with
  | nil => rfl
  | cons p l ih =>
    simp only [List.map_cons, look, List.find?_cons, beq_nat]
    cases p.1 == b with
    | true => rfl
    | false => exact ih

theorem wpc_and {C : Cfg} {c : Code} {K : Ex → St → Prop} {s : St} {p : Prop} (h : WPc C c K s) (hp : p) : WPc C c (fun e s => K e s ∧ p) s := WPc.mono c (fun e s hs => ⟨hs, hp⟩) h
section top
variable {C : Cfg} {e : Ev'}
theorem init_den (n : Nat) (args : List SV) (pins : List Nat) (b0 b1 : List SB) (h : b1.length = b0.length) :
    (initS n args (pins.zip b0)).den = initB (args.map SV.den) n ((pins.zip (b0.zip b1)).map fun x => (x.1, x.2.1.den, x.2.2.den)) := by
  simp only [SS.den, initB, initS]
  congr 1
  · funext t
    have := look_nums (SV.one (.c .junk)) args 0 t
    rw [Nat.zero_add] at this
    show SV.den (look _ _ t) = _
    rw [this]
    simp only [List.getD_eq_getElem?_getD, List.getElem?_map]
    cases args[t]? <;> rfl
  · funext b
    show (look none ((pins.zip b0).map fun p => (p.1, some p.2)) b).map SB.den = _
    unfold boxAt
    induction pins generalizing b0 b1 with
    | nil => rfl
    | cons p pins ih =>
      cases b0 with
      | nil => rfl
      | cons x b0 =>
        cases b1 with
        | nil => cases h
        | cons y b1 =>
          simp only [List.zip_cons_cons, List.map_cons, look, List.find?_cons, beq_nat]
          cases p == b with
          | true => rfl
          | false => exact ih b0 b1 (by simpa using h)
theorem FnD.okP (hc : Gd C e) (f : FnD) (hm : C.P.follows .mixedOrders = true) (hf : C.P.funcs[f.k]? = some f.fn) (hb : f.fn.body = some (codeOf f.fn)) (hn : (f.fn.name == "runtime.NumGoroutine") = false) {args : List SV} {out : Out} {n : Nat} {pins : List Nat} {bs : List SB} (hpl : bs.length = pins.length) (hp : allB (fun p => Nat.ble f.fn.ntmps p) pins = true) (hbs : allB (fun b : SB => b.ct.pure && !b.nl) bs = true)
    (hol : out.bs.length = pins.length) (hob : allB (fun b : SB => b.ct.pure && !b.nl) out.bs = true) (hor : out.r.pure = true)
    (ha : allB (argOkS f.fn.ntmps) args = true) (hl : Nat.ble (lenL args) f.fn.ntmps = true) (h : f.run e pins n args bs = some out) (g : Nat → Nat) (hinj : ∀ x ∈ pins, ∀ y ∈ pins, g x = g y → x = y) (hnd : pins.Nodup)
    (pre : Nat → Option Box) (hpre : ∀ x ∈ pins.zip bs, pre (g x.1) = some x.2.den) :
    FnOkB C f.k ((args.map SV.den).map (AV.ren g)) pre out.r.den ((pins.zip (bs.zip out.bs)).map fun x => (g x.1, some x.2.2.den)) := by
  have hw : WPc C (codeOf f.fn) (fun ex s => (ex = .normal ∨ ex = .ret) ∧ ResP C.P s f.fn.results.toList out.r.den ∧ s.n = f.fn.ntmps ∧ ∀ x ∈ (pins.zip (bs.zip out.bs)).map (fun x => ((x.1, x.2.1.den, x.2.2.den) : Nat × Box × Box)), s.box x.1 = some x.2.2) (initS f.fn.ntmps args (pins.zip bs)).den := by
    refine runC_ok hc (sh := f.sh) (out := out) (F := f.H e pins) (fun _ _ => rfl) (codeOf f.fn) 0 n (fun _ => f.top e.P pins) _ ?_ ?_ n (Nat.le_refl _) _ h
    · intro m _ ex s hs
      have key : finS e.P f.ts f.fn.results.toList f.fn.ntmps pins s = some out → ResP C.P s.den f.fn.results.toList out.r.den ∧ s.den.n = f.fn.ntmps ∧ ∀ x ∈ (pins.zip (bs.zip out.bs)).map (fun x => ((x.1, x.2.1.den, x.2.2.den) : Nat × Box × Box)), s.den.box x.1 = some x.2.2 := by
        intro hs
        obtain ⟨h1, h2, h3, h4⟩ := finS_ok hs
        rw [← hc.p] at h1
        refine ⟨h1, h2, fun x hx => ?_⟩
        obtain ⟨y, hy, rfl⟩ := List.mem_map.1 hx
        obtain ⟨_, h5⟩ := pinsOf_ok h4
        have hz : (y.1, y.2.2) ∈ pins.zip out.bs := by
          obtain ⟨i, hi, e1⟩ := List.getElem_of_mem hy
          rw [List.getElem_zip, List.getElem_zip] at e1
          simp only [List.length_zip] at hi
          rw [← e1]
          have hi1 : i < pins.length := by omega
          have hi2 : i < out.bs.length := by omega
          have := List.getElem_mem (l := pins.zip out.bs) (n := i) (by rw [List.length_zip]; omega)
          rw [List.getElem_zip] at this
          exact this
        have := (h5 _ hz).1
        show (s.box y.1).map SB.den = some y.2.2.den
        rw [show s.box y.1 = some y.2.2 from this]; rfl
      cases ex with
      | normal => exact ⟨.inl rfl, key hs⟩
      | ret => exact ⟨.inr rfl, key hs⟩
      | exit id => cases hs
    · intro m i ls _ _; rfl
  rw [init_den _ _ _ _ out.bs (by omega)] at hw
  rw [allB_eq, List.all_eq_true] at hp hbs hob ha
  have harg : (args.map SV.den).all (argOk f.fn.ntmps) = true := by
    rw [List.all_eq_true]
    intro x hx
    obtain ⟨v, hv, rfl⟩ := List.mem_map.1 hx
    exact argOkS_ok (ha v hv)
  have hlen := Nat.le_of_ble_eq_true hl
  rw [lenL_eq] at hlen
  have mem3 : ∀ y ∈ pins.zip (bs.zip out.bs), y.1 ∈ pins ∧ y.2.1 ∈ bs ∧ y.2.2 ∈ out.bs ∧ (y.1, y.2.1) ∈ pins.zip bs := fun y hy => by
    obtain ⟨i, hi, e1⟩ := List.getElem_of_mem hy
    rw [List.getElem_zip, List.getElem_zip] at e1
    simp only [List.length_zip] at hi
    subst e1
    refine ⟨List.getElem_mem _, List.getElem_mem _, List.getElem_mem _, ?_⟩
    have := List.getElem_mem (l := pins.zip bs) (n := i) (by rw [List.length_zip]; omega)
    rw [List.getElem_zip] at this
    exact this
  have key := fnOkB_of_wpc (C := C) (k := f.k) (fn := f.fn) (c := codeOf f.fn) (args := args.map SV.den) (r := out.r.den) ((pins.zip (bs.zip out.bs)).map fun x => (x.1, x.2.1.den, x.2.2.den)) hm hf hb hn harg
    (by rw [SV.pure_den]; exact hor) (by rw [List.length_map]; exact hlen) (fun x hx => by
      obtain ⟨y, hy, rfl⟩ := List.mem_map.1 hx
      obtain ⟨m1, m2, m3, _⟩ := mem3 y hy
      have q1 := hbs _ m2
      have q2 := hob _ m3
      simp only [Bool.and_eq_true, Bool.not_eq_true'] at q1 q2
      exact ⟨Nat.le_of_ble_eq_true (hp _ m1), by show y.2.1.ct.den.all _ = true; rw [Ct.pure_den]; exact q1.1, by show y.2.2.ct.den.all _ = true; rw [Ct.pure_den]; exact q2.1, q1.2, q2.2⟩) hw g
    (fun x hx y hy e' => by
      obtain ⟨x', hx', rfl⟩ := List.mem_map.1 hx
      obtain ⟨y', hy', rfl⟩ := List.mem_map.1 hy
      have e1 := hinj _ (mem3 x' hx').1 _ (mem3 y' hy').1 e'
      obtain ⟨i, hi, ex⟩ := List.getElem_of_mem hx'
      obtain ⟨j, hj, ey⟩ := List.getElem_of_mem hy'
      rw [List.getElem_zip] at ex ey
      have ei : i = j := by
        rw [← ex, ← ey] at e1
        exact (List.getElem_inj hnd).1 e1
      subst ei
      rw [← ex, ← ey])
    pre (fun x hx => by
      obtain ⟨y, hy, rfl⟩ := List.mem_map.1 hx
      exact hpre _ (mem3 y hy).2.2.2)
  rw [List.map_map (l := pins.zip (bs.zip out.bs))] at key
  exact key
/-- THE CONTRACT OF A FUNCTION that is handed no box, by what it comes to. -/
theorem FnD.ok (hc : Gd C e) (f : FnD) (hm : C.P.follows .mixedOrders = true) (hf : C.P.funcs[f.k]? = some f.fn) (hb : f.fn.body = some (codeOf f.fn)) (hn : (f.fn.name == "runtime.NumGoroutine") = false) {args : List SV} {r : SV} {n : Nat} (ha : allB S1.pure (args.map fun v => match v with | .one x => x | .tup _ => .c .junk) = true) (ht : allB (fun v => !isTupS v) args = true) (hor : r.pure = true) (hl : Nat.ble (lenL args) f.fn.ntmps = true)
    (h : f.run e [] n args [] = some ⟨r, []⟩) : FnOk C f.k (args.map SV.den) r.den := by
  intro pre
  rw [allB_eq, List.all_eq_true] at ha ht
  have ha' : ∀ v ∈ args, argOkS f.fn.ntmps v = true ∧ v.den.ren id = v.den := fun v hv => by
    have h1 := ht v hv
    cases v with
    | tup _ => cases h1
    | one x =>
      have h2 := ha x (List.mem_map.2 ⟨_, hv, rfl⟩)
      refine ⟨?_, ?_⟩
      · cases x with
        | c x => cases x <;> first | exact h2 | cases h2
        | agg l => exact h2
      · have hc : ∀ a : AC, a.ren id = a := fun a => by cases a <;> rfl
        cases x with
        | c x => show AV.c (x.den.ren id) = _; rw [hc]; rfl
        | agg l =>
          show AV.agg (renL id (denS l)) = AV.agg (denS l)
          have : (fun a : AC => a.ren id) = id := funext hc
          simp [renL, this]
  have := FnD.okP hc f hm hf hb hn (args := args) (out := ⟨r, []⟩) (n := n) (pins := []) (bs := []) rfl rfl rfl rfl rfl hor (by rw [allB_eq, List.all_eq_true]; exact fun v hv => (ha' v hv).1) hl h id (by simp) (by simp) pre (by simp)
  rw [List.map_map] at this
  have e : args.map (AV.ren id ∘ SV.den) = args.map SV.den := List.map_congr_left fun v hv => (ha' v hv).2
  rw [e] at this
  exact this
end top
end Go.Sy
