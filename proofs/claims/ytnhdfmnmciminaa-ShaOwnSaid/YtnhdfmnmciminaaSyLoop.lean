/-
  Symbolic values, part 6: what is live at a loop's head.
-/
import Derived.Test.YtnhdfmnmciminaaSyRun
namespace Go.Sy
open Go.Ev
set_option linter.unusedVariables false
set_option linter.unusedSimpArgs false

inductive CS where
  | int (k : IntKind)
  | bool
  | str
  | ints (k : IntKind)
  | rows (ks : List Kd)
  | sl (b z : Nat)
  | ptr (b off : Nat)
  | fn (k : FuncId)
  | junk
inductive GS where
  | c (x : CS)
  | arr (k : IntKind) (n : Nat)
inductive TS where
  | c (x : CS)
  | agg (l : List GS)
inductive SK where
  | ints (k : IntKind)
  | rows (ks : List Kd)
/-- A slice's box: pub, nl: are these live too, or always nought and false? -/
structure SlS where
  c : SK
  pub : Bool
  nl : Bool
structure Shape where
  n : Nat
  sl : List (Nat × SlS)
  bx : List (Nat × List GS)
  t : List (Nat × TS)

/-! ### other numbers for boxes -/

def sw (x y b : Nat) : Nat := bif Nat.beq b x then y else bif Nat.beq b y then x else b
def perm : List (Nat × Nat) → Nat → Nat
  | [], b => b
  | (c, a) :: l, b => sw (perm l c) a (perm l b)
theorem sw_eq (x y b : Nat) : sw x y b = if b = x then y else if b = y then x else b := by
  unfold sw
  simp only [beq_nat, Bool.cond_eq_ite, beq_iff_eq]
theorem sw_inj (x y a b : Nat) (h : sw x y a = sw x y b) : a = b := by
  rw [sw_eq, sw_eq] at h
  split at h <;> split at h <;> (try split at h) <;> (try split at h) <;> omega
theorem perm_inj (l : List (Nat × Nat)) : ∀ a b, perm l a = perm l b → a = b := by
  induction l with
  | nil => exact fun _ _ h => h
  | cons p l ih => obtain ⟨c, d⟩ := p; exact fun a b h => ih _ _ (sw_inj _ _ _ _ h)
theorem perm_high (n : Nat) : ∀ l : List (Nat × Nat), (allB (fun p : Nat × Nat => Nat.blt p.1 n && Nat.blt p.2 n) l) = true → ∀ b, n ≤ b → perm l b = b := by
  intro l
  induction l with
  | nil => exact fun _ _ _ => rfl
  | cons p l ih =>
    obtain ⟨c, d⟩ := p
    intro h b hb
    rw [allB_eq, List.all_cons, ← allB_eq, Bool.and_eq_true, Bool.and_eq_true, blt_iff, blt_iff] at h
    have e := ih h.2 b hb
    show sw (perm l c) d (perm l b) = b
    rw [e, sw_eq]
    have h1 : ¬ b = perm l c := fun e' => by
      have := perm_inj l b c (e.trans e')
      omega
    rw [if_neg h1, if_neg (by omega)]

/-! ### reading -/

/-- All of them: none is struck. -/
def allG : List Bool → Bool
  | [] => true
  | g :: gs => match gs with
    | [] => g
    | gs => g && allG gs
theorem allG_cons (g : Bool) (gs : List Bool) : allG (g :: gs) = (g && allG gs) := by
  cases gs with
  | nil => simp [allG]
  | cons a gs => rfl
theorem allG_append (a b : List Bool) : allG (a ++ b) = true ↔ allG a = true ∧ allG b = true := by
  induction a with
  | nil => simp [allG]
  | cons x a ih => rw [List.cons_append, allG_cons, allG_cons, Bool.and_eq_true, Bool.and_eq_true, ih, and_assoc]
def rdC (top : Bool) (f : Nat → Nat) (bxs : Nat → Option SB) : CS → Cl → Option (List Bool × List Lf)
  | .int k, x => match x with
    | .int k' n => bif decide (k = k') then some ([], [.i n]) else none
    | _ => none
  | .bool, x => match x with
    | .bool b => some ([], [.b b])
    | _ => none
  | .str, x => match x with
    | .str s => some ([], [.s s])
    | _ => none
  | .ints k, x => match x with
    | .ints k' l => bif decide (k = k') then some ([], [.l l]) else none
    | _ => none
  | .rows ks, x => match x with
    | .rows ks' l => bif ksEq ks ks' then some ([], [.r l]) else none
    | _ => none
  | .sl c z, x => match x with
    | .sl b n z' nl => bif Nat.beq b (f c) && Nat.beq z z' then (match bxs b with
      | some ⟨ct, _, nl'⟩ => some ([nl == nl', decide (n = ct.len)], [])
      | none => none) else none
    | .val (.slice none 0 0) => bif top && isNone (bxs (f c)) then some ([], []) else none
    | _ => none
  | .ptr c off, x => match x with
    | .ptr b off' => bif Nat.beq b (f c) && Nat.beq off off' then some ([], []) else none
    | _ => none
  | .fn k, x => match x with
    | .clo k' [] [] => bif Nat.beq k k' then some ([], []) else none
    | _ => none
  | .junk, _ => some ([], [])
def mkC (bm : Nat → Option SB) : CS → List Lf → Cl × List Lf
  | .int k, ls => match ls with
    | .i n :: ls => (.int k n, ls)
    | ls => (.junk, ls)
  | .bool, ls => match ls with
    | .b b :: ls => (.bool b, ls)
    | ls => (.junk, ls)
  | .str, ls => match ls with
    | .s s :: ls => (.str s, ls)
    | ls => (.junk, ls)
  | .ints k, ls => match ls with
    | .l l :: ls => (.ints k l, ls)
    | ls => (.junk, ls)
  | .rows ks, ls => match ls with
    | .r l :: ls => (.rows ks l, ls)
    | ls => (.junk, ls)
  | .sl c z, ls => match bm c with
    | some ⟨ct, _, nl⟩ => (.sl c ct.len z nl, ls)
    | none => (.junk, ls)
  | .ptr c off, ls => (.ptr c off, ls)
  | .fn k, ls => (.clo k [] [], ls)
  | .junk, ls => (.junk, ls)
/-- The boxes made anew are like those that there were. -/
def LikeB (f : Nat → Nat) (bxs bm : Nat → Option SB) : Prop := ∀ c sb, bm c = some sb →
  (∃ sa, bxs (f c) = some sa ∧ sa.ct.len = sb.ct.len ∧ sa.nl = sb.nl) ∨ (bxs (f c) = none ∧ sb.ct.len = 0 ∧ sb.nl = true)
def LikeC (top : Bool) (f : Nat → Nat) (x y : Cl) : Prop := y = .junk ∨ x.den = y.den.ren f ∨ (top = true ∧ x = .val (.slice none 0 0) ∧ ∃ B z, y = .sl B 0 z true)
theorem rdC_ok {top : Bool} {f : Nat → Nat} {bxs bm : Nat → Option SB} (hB : LikeB f bxs bm) {cs : CS} {x : Cl} {g : List Bool} {l1 : List Lf} (h : rdC top f bxs cs x = some (g, l1)) (hg : allG g = true) (rest : List Lf) :
    ∃ y, mkC bm cs (l1 ++ rest) = (y, rest) ∧ LikeC top f x y := by
  cases cs with
  | int k =>
    simp only [rdC] at h
    split at h
    · obtain ⟨h1, h2⟩ := bif_some h; cases h2; have := of_decide_eq_true h1; subst this; exact ⟨_, rfl, .inr (.inl rfl)⟩
    · cases h
  | bool =>
    simp only [rdC] at h
    split at h
    · cases h; exact ⟨_, rfl, .inr (.inl rfl)⟩
    · cases h
  | str =>
    simp only [rdC] at h
    split at h
    · cases h; exact ⟨_, rfl, .inr (.inl rfl)⟩
    · cases h
  | ints k =>
    simp only [rdC] at h
    split at h
    · obtain ⟨h1, h2⟩ := bif_some h; cases h2; have := of_decide_eq_true h1; subst this; exact ⟨_, rfl, .inr (.inl rfl)⟩
    · cases h
  | rows ks =>
    simp only [rdC] at h
    split at h
    · obtain ⟨h1, h2⟩ := bif_some h; cases h2; have := ksEq_ok h1; subst this; exact ⟨_, rfl, .inr (.inl rfl)⟩
    · cases h
  | sl c z =>
    simp only [rdC] at h
    split at h
    · rename_i b n z' nl
      obtain ⟨h1, h2⟩ := bif_some h
      simp only [Bool.and_eq_true] at h1
      have e1 := Nat.eq_of_beq_eq_true h1.1
      have e2 := Nat.eq_of_beq_eq_true h1.2
      subst e1
      subst e2
      split at h2
      · rename_i ct pub nl' hb
        cases h2
        simp only [allG, Bool.and_eq_true, decide_eq_true_eq, beq_iff_eq] at hg
        obtain ⟨rfl, rfl⟩ := hg
        simp only [mkC]
        cases hbm : bm c with
        | none => exact ⟨_, rfl, .inl rfl⟩
        | some sb =>
          obtain ⟨ct', pub', nl'⟩ := sb
          refine ⟨_, rfl, .inr (.inl ?_)⟩
          rcases hB c _ hbm with ⟨sa, h3, h4, h5⟩ | ⟨h3, _⟩
          · rw [hb] at h3
            cases h3
            show AC.sl (f c) ct.len z nl = AC.sl (f c) ct'.len z nl'
            have h4 : ct.len = ct'.len := h4
            have h5 : nl = nl' := h5
            rw [h4, h5]
          · rw [hb] at h3; cases h3
      · cases h2
    · obtain ⟨h1, h2⟩ := bif_some h
      cases h2
      simp only [Bool.and_eq_true] at h1
      have hn := (isNone_iff _).1 h1.2
      simp only [mkC]
      cases hbm : bm c with
      | none => exact ⟨_, rfl, .inl rfl⟩
      | some sb =>
        obtain ⟨ct', pub', nl'⟩ := sb
        refine ⟨_, rfl, .inr (.inr ⟨h1.1, rfl, c, z, ?_⟩)⟩
        rcases hB c _ hbm with ⟨sa, h3, _⟩ | ⟨_, h4, h5⟩
        · rw [hn] at h3; cases h3
        · have h4 : ct'.len = 0 := h4
          have h5 : nl' = true := h5
          simp only [h4, h5]
    · cases h
  | ptr c off =>
    simp only [rdC] at h
    split at h
    · obtain ⟨h1, h2⟩ := bif_some h
      cases h2
      simp only [Bool.and_eq_true] at h1
      have e1 := Nat.eq_of_beq_eq_true h1.1
      have e2 := Nat.eq_of_beq_eq_true h1.2
      subst e1
      subst e2
      exact ⟨_, rfl, .inr (.inl rfl)⟩
    · cases h
  | fn k =>
    simp only [rdC] at h
    split at h
    · obtain ⟨h1, h2⟩ := bif_some h; cases h2; have := Nat.eq_of_beq_eq_true h1; subst this; exact ⟨_, rfl, .inr (.inl rfl)⟩
    · cases h
  | junk => cases h; exact ⟨_, rfl, .inl rfl⟩
def rdG (f : Nat → Nat) (bxs : Nat → Option SB) : List GS → List Sg → Option (List Bool × List Lf)
  | [], l => match l with
    | [] => some ([], [])
    | _ :: _ => none
  | .c c :: gs, l => match l with
    | .c x :: l => match rdC false f bxs c x, rdG f bxs gs l with
      | some (g, a), some (g', b) => some (g ++ g', a ++ b)
      | _, _ => none
    | _ => none
  | .arr k n :: gs, l => match l with
    | .arr k' n' xs :: l => bif decide (k = k') && Nat.beq n n' then (match rdG f bxs gs l with
      | some (g', b) => some (g', .l xs :: b)
      | none => none) else none
    | _ => none
def mkG (bm : Nat → Option SB) : List GS → List Lf → List Sg × List Lf
  | [], ls => ([], ls)
  | .c c :: gs, ls => match mkC bm c ls with
    | (x, ls) => match mkG bm gs ls with
      | (l, ls) => (.c x :: l, ls)
  | .arr k n :: gs, ls => match ls with
    | .l xs :: ls => match mkG bm gs ls with
      | (l, ls) => (.arr k n xs :: l, ls)
    | ls => ([], ls)
theorem renL_append (f : Nat → Nat) (a b : List AC) : renL f (a ++ b) = renL f a ++ renL f b := by simp [renL]
theorem arrL_ren (f : Nat → Nat) (k : IntKind) (n : Nat) (l : List Int) : renL f (arrL k n l) = arrL k n l := by simp [renL, arrL, AC.ren]
def sureG (bm : Nat → Option SB) : List GS → Bool
  | [] => true
  | .c .junk :: _ => false
  | .c (.sl c _) :: gs => !isNone (bm c) && sureG bm gs
  | .c _ :: gs => sureG bm gs
  | .arr .. :: gs => sureG bm gs
theorem mkC_sure {bm : Nat → Option SB} {f : Nat → Nat} {bxs : Nat → Option SB} {c : CS} {x : Cl} {g : List Bool} {l1 rest : List Lf} (h : rdC false f bxs c x = some (g, l1)) (hj : c ≠ .junk) (hs : ∀ b z, c = .sl b z → bm b ≠ none) {y : Cl} (e : mkC bm c (l1 ++ rest) = (y, rest)) : y ≠ .junk := by
  intro hy
  subst hy
  cases c with
  | junk => exact hj rfl
  | sl b z =>
    simp only [mkC] at e
    cases hb : bm b with
    | none => exact hs b z rfl hb
    | some sb => simp [hb] at e
  | ptr b off => simp [mkC] at e
  | fn k => simp [mkC] at e
  | int k =>
    simp only [rdC] at h
    split at h
    · obtain ⟨_, h2⟩ := bif_some h; cases h2; simp [mkC] at e
    · cases h
  | bool =>
    simp only [rdC] at h
    split at h
    · cases h; simp [mkC] at e
    · cases h
  | str =>
    simp only [rdC] at h
    split at h
    · cases h; simp [mkC] at e
    · cases h
  | ints k =>
    simp only [rdC] at h
    split at h
    · obtain ⟨_, h2⟩ := bif_some h; cases h2; simp [mkC] at e
    · cases h
  | rows ks =>
    simp only [rdC] at h
    split at h
    · obtain ⟨_, h2⟩ := bif_some h; cases h2; simp [mkC] at e
    · cases h
theorem rdG_ok {f : Nat → Nat} {bxs bm : Nat → Option SB} (hB : LikeB f bxs bm) : ∀ {gs : List GS} {l : List Sg} {g : List Bool} {l1 : List Lf}, rdG f bxs gs l = some (g, l1) → allG g = true → sureG bm gs = true → ∀ rest,
    ∃ m, mkG bm gs (l1 ++ rest) = (m, rest) ∧ denS l = renL f (denS m)
  | [], l, g, l1, h, _, _, rest => by
    unfold rdG at h
    split at h
    · cases h; exact ⟨[], rfl, rfl⟩
    · cases h
  | .c c :: gs, l, g, l1, h, hg, hs, rest => by
    unfold rdG at h
    split at h
    · rename_i x l
      split at h
      · rename_i g1 a g2 b hx hl
        cases h
        rw [allG_append] at hg
        have hj : c ≠ .junk := fun e => by subst e; cases hs
        have hs1 : ∀ b z, c = .sl b z → bm b ≠ none := fun b z e hn => by
          subst e
          simp only [sureG, Bool.and_eq_true, Bool.not_eq_true'] at hs
          rw [(isNone_iff _).2 hn] at hs; exact absurd hs.1 (by simp)
        have hs2 : sureG bm gs = true := by
          cases c <;> first | exact hs | (simp only [sureG, Bool.and_eq_true] at hs; exact hs.2) | exact absurd rfl hj
        obtain ⟨y, e1, e2⟩ := rdC_ok hB hx hg.1 (b ++ rest)
        have hne := mkC_sure hx hj hs1 e1
        obtain ⟨m, e3, e4⟩ := rdG_ok hB hl hg.2 hs2 rest
        refine ⟨.c y :: m, ?_, ?_⟩
        · unfold mkG
          simp only
          rw [List.append_assoc, e1]
          simp only [e3]
        · rw [denS_cons, denS_cons, renL_append, ← e4]
          rcases e2 with e2 | e2 | ⟨e2, _⟩
          · exact absurd e2 hne
          · show [x.den] ++ _ = [y.den.ren f] ++ _
            rw [e2]
          · cases e2
      · cases h
    · cases h
  | .arr k n :: gs, l, g, l1, h, hg, hs, rest => by
    unfold rdG at h
    split at h
    · rename_i k' n' xs l
      obtain ⟨h1, h2⟩ := bif_some h
      simp only [Bool.and_eq_true, decide_eq_true_eq] at h1
      obtain ⟨rfl, h1⟩ := h1
      have := Nat.eq_of_beq_eq_true h1
      subst this
      split at h2
      · rename_i g' b hl
        cases h2
        obtain ⟨m, e3, e4⟩ := rdG_ok hB hl hg hs rest
        refine ⟨.arr k n xs :: m, ?_, ?_⟩
        · unfold mkG
          simp only [List.cons_append, e3]
        · rw [denS_cons, denS_cons, renL_append, ← e4]
          show arrL k n xs ++ _ = renL f (arrL k n xs) ++ _
          rw [arrL_ren]
      · cases h2
    · cases h
def rdT (f : Nat → Nat) (bxs : Nat → Option SB) : TS → SV → Option (List Bool × List Lf)
  | .c c, v => match v with
    | .one (.c x) => rdC true f bxs c x
    | _ => none
  | .agg gs, v => match v with
    | .one (.agg l) => rdG f bxs gs l
    | _ => none
def mkT (bm : Nat → Option SB) : TS → List Lf → SV × List Lf
  | .c c, ls => match mkC bm c ls with
    | (x, ls) => (.one (.c x), ls)
  | .agg gs, ls => match mkG bm gs ls with
    | (l, ls) => (.one (.agg l), ls)
def sureT (bm : Nat → Option SB) : TS → Bool
  | .c _ => true
  | .agg gs => sureG bm gs
theorem rdT_ok {f : Nat → Nat} {bxs bm : Nat → Option SB} (hB : LikeB f bxs bm) {ts : TS} {v : SV} {g : List Bool} {l1 : List Lf} (h : rdT f bxs ts v = some (g, l1)) (hg : allG g = true) (hs : sureT bm ts = true) (rest : List Lf) :
    ∃ y, mkT bm ts (l1 ++ rest) = (y, rest) ∧ v.den.leR f y.den := by
  cases ts with
  | c c =>
    simp only [rdT] at h
    split at h
    · rename_i x
      obtain ⟨y, e1, e2⟩ := rdC_ok hB h hg rest
      refine ⟨.one (.c y), by simp only [mkT, e1], ?_⟩
      rcases e2 with rfl | e2 | ⟨_, rfl, B, z, rfl⟩
      · exact .inl rfl
      · refine .inr (.inl ?_)
        show AV.c x.den = AV.c (y.den.ren f)
        rw [e2]
      · exact .inr (.inr ⟨rfl, B, z, rfl⟩)
    · cases h
  | agg gs =>
    simp only [rdT] at h
    split at h
    · rename_i l
      obtain ⟨m, e1, e2⟩ := rdG_ok hB h hg hs rest
      refine ⟨.one (.agg m), by simp only [mkT, e1], .inr (.inl ?_)⟩
      show AV.agg (denS l) = AV.agg (renL f (denS m))
      rw [e2]
    · cases h

/-! ### slices' boxes -/

def rdPub (p : Bool) (pub : Nat) : Option (List Lf) := match p with
  | true => some [.n pub]
  | false => match pub with
    | 0 => some []
    | _ + 1 => none
def rdNl (p : Bool) (nl : Bool) : Option (List Lf) := match p with
  | true => some [.b nl]
  | false => match nl with
    | false => some []
    | true => none
def rdK : SK → Ct → Option Lf
  | .ints k, ct => match ct with
    | .ints k' l => bif decide (k = k') then some (.l l) else none
    | _ => none
  | .rows ks, ct => match ct with
    | .rows ks' l => bif ksEq ks ks' then some (.r l) else none
    | _ => none
def rdS (sh : SlS) : Option SB → Option (List Lf)
  | some ⟨ct, pub, nl⟩ => match rdK sh.c ct, rdPub sh.pub pub, rdNl sh.nl nl with
    | some a, some b, some c => some (a :: (b ++ c))
    | _, _, _ => none
  | none => match sh.nl, sh.pub with
    | true, false => some [match sh.c with
      | .ints _ => .l []
      | .rows _ => .r [], .b true]
    | true, true => some [match sh.c with
      | .ints _ => .l []
      | .rows _ => .r [], .n 0, .b true]
    | false, _ => none
def mkPub (p : Bool) (ls : List Lf) : Nat × List Lf := match p with
  | true => match ls with
    | .n pub :: ls => (pub, ls)
    | ls => (0, ls)
  | false => (0, ls)
def mkNl (p : Bool) (ls : List Lf) : Bool × List Lf := match p with
  | true => match ls with
    | .b nl :: ls => (nl, ls)
    | ls => (false, ls)
  | false => (false, ls)
def mkK : SK → Lf → Ct
  | .ints k, x => match x with
    | .l l => .ints k l
    | _ => .ints k []
  | .rows ks, x => match x with
    | .r l => .rows ks l
    | _ => .rows ks []
def mkB (ct : Ct) (pub : Nat) (nl : Bool) : SB := match ct with
  | .ints k l => ⟨.ints k l, pub, nl⟩
  | .rows ks l => ⟨.rows ks l, pub, nl⟩
  | .sg l => ⟨.sg l, pub, nl⟩
theorem mkB_eq (ct : Ct) (pub : Nat) (nl : Bool) : mkB ct pub nl = ⟨ct, pub, nl⟩ := by cases ct <;> rfl
def mkS (sh : SlS) (ls : List Lf) : SB × List Lf := match ls with
  | a :: ls => match mkPub sh.pub ls with
    | (pub, ls) => match mkNl sh.nl ls with
      | (nl, ls) => (mkB (mkK sh.c a) pub nl, ls)
  | [] => (⟨mkK sh.c (.b false), 0, false⟩, [])
theorem Kd.ren_den (k : Kd) (x : D) (f : Nat → Nat) : (k.den x).ren f = k.den x := by cases k <;> rfl
theorem cellsK_ren (f : Nat → Nat) (row : List D) : ∀ (ks : List Kd) (j : Nat), renL f (cellsK row ks j) = cellsK row ks j
  | [], _ => rfl
  | k :: ks, j => by
    have := cellsK_ren f row ks (j + 1)
    unfold renL at this ⊢
    rw [cellsK, List.map_cons, Kd.ren_den, this]
theorem mkK_ren (sk : SK) (x : Lf) (f : Nat → Nat) : renL f (mkK sk x).den = (mkK sk x).den := by
  cases sk with
  | ints k => cases x <;> simp [mkK, Ct.den, renL, IL, AC.ren]
  | rows ks =>
    have : ∃ l, mkK (.rows ks) x = .rows ks l := by cases x <;> exact ⟨_, rfl⟩
    obtain ⟨l, e⟩ := this
    rw [e]
    show renL f (rowsL ks _) = rowsL ks _
    clear e
    induction l with
    | nil => rfl
    | cons r l ih => rw [rowsL_cons, renL_append, cellsK_ren, ih]
def LikeS (a : Option SB) (b : SB) : Prop := a = some b ∨ (a = none ∧ b.ct.den = [] ∧ b.ct.len = 0 ∧ b.pub = 0 ∧ b.nl = true)
theorem rdS_ok {sh : SlS} {a : Option SB} {l1 : List Lf} (h : rdS sh a = some l1) (rest : List Lf) : ∃ b, mkS sh (l1 ++ rest) = (b, rest) ∧ LikeS a b ∧ ∀ f, renL f b.ct.den = b.ct.den := by
  unfold rdS at h
  split at h
  · rename_i ct pub nl
    split at h
    · rename_i x p q hx hp hq
      cases h
      refine ⟨⟨ct, pub, nl⟩, ?_, .inl rfl, ?_⟩
      rotate_left
      · have e1 : mkK sh.c x = ct := by
          unfold rdK at hx
          split at hx
          · rename_i k hk
            split at hx
            · obtain ⟨h1, h2⟩ := bif_some hx; cases h2; have := of_decide_eq_true h1; subst this; rw [hk]; rfl
            · cases hx
          · rename_i ks hk
            split at hx
            · obtain ⟨h1, h2⟩ := bif_some hx; cases h2; have := ksEq_ok h1; subst this; rw [hk]; rfl
            · cases hx
        intro f
        show renL f ct.den = ct.den
        rw [← e1]; exact mkK_ren _ _ f
      have e1 : mkK sh.c x = ct := by
        unfold rdK at hx
        split at hx
        · rename_i k hk
          split at hx
          · obtain ⟨h1, h2⟩ := bif_some hx; cases h2; have := of_decide_eq_true h1; subst this; rw [hk]; rfl
          · cases hx
        · rename_i ks hk
          split at hx
          · obtain ⟨h1, h2⟩ := bif_some hx; cases h2; have := ksEq_ok h1; subst this; rw [hk]; rfl
          · cases hx
      have e2 : ∀ r, mkPub sh.pub (p ++ r) = (pub, r) := fun r => by
        generalize sh.pub = q at hp
        cases q with
        | true => cases hp; rfl
        | false => cases pub with
          | zero => cases hp; rfl
          | succ _ => cases hp
      have e3 : ∀ r, mkNl sh.nl (q ++ r) = (nl, r) := fun r => by
        generalize sh.nl = q at hq
        cases q with
        | true => cases hq; rfl
        | false => cases nl with
          | false => cases hq; rfl
          | true => cases hq
      simp only [mkS, List.cons_append, List.append_assoc, e1, e2, e3, mkB_eq]
    · cases h
  · split at h
    · rename_i h1 h2
      cases h
      refine ⟨⟨mkK sh.c (match sh.c with | .ints _ => .l [] | .rows _ => .r []), 0, true⟩, ?_, .inr ⟨rfl, ?_, ?_, rfl, rfl⟩, fun f => mkK_ren _ _ f⟩
      · simp only [mkS, List.cons_append, List.nil_append, h1, h2, mkPub, mkNl, mkB_eq]
      · show (mkK sh.c _).den = []
        cases sh.c <;> rfl
      · show (mkK sh.c _).len = 0
        cases sh.c <;> rfl
    · rename_i h1 h2
      cases h
      refine ⟨⟨mkK sh.c (match sh.c with | .ints _ => .l [] | .rows _ => .r []), 0, true⟩, ?_, .inr ⟨rfl, ?_, ?_, rfl, rfl⟩, fun f => mkK_ren _ _ f⟩
      · simp only [mkS, List.cons_append, List.nil_append, h1, h2, mkPub, mkNl, mkB_eq]
      · show (mkK sh.c _).den = []
        cases sh.c <;> rfl
      · show (mkK sh.c _).len = 0
        cases sh.c <;> rfl
    · cases h

/-! ### a whole state -/

def colC : CS → Cl → List (Nat × Nat)
  | .sl c _, x => match x with
    | .sl b _ _ _ => [(c, b)]
    | _ => []
  | _, _ => []
def colG : List GS → List Sg → List (Nat × Nat)
  | .c c :: gs, l => match l with
    | .c x :: l => colC c x ++ colG gs l
    | _ => []
  | .arr .. :: gs, l => match l with
    | _ :: l => colG gs l
    | [] => []
  | [], _ => []
def colT : TS → SV → List (Nat × Nat)
  | .c c, v => match v with
    | .one (.c x) => colC c x
    | _ => []
  | .agg gs, v => match v with
    | .one (.agg l) => colG gs l
    | _ => []
def colA (s : SS) : List (Nat × TS) → List (Nat × Nat)
  | [] => []
  | (t, x) :: l => colT x (s.get t) ++ colA s l
def colB (s : SS) : List (Nat × List GS) → List (Nat × Nat)
  | [] => []
  | (b, gs) :: l => (match s.box b with
    | some ⟨.sg m, _, _⟩ => colG gs m
    | _ => []) ++ colB s l
def rdSs (f : Nat → Nat) (s : SS) : List (Nat × SlS) → Option (List Lf)
  | [] => some []
  | (c, sh) :: l => match rdS sh (s.box (f c)), rdSs f s l with
    | some a, some b => some (a ++ b)
    | _, _ => none
def mkSs : List (Nat × SlS) → List Lf → List (Nat × Option SB) × List Lf
  | [], ls => ([], ls)
  | (c, sh) :: l, ls => match mkS sh ls with
    | (b, ls) => match mkSs l ls with
      | (m, ls) => ((c, some b) :: m, ls)
def rdGs (f : Nat → Nat) (s : SS) : List (Nat × List GS) → Option (List Bool × List Lf)
  | [] => some ([], [])
  | (c, gs) :: l => match s.box (f c) with
    | some ⟨.sg m, 0, false⟩ => match rdG f s.box gs m, rdGs f s l with
      | some (g, a), some (g', b) => some (g ++ g', a ++ b)
      | _, _ => none
    | _ => none
def mkGs (bm : Nat → Option SB) : List (Nat × List GS) → List Lf → List (Nat × Option SB) × List Lf
  | [], ls => ([], ls)
  | (c, gs) :: l, ls => match mkG bm gs ls with
    | (m, ls) => match mkGs bm l ls with
      | (r, ls) => ((c, some ⟨.sg m, 0, false⟩) :: r, ls)
def rdTs (f : Nat → Nat) (s : SS) : List (Nat × TS) → Option (List Bool × List Lf)
  | [] => some ([], [])
  | (t, x) :: l => match rdT f s.box x (s.get t), rdTs f s l with
    | some (g, a), some (g', b) => some (g ++ g', a ++ b)
    | _, _ => none
def mkTs (bm : Nat → Option SB) : List (Nat × TS) → List Lf → List (Nat × SV) × List Lf
  | [], ls => ([], ls)
  | (t, x) :: l, ls => match mkT bm x ls with
    | (v, ls) => match mkTs bm l ls with
      | (r, ls) => ((t, v) :: r, ls)
def mkSt (sh : Shape) (ls : List Lf) : SS :=
  match mkSs sh.sl ls with
  | (a, ls) => match mkGs (look none a) sh.bx ls with
    | (b, ls) => match mkTs (look none a) sh.t ls with
      | (t, _) => ⟨sh.n, t, b ++ a⟩
def fstIn (c : Nat) : List (Nat × SlS) → Bool
  | [] => false
  | (c', _) :: l => bif Nat.beq c' c then true else fstIn c l
def sureC (sl : List (Nat × SlS)) : List GS → Bool
  | [] => true
  | .c .junk :: _ => false
  | .c (.sl c _) :: gs => fstIn c sl && sureC sl gs
  | .c _ :: gs => sureC sl gs
  | .arr .. :: gs => sureC sl gs
def sureAll (sh : Shape) : Bool :=
  allB (fun p : Nat × List GS => sureC sh.sl p.2 && !fstIn p.1 sh.sl) sh.bx &&
  allB (fun p : Nat × TS => match p.2 with
    | .c _ => true
    | .agg gs => sureC sh.sl gs) sh.t
def rdSt (sh : Shape) (s : SS) : Option (List Bool × List Lf) :=
  let as := colB s sh.bx ++ colA s sh.t
  bif Nat.beq s.n sh.n && sureAll sh && allB (fun p : Nat × Nat => Nat.blt p.1 s.n && Nat.blt p.2 s.n) as then
    (match rdSs (perm as) s sh.sl, rdGs (perm as) s sh.bx, rdTs (perm as) s sh.t with
    | some a, some (g, b), some (g', c) => some (g ++ g', a ++ (b ++ c))
    | _, _, _ => none) else none
theorem rdSs_ok {f : Nat → Nat} {s : SS} : ∀ {l : List (Nat × SlS)} {l1 : List Lf}, rdSs f s l = some l1 → ∀ rest, ∃ m, mkSs l (l1 ++ rest) = (m, rest) ∧ (∀ p ∈ m, ∃ b, p.2 = some b ∧ LikeS (s.box (f p.1)) b ∧ ∀ f, renL f b.ct.den = b.ct.den) ∧ ∀ c, fstIn c l = true → look none m c ≠ none
  | [], l1, h, rest => by cases h; exact ⟨[], rfl, by simp, fun c h => by cases h⟩
  | (c, sh) :: l, l1, h, rest => by
    unfold rdSs at h
    split at h
    · rename_i a b ha hb
      cases h
      obtain ⟨x, e1, e2⟩ := rdS_ok ha (b ++ rest)
      obtain ⟨m, e3, e4, e5⟩ := rdSs_ok hb rest
      refine ⟨(c, some x) :: m, ?_, ?_, fun c' hc => ?_⟩
      · unfold mkSs
        rw [List.append_assoc, e1]
        simp only [e3]
      · intro p hp
        rcases List.mem_cons.1 hp with rfl | hp
        · exact ⟨x, rfl, e2⟩
        · exact e4 p hp
      · simp only [look]
        unfold fstIn at hc
        cases hb' : Nat.beq c c' with
        | true => simp
        | false => rw [hb'] at hc; exact e5 c' hc
    · cases h
theorem sureC_ok {sl : List (Nat × SlS)} {bm : Nat → Option SB} (h : ∀ c, fstIn c sl = true → bm c ≠ none) : ∀ {gs : List GS}, sureC sl gs = true → sureG bm gs = true
  | [], _ => rfl
  | .arr k n :: gs, hs => sureC_ok h (gs := gs) hs
  | .c c :: gs, hs => by
    cases c with
    | junk => cases hs
    | sl c z =>
      simp only [sureC, Bool.and_eq_true] at hs
      simp only [sureG, Bool.and_eq_true, Bool.not_eq_true']
      refine ⟨?_, sureC_ok h hs.2⟩
      cases hb : bm c with
      | none => exact absurd hb (h c hs.1)
      | some x => rfl
    | _ => exact sureC_ok h (gs := gs) hs
theorem rdGs_ok {f : Nat → Nat} {s : SS} {bm : Nat → Option SB} (hB : LikeB f s.box bm) : ∀ {l : List (Nat × List GS)} {g : List Bool} {l1 : List Lf}, rdGs f s l = some (g, l1) → allG g = true → (∀ p ∈ l, sureG bm p.2 = true) → ∀ rest,
    ∃ m, mkGs bm l (l1 ++ rest) = (m, rest) ∧ ∀ p ∈ m, ∃ b, p.2 = some b ∧ (s.box (f p.1)).map SB.den = some (b.den.ren f)
  | [], g, l1, h, _, _, rest => by cases h; exact ⟨[], rfl, by simp⟩
  | (c, gs) :: l, g, l1, h, hg, hs, rest => by
    unfold rdGs at h
    split at h
    · rename_i m hb
      split at h
      · rename_i g1 a g2 b ha hb'
        cases h
        rw [allG_append] at hg
        obtain ⟨m', e1, e2⟩ := rdG_ok hB ha hg.1 (hs (c, gs) (by simp)) (b ++ rest)
        obtain ⟨r, e3, e4⟩ := rdGs_ok hB hb' hg.2 (fun p hp => hs p (by simp [hp])) rest
        refine ⟨(c, some ⟨.sg m', 0, false⟩) :: r, ?_, ?_⟩
        · unfold mkGs
          rw [List.append_assoc, e1]
          simp only [e3]
        · intro p hp
          rcases List.mem_cons.1 hp with rfl | hp
          · refine ⟨_, rfl, ?_⟩
            show (s.box (f c)).map SB.den = _
            rw [hb]
            show some (Box.mk (denS m) 0 false false) = some (Box.mk (renL f (denS m')) 0 false false)
            rw [e2]
          · exact e4 p hp
      · cases h
    · cases h
theorem rdTs_ok {f : Nat → Nat} {s : SS} {bm : Nat → Option SB} (hB : LikeB f s.box bm) : ∀ {l : List (Nat × TS)} {g : List Bool} {l1 : List Lf}, rdTs f s l = some (g, l1) → allG g = true → (∀ p ∈ l, sureT bm p.2 = true) → ∀ rest,
    ∃ m, mkTs bm l (l1 ++ rest) = (m, rest) ∧ ∀ p ∈ m, (s.get p.1).den.leR f p.2.den
  | [], g, l1, h, _, _, rest => by cases h; exact ⟨[], rfl, by simp⟩
  | (t, x) :: l, g, l1, h, hg, hs, rest => by
    unfold rdTs at h
    split at h
    · rename_i g1 a g2 b ha hb'
      cases h
      rw [allG_append] at hg
      obtain ⟨v, e1, e2⟩ := rdT_ok hB ha hg.1 (hs (t, x) (by simp)) (b ++ rest)
      obtain ⟨r, e3, e4⟩ := rdTs_ok hB hb' hg.2 (fun p hp => hs p (by simp [hp])) rest
      refine ⟨(t, v) :: r, ?_, ?_⟩
      · unfold mkTs
        rw [List.append_assoc, e1]
        simp only [e3]
      · intro p hp
        rcases List.mem_cons.1 hp with rfl | hp
        · exact e2
        · exact e4 p hp
    · cases h
theorem look_append {α : Type} (d : α) (a b : List (Nat × α)) (t : Nat) : look d (a ++ b) t = look d a t ∨ look d (a ++ b) t = look d b t := by
  induction a with
  | nil => exact .inr rfl
  | cons p a ih =>
    obtain ⟨j, x⟩ := p
    simp only [List.cons_append, look]
    cases Nat.beq j t with
    | true => exact .inl rfl
    | false => exact ih
theorem rdSt_le {sh : Shape} {s : SS} {g : List Bool} {ls : List Lf} (h : rdSt sh s = some (g, ls)) (hg : allG g = true) : s.den.le (mkSt sh ls).den := by
  unfold rdSt at h
  dsimp only at h
  obtain ⟨h1, h2⟩ := bif_some h
  simp only [Bool.and_eq_true] at h1
  obtain ⟨⟨hn, hsure⟩, hlt⟩ := h1
  have hn := Nat.eq_of_beq_eq_true hn
  split at h2
  · rename_i a g1 b g2 c ha hb hc
    cases h2
    rw [allG_append] at hg
    simp only [sureAll, Bool.and_eq_true, allB_eq, List.all_eq_true] at hsure
    generalize hf : perm (colB s sh.bx ++ colA s sh.t) = f at ha hb hc
    have inj : ∀ x y, f x = f y → x = y := by rw [← hf]; exact perm_inj _
    have high : ∀ b, s.n ≤ b → f b = b := by rw [← hf]; exact perm_high _ _ hlt
    obtain ⟨ma, a1, a2, a3⟩ := rdSs_ok ha (b ++ c)
    have hB : LikeB f s.box (look none ma) := fun c sb e => by
      rcases look_mem (d := (none : Option SB)) (l := ma) (t := c) with g | g
      · rw [g] at e; cases e
      · obtain ⟨x, e1, e2, _⟩ := a2 _ g
        have e1 : look none ma c = some x := e1
        rw [e] at e1
        cases e1
        rcases e2 with e2 | ⟨e2, e3, e4, e5, e6⟩
        · exact .inl ⟨_, e2, rfl, rfl⟩
        · exact .inr ⟨e2, e4, e6⟩
    have sureB : ∀ p ∈ sh.bx, sureG (look none ma) p.2 = true := fun p hp => by
      have := hsure.1 p hp
      exact sureC_ok a3 this.1
    have sureTT : ∀ p ∈ sh.t, sureT (look none ma) p.2 = true := fun p hp => by
      have := hsure.2 p hp
      obtain ⟨t, x⟩ := p
      cases x with
      | c _ => rfl
      | agg gs => exact sureC_ok a3 this
    obtain ⟨mb, b1, b2⟩ := rdGs_ok hB hb hg.1 sureB c
    obtain ⟨mt, t1, t2⟩ := rdTs_ok hB hc hg.2 sureTT []
    rw [List.append_nil] at t1
    have e : mkSt sh (a ++ (b ++ c)) = ⟨sh.n, mt, mb ++ ma⟩ := by
      unfold mkSt
      simp only [a1, b1, t1]
    rw [e]
    refine ⟨f, ⟨inj, high⟩, hn, fun t _ => ?_, fun b' _ => ?_⟩
    · show (s.get t).den.leR f (look (.one (.c .junk)) mt t).den
      rcases look_mem (d := SV.one (.c .junk)) (l := mt) (t := t) with g | g
      · rw [g]; exact .inl rfl
      · exact t2 _ g
    · show ((look none (mb ++ ma) b').map SB.den = none) ∨ _
      have key : ∀ m : List (Nat × Option SB), (∀ p ∈ m, ∃ b, p.2 = some b ∧ ((s.box (f p.1)).map SB.den = some (b.den.ren f) ∨ LikeS (s.box (f p.1)) b ∧ b.den.ren f = b.den)) →
          ((look none m b').map SB.den = none) ∨ (∃ r, (look none m b').map SB.den = some ⟨[], 0, true, r⟩) ∨ ∃ bx, (look none m b').map SB.den = some bx ∧ s.den.box (f b') = some (bx.ren f) := by
        intro m hm
        rcases look_mem (d := (none : Option SB)) (l := m) (t := b') with g | g
        · rw [g]; exact .inl rfl
        · obtain ⟨x, e1, e2⟩ := hm _ g
          have e1 : look none m b' = some x := e1
          rw [e1]
          rcases e2 with e2 | ⟨e2 | ⟨e2, e3, e4, e5, e6⟩, e7⟩
          · exact .inr (.inr ⟨_, rfl, e2⟩)
          · refine .inr (.inr ⟨_, rfl, ?_⟩)
            show (s.box (f b')).map SB.den = _
            rw [e7, e2]; rfl
          · refine .inr (.inl ⟨false, ?_⟩)
            show some (Box.mk x.ct.den x.pub x.nl false) = _
            rw [e3, e5, e6]
      have hS : ∀ p ∈ ma, ∃ b, p.2 = some b ∧ ((s.box (f p.1)).map SB.den = some (b.den.ren f) ∨ LikeS (s.box (f p.1)) b ∧ b.den.ren f = b.den) := fun p hp => by
        obtain ⟨x, e1, e2, e3⟩ := a2 p hp
        refine ⟨x, e1, .inr ⟨e2, ?_⟩⟩
        show Box.mk (renL f x.ct.den) x.pub x.nl false = Box.mk x.ct.den x.pub x.nl false
        rw [e3 f]
      have hgoal : (SS.den ⟨sh.n, mt, mb ++ ma⟩).box b' = (look none (mb ++ ma) b').map SB.den := rfl
      rw [hgoal]
      rcases look_append (none : Option SB) mb ma b' with g | g
      · rw [g]
        exact key mb fun p hp => by obtain ⟨x, e1, e2⟩ := b2 p hp; exact ⟨x, e1, .inl e2⟩
      · rw [g]
        exact key ma hS
  · cases h2
end Go.Sy
