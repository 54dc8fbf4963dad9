/-
  A symbolic executor over abstract states, part 7j: the contract of a function, by its code, that is handed boxes which name one another, and makes some.
-/
import Derived.Test.YtldofkogmkfpjaaGreatDoorWEvB
import Derived.Lib.Builder
import Derived.Lib.UnsafeStr
import Derived.Carry
namespace Go.Ev
set_option linter.unusedSimpArgs false
set_option linter.unusedVariables false

/-- What a literal result was ahead of the return. -/
theorem resP1_lit {P : Program} {s : St} {x : ResultVar} {v : Value} (hv : v ≠ .slice none 0 0) (h : ResP1 P s x (.c (.lit v))) : ResA P s x (.c (.lit v)) := by
  obtain ⟨r0, h1, e⟩ := h
  have : r0 = .c (.lit v) := by
    cases r0 with
    | tup vs => cases e
    | agg cs => cases e
    | c a =>
      have e : AC.lit v = pubC (lowBox s) a := by injection e
      cases a with
      | lit v' =>
        simp only [pubC] at e
        unfold litP at e
        split at e
        · cases e
        · rw [e]
      | sl b n sz nl =>
        simp only [pubC] at e
        split at e
        · split at e <;> cases e
        · cases e
      | _ => simp only [pubC] at e; cases e
  rw [← this]; exact h1
def isLit1 : AV → Bool
  | .c (.lit (.slice _ _ _)) => false
  | .c (.lit _) => true
  | _ => false
theorem isLit1_some {a : AV} (h : isLit1 a = true) : ∃ v, a = .c (.lit v) ∧ v ≠ .slice none 0 0 := by
  unfold isLit1 at h
  split at h
  · cases h
  · rename_i v hv
    exact ⟨v, rfl, fun e => hv _ _ _ (by rw [e])⟩
  · cases h
theorem resPL_lit {P : Program} {s : St} : ∀ (xs : List ResultVar) (as : List AV), as.all isLit1 = true → ResPL P s xs as → ResL P s xs as
  | [], [], _, _ => trivial
  | x :: xs, a :: as, ha, h => by
    rw [List.all_cons, Bool.and_eq_true] at ha
    obtain ⟨v, rfl, hv⟩ := isLit1_some ha.1
    exact ⟨resP1_lit hv h.1, resPL_lit xs as ha.2 h.2⟩
  | [], _ :: _, _, h => h.elim
  | _ :: _, [], _, h => h.elim
def isLitR : AV → Bool
  | .tup as => as.all isLit1
  | a => isLit1 a
theorem resP_lit {P : Program} {s : St} {rs : List ResultVar} {r : AV} (hr : isLitR r = true) (h : ResP P s rs r) : ResAs P s rs r := by
  unfold ResP at h
  unfold ResAs
  split at h
  · have hl : isLit1 r = true := by
      cases r with
      | tup as =>
        obtain ⟨r0, _, e⟩ := h
        cases r0 with
        | tup vs =>
          rename_i h1
          rename_i x
          cases x with
          | tmp t => exact absurd rfl (h1.2 vs)
          | cell a T =>
            obtain ⟨b, off, bx, _, _, _, _, h⟩ := h1
            rcases h with ⟨_, _, _, h⟩ | ⟨_, _, _, _, h⟩ <;> cases h
        | agg cs => cases e
        | c a => cases e
      | agg cs => cases hr
      | c a => exact hr
    obtain ⟨v, rfl, hv⟩ := isLit1_some hl
    exact resP1_lit hv h
  · rename_i hne
    obtain ⟨as, rfl, hl⟩ := h
    split
    · exact (hne _ rfl).elim
    · exact ⟨as, rfl, resPL_lit _ _ hr hl⟩

/-- A box that is there at the return: its number in the function, the caller's number, what it holds (in the function's numbers). -/
structure OutB where
  id : Nat
  g : Nat
  bx : Box
def gm (f : Nat → Nat) (outs : List OutB) (b : Nat) : Nat := match outs.find? (fun x => x.id == b) with
  | some x => x.g
  | none => f b
/-- Mentions that matter (a nil slice names no block). -/
def menS (b : Nat) : AC → Bool
  | .sl _ _ _ true => false
  | .tsl _ _ _ true => false
  | a => a.men b
def atG (outs : List OutB) (b : Nat) : Option OutB := outs.find? (fun x => x.g == b)
theorem atG_some {outs : List OutB} {b : Nat} {x : OutB} (h : atG outs b = some x) : x ∈ outs ∧ x.g = b :=
  ⟨List.mem_of_find?_eq_some h, by simpa using List.find?_some h⟩
theorem atG_mem {outs : List OutB} (hinj : ∀ x ∈ outs, ∀ y ∈ outs, x.g = y.g → x = y) {x : OutB} (h : x ∈ outs) : atG outs x.g = some x := by
  cases e : atG outs x.g with
  | none =>
    have := List.find?_eq_none.1 e x h
    simp at this
  | some y =>
    obtain ⟨h1, h2⟩ := atG_some e
    rw [hinj y h1 x h h2]
theorem gm_mem {f : Nat → Nat} {outs : List OutB} (hid : ∀ x ∈ outs, ∀ y ∈ outs, x.id = y.id → x = y) {x : OutB} (h : x ∈ outs) : gm f outs x.id = x.g := by
  unfold gm
  cases e : outs.find? (fun y => y.id == x.id) with
  | none =>
    have := List.find?_eq_none.1 e x h
    simp at this
  | some y =>
    have h1 := List.mem_of_find?_eq_some e
    have h2 : y.id = x.id := by simpa using List.find?_some e
    rw [hid y h1 x h h2]

/-- The boxes at the start. -/
def boxIn (ins : List (Nat × Box)) (b : Nat) : Option Box := (ins.find? fun x => x.1 == b).map (·.2)
def initM (args : List AV) (n : Nat) (ins : List (Nat × Box)) : St := ⟨n, fun t => args.getD t (.c .junk), boxIn ins⟩
theorem boxIn_some {ins : List (Nat × Box)} {b : Nat} {bx : Box} (h : boxIn ins b = some bx) : (b, bx) ∈ ins := by
  obtain ⟨x, hx, rfl⟩ := Option.map_eq_some_iff.1 h
  have h1 := List.mem_of_find?_eq_some hx
  have h2 : x.1 = b := by simpa using List.find?_some hx
  rw [← h2]; exact h1

theorem RepC_ren_iff {C : Cfg} {μ μ' : Nat → Nat} {M : Mem} {g : Nat → Nat} {a : AC} {v : Value} (hm : ∀ b, menS b a = true → μ' (g b) = μ b) (h : RepC C μ M a v) : RepC C μ' M (a.ren g) v := by
  cases a with
  | ptr b o =>
    have e := hm b (by simp [menS, AC.men])
    simp only [AC.ren, RepC] at h ⊢
    rw [e]; exact h
  | mref b =>
    have e := hm b (by simp [menS, AC.men])
    simp only [AC.ren, RepC] at h ⊢
    rw [e]; exact h
  | bself T b u =>
    have e := hm b (by simp [menS, AC.men])
    simp only [AC.ren, RepC] at h ⊢
    rw [e]; exact h
  | tsl T b n nl =>
    cases nl with
    | true => exact h
    | false =>
      have e := hm b (by simp [menS, AC.men])
      simp only [AC.ren, RepC] at h ⊢
      rw [e]; exact h
  | sl b n sz nl =>
    cases nl with
    | true => exact h
    | false =>
      have e := hm b (by simp [menS, AC.men])
      simp only [AC.ren, RepC] at h ⊢
      rw [e]; exact h
  | _ => exact h
theorem RepB_ren_iff {C : Cfg} {μ μ' : Nat → Nat} {M : Mem} {g : Nat → Nat} {b b' : Nat} {bx : Box} (hrow : bx.row = false) (e : μ' b' = μ b) (hm : ∀ c, bx.cells.any (menS c) = true → μ' (g c) = μ c) (h : RepB C μ M b bx) : RepB C μ' M b' (bx.ren g) := by
  refine ⟨fun hn => ?_, fun hn ho => ?_, fun o ho => ?_⟩
  · have := h.1 hn
    exact ⟨by simp [Box.ren, renL, this.1], this.2⟩
  · obtain ⟨⟨c, T, fz, h1, h2, h3, h4⟩, h5, h6, h7⟩ := h.2.1 hn ho
    refine ⟨⟨c, T, fz, by rw [e]; exact h1, h2, by simpa [Box.ren, renL] using h3, fun i i1 i2 => ⟨?_, fun hr => ?_⟩⟩, by rw [e]; exact h5, by simpa [Box.ren, renL] using h6, by rw [e]; exact h7⟩
    · have hi : i < bx.cells.length := by simpa [Box.ren, renL] using i1
      have := RepC_ren_iff (g := g) (fun c' hc => hm c' (List.any_eq_true.2 ⟨_, List.getElem_mem hi, hc⟩)) (h4 i hi i2).1
      simpa [Box.ren, renL] using this
    · have : bx.row = true := hr
      rw [hrow] at this; cases this
  · have hR := h.2.2 o ho
    exact ⟨hR.nl, by rw [e]; exact hR.at_, by simp [Box.ren, renL, hR.cells], hR.pub, by rw [e]; exact hR.imm, by rw [e]; exact hR.sp, hR.nc⟩

/-- THE CONTRACT OF A FUNCTION, by its code. -/
theorem fnOkM_of_wpc {C : Cfg} {k : FuncId} {fn : Func} {c : Code} {args : List AV} {r : AV} (ins : List (Nat × Box)) (outs : List OutB) (ups : List (Nat × Option Box)) (hm : C.P.follows .mixedOrders = true) (hf : C.P.funcs[k]? = some fn) (hb : fn.body = some c)
    (hn : (fn.name == "runtime.NumGoroutine") = false) (hr : r.pure = true) (ha : args.length ≤ fn.ntmps) (harg : ∀ a ∈ args, ∀ vs, a ≠ .tup vs)
    (hin : ∀ x ∈ ins, fn.ntmps ≤ x.1 ∧ x.2.nl = false)
    (h : WPc C c (fun e s => (e = .normal ∨ e = .ret) ∧ ResAs C.P s fn.results.toList r ∧ s.n = fn.ntmps ∧ ∀ x ∈ outs, s.box x.id = some x.bx) (initM args fn.ntmps ins))
    (f : Nat → Nat) (hinj : ∀ x ∈ ins, ∀ y ∈ ins, f x.1 = f y.1 → x.1 = y.1) (pre : Nat → Option Box) (hpre : ∀ x ∈ ins, pre (f x.1) = some (x.2.ren f))
    (hout : ∀ x ∈ outs, x.bx.nl = false ∧ x.bx.row = false ∧ ((∃ y ∈ ins, y.1 = x.id ∧ x.g = f x.id) ∨ (x.id < fn.ntmps ∧ pre x.g = none)) ∧ ∀ b, x.bx.cells.any (menS b) = true → ∃ y ∈ outs, y.id = b)
    (hoid : ∀ x ∈ outs, ∀ y ∈ outs, x.id = y.id → x = y) (hog : ∀ x ∈ outs, ∀ y ∈ outs, x.g = y.g → x = y)
    (hw1 : ∀ x ∈ ins, f x.1 ∈ wrOf ups) (hw2 : ∀ x ∈ outs, x.g ∈ wrOf ups) (hw3 : ∀ b ∈ wrOf ups, pre b ≠ none → ∃ x ∈ ins, f x.1 = b)
    (hpost : ∀ b ∈ wrOf ups, postOf ups b = (atG outs b).map fun x => x.bx.ren (gm f outs)) :
    FnOkB C k (args.map (AV.ren f)) pre r ups := by
  refine ⟨⟨fn, hf, by simp [hb], hn⟩, ?_⟩
  intro μ M vs wf hsz hrep hbx hd
  refine calls_of_wp hf hb ?_
  have hsz : vs.size = args.length := by simpa using hsz
  let X : Pin := ⟨fun blk => ∃ x ∈ ins, blk = μ (f x.1), fun b => μ (f b)⟩
  have lpre : ∀ x ∈ ins, liveB (pre (f x.1)) = true := fun x hx => by
    rw [hpre x hx]
    have : (x.2.ren f).nl = x.2.nl := rfl
    simp [liveB, this, (hin x hx).2]
  have hrel : Rel C X M (fun b => μ (f b)) M (initM args fn.ntmps ins) { tmps := vs ++ Array.replicate (fn.ntmps - vs.size) undef, defers := [] } := by
    refine ⟨wf, Grow.refl C M, rfl, rfl, rfl, fun _ _ _ _ => ⟨rfl, fun _ h => h⟩, fun _ _ h => h, ?_, ?_, ?_, ?_, ?_, rfl, fun _ _ => rfl, fun blk c T fz e _ => ⟨c, fz, e, rfl⟩⟩
    · simp [initM, hsz]; omega
    · intro t
      simp only [initM, St.get, List.getD_eq_getElem?_getD, Array.getD_eq_getD_getElem?]
      by_cases ht : t < args.length
      · rw [Array.getElem?_append_left (by omega), List.getElem?_eq_getElem ht, Array.getElem?_eq_getElem (by omega)]
        simp only [Option.getD_some]
        have h1 := hrep t (by simpa using ht) (by omega)
        rw [List.getElem_map] at h1
        have hnt := harg _ (List.getElem_mem ht)
        revert h1 hnt
        generalize args[t] = a
        intro h1 hnt
        cases a with
        | tup vs => exact absurd rfl (hnt vs)
        | c x => exact Rep1_ren (a := .c x) h1
        | agg x => exact Rep1_ren (a := .agg x) h1
      · rw [List.getElem?_eq_none (by omega)]; trivial
    · intro b bx e
      have hx := boxIn_some e
      exact RepB_ren (hbx (f b) (hw1 (b, bx) hx) _ (hpre (b, bx) hx))
    · intro x y lx ly eq
      have fnd : ∀ b, liveB ((initM args fn.ntmps ins).box b) = true → ∃ z ∈ ins, z.1 = b := fun b hl => by
        cases e : (initM args fn.ntmps ins).box b with
        | none => rw [e] at hl; cases hl
        | some bx => exact ⟨_, boxIn_some e, rfl⟩
      obtain ⟨z, hz, rfl⟩ := fnd x lx
      obtain ⟨z', hz', rfl⟩ := fnd y ly
      have := hd _ (hw1 z hz) _ (hw1 z' hz') (lpre z hz) (lpre z' hz') eq
      exact hinj z hz z' hz' this
    · intro b hl
      right
      cases e : (initM args fn.ntmps ins).box b with
      | none => rw [e] at hl; cases hl
      | some bx => exact ⟨_, boxIn_some e, rfl⟩
  refine wp_mono (wpc_sound hm c hrel h) ?_
  rintro e a w ⟨e', s, μ', M', rfl, ⟨he, hres, hsn, hfin⟩, rfl, hr'⟩
  obtain ⟨v, hv, hrv⟩ := res_run hr' hres
  let ν : Nat → Nat := fun b => match atG outs b with
    | some x => μ' x.id
    | none => μ b
  have νo : ∀ x ∈ outs, ν x.g = μ' x.id := fun x hx => by
    show (match atG outs x.g with | some x => μ' x.id | none => μ x.g) = _
    rw [atG_mem hog hx]
  have pinned : ∀ x ∈ ins, μ' x.1 = μ (f x.1) := fun x hx => hr'.pin x.1 (by rw [hsn]; exact (hin x hx).1)
  have live : ∀ x ∈ outs, liveB (s.box x.id) = true := fun x hx => by rw [hfin x hx]; simp [liveB, (hout x hx).1]
  have νpre : ∀ b, (b ∈ wrOf ups → pre b ≠ none) → ν b = μ b := fun b hb' => by
    show (match atG outs b with | some x => μ' x.id | none => μ b) = _
    cases e : atG outs b with
    | none => rfl
    | some x =>
      obtain ⟨hx, rfl⟩ := atG_some e
      rcases (hout x hx).2.2.1 with ⟨y, hy, e1, e2⟩ | ⟨_, e1⟩
      · show μ' x.id = μ x.g
        rw [← e1, pinned y hy, e2, e1]
      · exact absurd e1 (hb' (hw2 x hx))
  have xblk : ∀ blk, ¬ (∃ b ∈ wrOf ups, liveB (pre b) = true ∧ blk = μ b) → ¬ X.blk blk := fun blk h => by
    rintro ⟨x, hx, rfl⟩
    exact h ⟨_, hw1 x hx, lpre x hx, rfl⟩
  have fin : a.defers = [] ∧ ∃ v, (results fn a.tmps).run C.P M'.w = .ok v M'.w ∧ (∃ v' μ'' M'', Ending.returned v = .returned v' ∧ M''.w = M'.w ∧ RepV C μ'' M'' r v' ∧ Trans C (wrOf ups) pre μ M μ'' M'' ∧
      (∀ b ∈ wrOf ups, ∀ bx, postOf ups b = some bx → RepB C μ'' M'' b bx) ∧
      (∀ x ∈ wrOf ups, liveB (postOf ups x) = true → M.w.heap.size ≤ μ'' x ∨ ∃ y ∈ wrOf ups, liveB (pre y) = true ∧ μ'' x = μ y) ∧
      (∀ x ∈ wrOf ups, ∀ y ∈ wrOf ups, liveB (postOf ups x) = true → liveB (postOf ups y) = true → μ'' x = μ'' y → x = y)) := by
    have outof : ∀ b ∈ wrOf ups, liveB (postOf ups b) = true → ∃ x ∈ outs, x.g = b := fun b hb' hl => by
      rw [hpost b hb'] at hl
      cases e : atG outs b with
      | none => rw [e] at hl; cases hl
      | some x => obtain ⟨hx, hg⟩ := atG_some e; exact ⟨x, hx, hg⟩
    refine ⟨hr'.defers, v, hv, v, ν, M', rfl, rfl, hrv.pure hr ν, ?_, ?_, ?_, ?_⟩
    · refine ⟨hr'.grow, hr'.wf, hr'.os, hr'.tape, hr'.output, fun blk h1 h2 h3 => ?_, fun blk h1 s => hr'.spb blk h1 s, fun blk c T fz e hs => hr'.wid blk c T fz e hs, νpre⟩
      exact hr'.fr blk h1 h2 (xblk blk fun ⟨b, hb', hl, e⟩ => h3 b hb' hl e)
    · intro b hb' bx e
      rw [hpost b hb'] at e
      obtain ⟨x, hx', rfl⟩ := Option.map_eq_some_iff.1 e
      obtain ⟨hx, hg⟩ := atG_some hx'
      subst hg
      obtain ⟨o1, o2, o3, o4⟩ := hout x hx
      exact RepB_ren_iff o2 (νo x hx) (fun c hc => by
        obtain ⟨y, hy, rfl⟩ := o4 c hc
        rw [gm_mem hoid hy]; exact νo y hy) (hr'.boxes x.id x.bx (hfin x hx))
    · intro b hb' hl
      obtain ⟨x, hx, rfl⟩ := outof b hb' hl
      rw [νo x hx]
      rcases hr'.own x.id (live x hx) with g | ⟨y, hy, e⟩
      · exact .inl g
      · exact .inr ⟨_, hw1 y hy, lpre y hy, e⟩
    · intro b hb' b2 hb2 hl hl2 eq
      obtain ⟨x, hx, rfl⟩ := outof b hb' hl
      obtain ⟨y, hy, rfl⟩ := outof b2 hb2 hl2
      rw [νo x hx, νo y hy] at eq
      have := hr'.dist x.id y.id (live x hx) (live y hy) eq
      rw [hoid x hx y hy this]
  rcases he with rfl | rfl
  · exact fin
  · exact fin

/-! ### the same contract, said otherwise -/

/-- Cell by cell, what stands for the first stands for the second. -/
inductive LeCs : List AC → List AC → Prop where
  | nil : LeCs [] []
  | cons {a b : AC} {l m : List AC} (h : ∀ C μ M v, RepC C μ M a v → RepC C μ M b v) (t : LeCs l m) : LeCs (a :: l) (b :: m)
theorem LeCs.refl : ∀ l : List AC, LeCs l l
  | [] => .nil
  | _ :: l => .cons (fun _ _ _ _ h => h) (LeCs.refl l)
theorem LeCs.len {l m : List AC} (h : LeCs l m) : m.length = l.length := by
  induction h with
  | nil => rfl
  | cons _ _ ih => simp [ih]
theorem LeCs.get {l m : List AC} (h : LeCs l m) : ∀ (i : Nat) (h1 : i < l.length) (h2 : i < m.length) C μ M v, RepC C μ M l[i] v → RepC C μ M m[i] v := by
  induction h with
  | nil => intro i h1; cases h1
  | cons h t ih =>
    intro i h1 h2 C μ M v hv
    cases i with
    | zero => exact h C μ M v hv
    | succ i => exact ih i (by simpa using h1) (by simpa using h2) C μ M v hv
theorem RepB.le {C : Cfg} {μ : Nat → Nat} {M : Mem} {b : Nat} {l m : List AC} {pub : Nat} (hl : LeCs l m) (h : RepB C μ M b ⟨l, pub, false, false, none⟩) : RepB C μ M b ⟨m, pub, false, false, none⟩ := by
  refine ⟨fun hn => (by cases hn), fun hn ho => ?_, fun o ho => (by cases ho)⟩
  obtain ⟨⟨c, T, fz, h1, h2, h3, h4⟩, h5, h6, h7⟩ := h.2.1 rfl rfl
  have e := hl.len
  refine ⟨⟨c, T, fz, h1, h2, by show m.length ≤ _; rw [e]; exact h3, fun i i1 i2 => ⟨hl.get i (by rw [← e]; exact i1) i1 C μ M _ (h4 i (by rw [← e]; exact i1) i2).1, fun hr => (by cases hr)⟩⟩, h5, by show pub ≤ m.length; rw [e]; exact h6, h7⟩
theorem FnOkB.conv {C : Cfg} {k : FuncId} {args : List AV} {pre pre' : Nat → Option Box} {r : AV} {ups ups' : List (Nat × Option Box)} (h : FnOkB C k args pre r ups) (hk : ∀ b ∈ wrOf ups, b ∈ wrOf ups')
    (hp : ∀ b ∈ wrOf ups, match pre b, pre' b with
      | none, none => True
      | some x, some y => x.nl = y.nl ∧ ∀ μ M, RepB C μ M b y → RepB C μ M b x
      | _, _ => False)
    (hq : ∀ b ∈ wrOf ups', ∀ bx, postOf ups' b = some bx → b ∈ wrOf ups ∧ postOf ups b = some bx) : FnOkB C k args pre' r ups' := by
  obtain ⟨h1, h2⟩ := h
  have lv : ∀ b ∈ wrOf ups, liveB (pre b) = liveB (pre' b) := fun b hb => by
    have := hp b hb
    split at this
    · rename_i e1 e2; rw [e1, e2]
    · rename_i x y e1 e2; rw [e1, e2]; show (!x.nl) = (!y.nl); rw [this.1]
    · cases this
  have pl : ∀ b ∈ wrOf ups', liveB (postOf ups' b) = true → b ∈ wrOf ups ∧ postOf ups b = postOf ups' b := fun b hb hl => by
    cases e : postOf ups' b with
    | none => rw [e] at hl; cases hl
    | some bx => exact hq b hb bx e
  refine ⟨h1, fun μ M vs wf hs hr hb hd => ?_⟩
  refine (h2 μ M vs wf hs hr (fun b hb' bx e => ?_) (fun x hx y hy lx ly eq => hd x (hk x hx) y (hk y hy) (by rw [← lv x hx]; exact lx) (by rw [← lv y hy]; exact ly) eq)).mono ?_
  · have := hp b hb'
    split at this
    · rename_i e1 e2; rw [e1] at e; cases e
    · rename_i x y e1 e2
      rw [e1] at e; cases e
      exact this.2 μ M (hb b (hk b hb') y e2)
    · cases this
  · rintro e w' ⟨v, μ', M', e1, e2, e3, e4, e5, e6, e7⟩
    refine ⟨v, μ', M', e1, e2, e3, ?_, fun b hb' bx eb => ?_, fun x hx lx => ?_, fun x hx y hy lx ly eq => ?_⟩
    · refine ⟨e4.grow, e4.wf, e4.os, e4.tape, e4.output, fun blk q1 q2 q3 => e4.fr blk q1 q2 fun b hb' hl => q3 b (hk b hb') (by rw [← lv b hb']; exact hl), e4.spb, e4.wid, fun b hb' => e4.mu b fun hb2 hn => hb' (hk b hb2) ?_⟩
      have := hp b hb2
      rw [hn] at this
      split at this
      · rename_i e2; exact e2
      · rename_i e1 _; cases e1
      · cases this
    · obtain ⟨q1, q2⟩ := hq b hb' bx eb
      exact e5 b q1 bx q2
    · obtain ⟨q1, q2⟩ := pl x hx lx
      rcases e6 x q1 (by rw [q2]; exact lx) with g | ⟨y, hy, ly, g⟩
      · exact .inl g
      · exact .inr ⟨y, hk y hy, by rw [← lv y hy]; exact ly, g⟩
    · obtain ⟨q1, q2⟩ := pl x hx lx
      obtain ⟨q3, q4⟩ := pl y hy ly
      exact e7 x q1 y q3 (by rw [q2]; exact lx) (by rw [q4]; exact ly) eq
end Go.Ev
/-
  A symbolic executor over abstract states: slices whose elements' type is known: append keeps it; a new variable that knows its type (a text's builder); what is made of its bytes.
-/
namespace Go.Ev
set_option linter.unusedSimpArgs false
set_option linter.unusedVariables false
section ops
variable {C : Cfg} {dst : Option Tmp} {ty : TypeId} {pos : String} {after : Array Edge} {guard : Option (Nat × Bool)} {ρ : Operand → AV} {pre : Nat → Option Box}

theorem ok_append_t {x y : Operand} {T U : TypeId} {d b n m : Nat} {nl : Bool} {el : Elt} {bx : Box} {rdy : List Nat} {ns : List AC} (he : eltOf C.P T = some el) (h1z : el.sz = 1) (hx : ρ x = .c (.tsl el.e b n nl)) (hb : pre b = some bx) (hnl : bx.nl = nl)
    (hle : n * el.sz ≤ bx.cells.length) (hpub : bx.pub ≤ n * el.sz) (hd : pre d = none) (hy : BehOk C el.sz U pre (ρ y) rdy m ns)
    (hm : menL d (bx.cells.take (n * el.sz) ++ ns) = false) (hbig : ((n + m) + (n + m) / 4 + 192) * el.by' ≤ 281474976710656) (hlen : n + m ≤ 9223372036854775807) :
    OpOk C ⟨some d, .call ⟨.builtin .append, #[x, y], #[T, U]⟩, ty, pos, after, guard⟩ ρ rdy pre (.c (.tsl el.e d (n + m) (nl && m == 0)))
      [(b, none), (d, some ⟨bx.cells.take (n * el.sz) ++ ns, bx.pub, nl && m == 0, false, none⟩)] := by
  intro μ M a next Q wf hr hbx hdist k
  have hbd : b ≠ d := fun e => by subst e; rw [hb] at hd; cases hd
  have hx' := hr x (by simp [Op.operands, Call.operands]); rw [hx] at hx'
  obtain ⟨new, hbeh, hrep, hsing⟩ := hy μ M (a.eval y) wf (hr y (by simp [Op.operands, Call.operands])) (fun b' h' => hbx b' (List.mem_append_left _ h'))
  have hB := hbx b (by simp [wrOf]) bx hb
  have hnsl : ns.length = m * el.sz := by rw [← hrep.1, hbeh.size]
  have post1 : ∀ ups' : List (Nat × Option Box), ∀ p : Option Box, postOf ((b, none) :: (d, p) :: ups') d = p := fun _ p => by
    have : (d == b) = false := by simpa using fun e => hbd e.symm
    simp [postOf, List.lookup, this]
  have post0 : ∀ ups' : List (Nat × Option Box), postOf ((b, none) :: ups') b = none := fun _ => by simp [postOf, List.lookup]
  unfold Oper.wp
  have el2 := eltOf_some he
  -- a new block
  have fresh : ∀ (old : Array Value) (nc : Nat) (w1 : World), n + m ≤ nc → w1.heap = M.w.heap → w1.os = M.w.os → w1.tape = M.w.tape → w1.output = M.w.output → RepCs C μ M (bx.cells.take (n * el.sz)) old →
      (nl && m == 0) = false → ∀ (next : Act → World → Prop),
      (∀ v μ' M', RepV C μ' M' (.c (.tsl el.e d (n + m) (nl && m == 0))) v → Trans C (wrOf [(b, none), (d, some ⟨bx.cells.take (n * el.sz) ++ ns, bx.pub, nl && m == 0, false, none⟩)]) pre μ M μ' M' →
        (∀ b' ∈ wrOf [(b, none), (d, some ⟨bx.cells.take (n * el.sz) ++ ns, bx.pub, nl && m == 0, false, none⟩)], ∀ bx', postOf [(b, none), (d, some ⟨bx.cells.take (n * el.sz) ++ ns, bx.pub, nl && m == 0, false, none⟩)] b' = some bx' → RepB C μ' M' b' bx') →
        (∀ x ∈ wrOf [(b, none), (d, some ⟨bx.cells.take (n * el.sz) ++ ns, bx.pub, nl && m == 0, false, none⟩)], liveB (postOf [(b, none), (d, some ⟨bx.cells.take (n * el.sz) ++ ns, bx.pub, nl && m == 0, false, none⟩)] x) = true →
          M.w.heap.size ≤ μ' x ∨ ∃ y ∈ wrOf [(b, none), (d, some ⟨bx.cells.take (n * el.sz) ++ ns, bx.pub, nl && m == 0, false, none⟩)], liveB (pre y) = true ∧ μ' x = μ y) →
        (∀ x ∈ wrOf [(b, none), (d, some ⟨bx.cells.take (n * el.sz) ++ ns, bx.pub, nl && m == 0, false, none⟩)], ∀ y ∈ wrOf [(b, none), (d, some ⟨bx.cells.take (n * el.sz) ++ ns, bx.pub, nl && m == 0, false, none⟩)],
          liveB (postOf [(b, none), (d, some ⟨bx.cells.take (n * el.sz) ++ ns, bx.pub, nl && m == 0, false, none⟩)] x) = true → liveB (postOf [(b, none), (d, some ⟨bx.cells.take (n * el.sz) ++ ns, bx.pub, nl && m == 0, false, none⟩)] y) = true → μ' x = μ' y → x = y) →
        next (a.put (some d) v) M'.w) →
      next (a.put (some d) (.slice (some ⟨M.w.heap.size, 0, none⟩) (n + m) nc)) { w1 with heap := M.w.heap.push (.cells (old ++ new ++ Builtin.zeroCells el.z (nc - (n + m))) el.e) } := by
    intro old nc w1 hnc h1 h2 h3 h4 hold hnlf next k
    have hcs : RepCs C μ M (bx.cells.take (n * el.sz) ++ ns) (old ++ new) := by
      have e1 := hold.1
      have e2 := hrep.1
      refine ⟨by simp only [Array.size_append, List.length_append]; omega, fun i i1 i2 => ?_⟩
      by_cases hi : i < (bx.cells.take (n * el.sz)).length
      · rw [List.getElem_append_left hi, Array.getElem_append_left (by omega)]
        exact hold.2 i hi (by omega)
      · simp only [List.length_append] at i1
        rw [List.getElem_append_right (by omega), Array.getElem_append_right (by omega)]
        have := hrep.2 (i - (bx.cells.take (n * el.sz)).length) (by omega) (by omega)
        simp only [← e1] at this ⊢
        exact this
    have t := new_trans' (C := C) (μ := μ) wf hd (.cells (old ++ new ++ Builtin.zeroCells el.z (nc - (n + m))) el.e) w1 h1 h2 h3 h4
    have hrb := rep_row (C := C) wf hd (rest := Builtin.zeroCells el.z (nc - (n + m))) el.e hm hcs w1 h1 h2 h3 h4 bx.pub (by simp only [List.length_append, List.length_take]; omega)
    have hz : nc * el.sz ≤ (old ++ new ++ Builtin.zeroCells el.z (nc - (n + m))).size := by
      have e1 := hold.1
      have e2 := hrep.1
      simp only [Array.size_append, Builtin.zeroCells, Array.size_map, Array.size_range, el2.2.2.2.2.1]
      simp only [List.length_take] at e1
      have : nc * el.sz = n * el.sz + m * el.sz + (nc - (n + m)) * el.sz := by rw [← Nat.add_mul, ← Nat.add_mul]; congr 1; omega
      omega
    rw [hnlf] at k
    refine k (.slice (some ⟨M.w.heap.size, 0, none⟩) (n + m) nc) (upd μ d M.w.heap.size) _ ?_ (t.more (by simp [wrOf])) ?_ ?_ ?_
    · refine ⟨nc, _, (0, 0), by simp [upd], hnc, ?_, by rw [h1z, Nat.mul_one] at hz; exact hz, ?_⟩
      · simp [upd]
      · simp only [upd, if_true]
        intro s; exact absurd (wf.sp _ s) (Nat.lt_irrefl _)
    · intro b' hb' bx' hbx'
      simp only [wrOf, List.map_cons, List.map_nil, List.mem_cons, List.not_mem_nil, or_false] at hb'
      rcases hb' with rfl | rfl
      · rw [post0] at hbx'; cases hbx'
      · rw [post1] at hbx'; cases hbx'; exact hrb
    · intro z hz hl
      simp only [wrOf, List.map_cons, List.map_nil, List.mem_cons, List.not_mem_nil, or_false] at hz
      rcases hz with rfl | rfl
      · rw [post0] at hl; cases hl
      · left; simp [upd]
    · intro z hz z' hz' hl hl' _
      simp only [wrOf, List.map_cons, List.map_nil, List.mem_cons, List.not_mem_nil, or_false] at hz hz'
      rcases hz with rfl | rfl
      · rw [post0] at hl; cases hl
      · rcases hz' with rfl | rfl
        · rw [post0] at hl'; cases hl'
        · rfl
  cases nl with
  | true =>
    obtain ⟨rfl, hv⟩ := (hx' : RepC C μ M (.tsl el.e b n true) (a.eval x))
    obtain ⟨hc0, hp0⟩ := hB.1 hnl
    by_cases h0 : m = 0
    · subst h0
      have hns : ns = [] := List.eq_nil_of_length_eq_zero (by rw [hnsl]; simp)
      subst hns
      have e := append_exec (C := C) (ty := ty) (pos := pos) (after := after) (guard := guard) (x := x) (y := y) (T := T) (U := U) (d := d) (a := a) (w := M.w) (w' := M.w) (v := .slice none 0 0)
        (by rw [hv]; exact run_append_fit he hbeh (Nat.le_refl _) (fun _ h => by cases h) (fun _ => rfl))
      rw [e]
      refine k (.slice none 0 0) μ M ⟨rfl, rfl⟩ ((Trans.refl C pre μ M wf).weaken) ?_ ?_ ?_
      · intro b' hb' bx' hbx'
        simp only [wrOf, List.map_cons, List.map_nil, List.mem_cons, List.not_mem_nil, or_false] at hb'
        rcases hb' with rfl | rfl
        · rw [post0] at hbx'; cases hbx'
        · rw [post1] at hbx'; cases hbx'
          exact ⟨fun _ => ⟨by simp [hc0], hp0⟩, (fun h => by simp at h), fun _ h => nomatch h⟩
      · intro z hz hl
        simp only [wrOf, List.map_cons, List.map_nil, List.mem_cons, List.not_mem_nil, or_false] at hz
        rcases hz with rfl | rfl
        · rw [post0] at hl; cases hl
        · rw [post1] at hl; simp [liveB] at hl
      · intro z hz z' hz' hl hl' _
        simp only [wrOf, List.map_cons, List.map_nil, List.mem_cons, List.not_mem_nil, or_false] at hz
        rcases hz with rfl | rfl
        · rw [post0] at hl; cases hl
        · rw [post1] at hl; simp [liveB] at hl
    · obtain ⟨nc, w1, h1, h2, h3, h4, h5, e⟩ := run_append_new (ty := ty) he hbeh (n := 0) (cap := 0) (a := none) (old := #[]) (by omega) (Nat.le_refl _)
        (fun w' _ => by simp [Builtin.firstCells]) hbig hlen
      have e := append_exec (C := C) (ty := ty) (pos := pos) (after := after) (guard := guard) (x := x) (y := y) (T := T) (U := U) (d := d) (a := a) (w := M.w) (by rw [hv]; exact e)
      rw [e]
      exact fresh #[] nc w1 h1 h2 h3 h4 h5 ⟨by simp [hc0], fun i h => by simp [hc0] at h⟩ (by simp [h0]) next k
  | false =>
    obtain ⟨cap, c, fz, hv, hcap, hh, hz, hsp⟩ := (hx' : RepC C μ M (.tsl el.e b n false) (a.eval x))
    replace hz : cap * el.sz ≤ c.size := by rw [h1z, Nat.mul_one]; exact hz
    generalize hTb : el.e = Tb at hh
    have hR := (hB.repR hnl hh).2
    obtain ⟨⟨c2, Tb2, fz2, hh2, hfz, hl, hcell⟩, himm, hpl, hsp2⟩ := hR
    rw [hh] at hh2
    cases hh2
    by_cases hfit : n + m ≤ cap
    · -- in place
      have hcsz : n * el.sz + m * el.sz ≤ c.size := by
        rw [← Nat.add_mul]; exact Nat.le_trans (Nat.mul_le_mul_right _ hfit) hz
      obtain ⟨c', e, hc'⟩ := run_storeCells (P := C.P) new.toList M.w (μ b) (n * el.sz) 0 c Tb fz hh hfz.no (by have := hbeh.size; simp; omega) hsing
      simp only [Nat.add_zero, Array.length_toList] at hc'
      have hnew := hbeh.size
      have hsize : c'.size = c.size := by
        have := congrArg List.length hc'
        simp at this; omega
      have ex := append_exec (C := C) (ty := ty) (pos := pos) (after := after) (guard := guard) (x := x) (y := y) (T := T) (U := U) (d := d) (a := a) (w := M.w) (v := .slice (some ⟨μ b, 0, none⟩) (n + m) cap)
        (w' := { M.w with heap := M.w.heap.setIfInBounds (μ b) (.cells c' Tb fz) })
        (by rw [hv]; exact run_append_fit he hbeh hfit (fun ad h => by cases h; rw [addr_add, Nat.zero_add]; exact e) (fun h => by cases h))
      rw [ex]
      have hpre : ∀ o, o < n * el.sz → c'[o]? = c[o]? := fun o ho => by
        rw [← Array.getElem?_toList, hc', List.append_assoc, List.getElem?_append_left (by simp; omega), List.getElem?_take]
        simp [ho]
      have t := write_trans (C := C) (pre := pre) wf hb hnl ⟨⟨c, Tb, fz, hh, hfz, hl, hcell⟩, himm, hpl, hsp2⟩ hh (c' := c') (by omega) (fun o ho => hpre o (by omega))
      have hlt := heap_lt hh
      -- the box d is where b was
      have hmu : ∀ q, q ≠ d → upd μ d (μ b) q = μ q := fun q hq => by simp [upd, hq]
      have t' : Trans C [b, d] pre μ M (upd μ d (μ b)) { M with w := { M.w with heap := M.w.heap.setIfInBounds (μ b) (.cells c' Tb fz) } } :=
        ⟨t.grow, t.wf, t.os, t.tape, t.output, fun blk h1 h2 h3 => t.fr blk h1 h2 fun b' hb' => h3 b' (by simp at hb'; simp [hb']), t.spb, t.wid, fun q hq => hmu q fun e' => hq (by simp [e']) (e' ▸ hd)⟩
      refine k (.slice (some ⟨μ b, 0, none⟩) (n + m) cap) (upd μ d (μ b)) _ ?_ t' ?_ ?_ ?_
      · refine ⟨cap, c', fz, by simp [upd], hfit, by simp [upd, hlt, hTb], by rw [h1z, Nat.mul_one] at hz; omega, by simpa [upd] using hsp⟩
      · intro b' hb' bx' hbx'
        simp only [wrOf, List.map_cons, List.map_nil, List.mem_cons, List.not_mem_nil, or_false] at hb'
        rcases hb' with rfl | rfl
        · rw [post0] at hbx'; cases hbx'
        · rw [post1] at hbx'; cases hbx'
          refine ⟨by simp, fun _ _ => ⟨⟨c', Tb, fz, by simp [upd, hlt], by rw [hsize]; exact hfz, by simp only [List.length_append, List.length_take]; omega, fun i i1 i2 => ⟨?_, by simp⟩⟩, by simpa [upd] using himm, by simp only [List.length_append, List.length_take]; omega, by simpa [upd] using hsp⟩, fun _ h => nomatch h⟩
          have hnm : ∀ z ∈ bx.cells.take (n * el.sz) ++ ns, ∀ q, z.men q = true → upd μ b' (μ b) q = μ q := fun z hz q hq => by
            refine hmu q fun e' => ?_
            subst e'
            simp only [menL, List.any_eq_false] at hm
            exact hm z hz hq
          have key : RepC C μ M (bx.cells.take (n * el.sz) ++ ns)[i] c'[i] := by
            have gi : c'[i] = c'.toList[i]'(by simpa using i2) := by simp
            by_cases hi : i < n * el.sz
            · rw [List.getElem_append_left (by simp; omega), List.getElem_take]
              have := hpre i hi
              rw [Array.getElem?_eq_getElem i2, Array.getElem?_eq_getElem (by omega)] at this
              rw [Option.some.inj this]
              exact (hcell i (by omega) (by omega)).1
            · have i3 : i < n * el.sz + m * el.sz := by simp only [List.length_append, List.length_take] at i1; omega
              rw [List.getElem_append_right (by simp; omega)]
              have lt : (bx.cells.take (n * el.sz)).length = n * el.sz := by simp; omega
              have e4 : c'.toList[i]? = new[i - n * el.sz]? := by
                rw [hc', List.getElem?_append_left (by simp; omega), List.getElem?_append_right (by simp; omega)]
                simp only [List.length_take, Array.length_toList]
                rw [Nat.min_eq_left (by omega), Array.getElem?_toList]
              rw [Array.getElem?_toList, Array.getElem?_eq_getElem i2, Array.getElem?_eq_getElem (by omega)] at e4
              rw [Option.some.inj e4]
              have := hrep.2 (i - n * el.sz) (by omega) (by omega)
              simpa [lt] using this
          exact key.trans t' (hnm _ (List.getElem_mem i1))
      · intro z hz hl
        simp only [wrOf, List.map_cons, List.map_nil, List.mem_cons, List.not_mem_nil, or_false] at hz
        rcases hz with rfl | rfl
        · rw [post0] at hl; cases hl
        · exact .inr ⟨b, by simp [wrOf], by simp [hb, liveB, hnl], by simp [upd]⟩
      · intro z hz z' hz' hl hl' _
        simp only [wrOf, List.map_cons, List.map_nil, List.mem_cons, List.not_mem_nil, or_false] at hz hz'
        rcases hz with rfl | rfl
        · rw [post0] at hl; cases hl
        · rcases hz' with rfl | rfl
          · rw [post0] at hl'; cases hl'
          · rfl
    · have hn1 : n * el.sz ≤ c.size := by omega
      obtain ⟨nc, w1, h1, h2, h3, h4, h5, e⟩ := run_append_new (ty := ty) he hbeh (n := n) (cap := cap) (a := some ⟨μ b, 0, none⟩) (old := c.extract 0 (n * el.sz)) hfit hcap
        (fun w' hw => first_of_box (C := C) (bx := bx) hh hn1 w' hw) hbig hlen
      have e := append_exec (C := C) (ty := ty) (pos := pos) (after := after) (guard := guard) (x := x) (y := y) (T := T) (U := U) (d := d) (a := a) (w := M.w) (by rw [hv]; exact e)
      rw [e]
      refine fresh _ nc w1 h1 h2 h3 h4 h5 ⟨by simp; omega, fun i i1 i2 => ?_⟩ rfl next k
      have hi : i < n * el.sz := by simp at i1; omega
      have := (hcell i (by omega) (by omega)).1
      simpa [List.getElem_take] using this

theorem ok_append_nil_t {x y : Operand} {T U : TypeId} {d m : Nat} {el : Elt} {rdy : List Nat} {ns : List AC} (he : eltOf C.P T = some el) (h1z : el.sz = 1) (hx : ρ x = .c (.lit (.slice none 0 0)))
    (hd : pre d = none) (hy : BehOk C el.sz U pre (ρ y) rdy m ns)
    (hm : menL d ns = false) (hbig : (m + m / 4 + 192) * el.by' ≤ 281474976710656) (hlen : m ≤ 9223372036854775807) :
    OpOk C ⟨some d, .call ⟨.builtin .append, #[x, y], #[T, U]⟩, ty, pos, after, guard⟩ ρ rdy pre (.c (.tsl el.e d m (m == 0)))
      [(d, some ⟨ns, 0, m == 0, false, none⟩)] := by
  intro μ M a next Q wf hr hbx hdist k
  have hx' := hr x (by simp [Op.operands, Call.operands]); rw [hx] at hx'
  have hv : a.eval x = .slice none 0 0 := RepI.lit_eq hx'
  obtain ⟨new, hbeh, hrep, hsing⟩ := hy μ M (a.eval y) wf (hr y (by simp [Op.operands, Call.operands])) (fun b' h' => hbx b' (List.mem_append_left _ h'))
  have hnsl : ns.length = m * el.sz := by rw [← hrep.1, hbeh.size]
  have post1 : ∀ p : Option Box, postOf [(d, p)] d = p := fun p => by simp [postOf, List.lookup]
  unfold Oper.wp
  have el2 := eltOf_some he
  by_cases h0 : m = 0
  · subst h0
    have hns : ns = [] := List.eq_nil_of_length_eq_zero (by rw [hnsl]; simp)
    subst hns
    have e := append_exec (C := C) (ty := ty) (pos := pos) (after := after) (guard := guard) (x := x) (y := y) (T := T) (U := U) (d := d) (a := a) (w := M.w) (w' := M.w) (v := .slice none 0 0)
      (by rw [hv]; exact run_append_fit he hbeh (Nat.le_refl _) (fun _ h => by cases h) (fun _ => rfl))
    rw [e]
    refine k (.slice none 0 0) μ M ⟨rfl, rfl⟩ ((Trans.refl C pre μ M wf).weaken) ?_ ?_ ?_
    · intro b' hb' bx' hbx'
      simp only [wrOf, List.map_cons, List.map_nil, List.mem_cons, List.not_mem_nil, or_false] at hb'
      subst hb'
      rw [post1] at hbx'; cases hbx'
      exact ⟨fun _ => ⟨rfl, rfl⟩, (fun h => by simp at h), fun _ h => nomatch h⟩
    · intro z hz hl
      simp only [wrOf, List.map_cons, List.map_nil, List.mem_cons, List.not_mem_nil, or_false] at hz
      subst hz
      rw [post1] at hl; simp [liveB] at hl
    · intro z hz z' hz' hl hl' _
      simp only [wrOf, List.map_cons, List.map_nil, List.mem_cons, List.not_mem_nil, or_false] at hz
      subst hz
      rw [post1] at hl; simp [liveB] at hl
  · obtain ⟨nc, w1, h1, h2, h3, h4, h5, e⟩ := run_append_new (ty := ty) he hbeh (n := 0) (cap := 0) (a := none) (old := #[]) (by omega) (Nat.le_refl _)
      (fun w' _ => by simp [Builtin.firstCells]) (by simpa using hbig) (by simpa using hlen)
    have e := append_exec (C := C) (ty := ty) (pos := pos) (after := after) (guard := guard) (x := x) (y := y) (T := T) (U := U) (d := d) (a := a) (w := M.w) (by rw [hv]; exact e)
    rw [e]
    have hnlf : (m == 0) = false := by simpa using h0
    have t := new_trans' (C := C) (μ := μ) wf hd (.cells (#[] ++ new ++ Builtin.zeroCells el.z (nc - (0 + m))) el.e) w1 h2 h3 h4 h5
    have hrb := rep_row (C := C) wf hd (rest := Builtin.zeroCells el.z (nc - (0 + m))) el.e hm hrep w1 h2 h3 h4 h5 0 (Nat.zero_le _)
    have hz : nc * el.sz ≤ (new ++ Builtin.zeroCells el.z (nc - (0 + m))).size := by
      have e2 := hrep.1
      simp only [Array.size_append, Builtin.zeroCells, Array.size_map, Array.size_range, el2.2.2.2.2.1]
      have : nc * el.sz = m * el.sz + (nc - (0 + m)) * el.sz := by rw [← Nat.add_mul]; congr 1; omega
      omega
    rw [hnlf] at k
    simp only [Array.empty_append, Nat.zero_add] at t hrb hz h1 ⊢
    refine k (.slice (some ⟨M.w.heap.size, 0, none⟩) m nc) (upd μ d M.w.heap.size) _ ?_ (t.more (by simp [wrOf])) ?_ ?_ ?_
    · refine ⟨nc, _, (0, 0), by simp [upd], h1, ?_, by rw [h1z, Nat.mul_one] at hz; exact hz, ?_⟩
      · simp [upd]
      · simp only [upd, if_true]
        intro s; exact absurd (wf.sp _ s) (Nat.lt_irrefl _)
    · intro b' hb' bx' hbx'
      simp only [wrOf, List.map_cons, List.map_nil, List.mem_cons, List.not_mem_nil, or_false] at hb'
      subst hb'
      rw [post1] at hbx'; cases hbx'; exact hrb
    · intro z hz hl
      simp only [wrOf, List.map_cons, List.map_nil, List.mem_cons, List.not_mem_nil, or_false] at hz
      subst hz
      left; simp [upd]
    · intro z hz z' hz' hl hl' _
      simp only [wrOf, List.map_cons, List.map_nil, List.mem_cons, List.not_mem_nil, or_false] at hz hz'
      rw [hz, hz']

/-- A new builder: its first cell will hold its own address. -/
theorem ok_alloc_b {T : TypeId} {d : Nat} {z : Value} (hd : pre d = none) (hz : tyZero C.P T = some z) (hc : z.cells = #[.pointer none, .slice none 0 0]) :
    OpOk C ⟨some d, .alloc T, ty, pos, after, guard⟩ ρ [] pre (.c (.ptr d 0)) [(d, some { cells := [.bself T d false, .lit (.slice none 0 0)] })] := by
  intro μ M a next Q wf hr _ _ k
  have e : (execOp a.eval ⟨some d, .alloc T, ty, pos, after, guard⟩).run C.P M.w = .ok (.value (.pointer (some ⟨M.w.heap.size, 0, none⟩))) { M.w with heap := M.w.heap.push (.cells z.cells T) } := by
    simp [execOp, Instr.alloc, newVar, newRow, run_zero hz]
  unfold Oper.wp
  rw [e]
  have t := new_trans (C := C) (μ := μ) wf hd (.cells z.cells T)
  refine k (.pointer (some ⟨M.w.heap.size, 0, none⟩)) (upd μ d M.w.heap.size) _ (by simp [RepV, Rep1, RepC, upd]) t ?_ ?_ ?_
  · intro b hb bx hbx
    simp [wrOf] at hb
    subst hb
    simp [postOf] at hbx
    subst hbx
    have sp : ¬ M.Sp M.w.heap.size := fun s => absurd (wf.sp _ s) (Nat.lt_irrefl _)
    refine ⟨by simp, fun _ _ => ⟨⟨z.cells, T, (0, 0), by simp [upd], .inl rfl, by simp [hc], fun i h1 h2 => ⟨?_, by simp⟩⟩, fun o => ?_, by simp, ?_⟩, fun _ h => nomatch h⟩
    · have h1' : i < 2 := h1
      match i, h1' with
      | 0, _ => simp only [hc]; exact ⟨rfl, ⟨z.cells, (0, 0), by simp [upd, hc], by simp [hc]⟩, by simpa [upd] using sp⟩
      | 1, _ => simp only [hc]; exact RepI.lit _
    · simp only [upd, if_true]
      intro i; exact absurd (wf.imm _ _ i).1 (Nat.lt_irrefl _)
    · simp only [upd, if_true]; exact sp
  · intro x hx _
    simp [wrOf] at hx
    subst hx
    left; simp [upd]
  · intro x hx y hy _ _ _
    simp [wrOf] at hx hy
    rw [hx, hy]
end ops
end Go.Ev
/-
  A symbolic executor over abstract states: a piece of an array that is a variable: nobody writes its cells any more then.
-/
namespace Go.Ev
set_option linter.unusedSimpArgs false
set_option linter.unusedVariables false
section ops
variable {C : Cfg} {dst : Option Tmp} {ty : TypeId} {pos : String} {after : Array Edge} {guard : Option (Nat × Bool)} {ρ : Operand → AV} {pre : Nat → Option Box}

theorem ok_slice_ptr {x : Operand} {lo hi : Option Operand} {T E : TypeId} {b n sz : Nat} {bx : Box} {l h : Int} (hx : ρ x = .c (.ptr b 0)) (hb : pre b = some bx) (hnl : bx.nl = false) (hob : bx.obj = none) (hle : n * sz ≤ bx.cells.length)
    (hp : bx.cells.all (·.pure) = true) (ht : tyArr C.P T = some (n, E)) (hsz : tySize C.P E = some sz)
    (hlo : bndA ρ 0 lo = some l) (hhi : bndA ρ n hi = some h) (h0 : 0 ≤ l) (h1 : l ≤ h) (h2 : h ≤ n) :
    OpOk C ⟨dst, .slice T x lo hi none, ty, pos, after, guard⟩ ρ [] pre (.c (.list (h.toNat - l.toNat) (pieceL sz l h (bx.cells.take (n * sz))))) [(b, some (pubB bx))] := by
  intro μ M a next Q wf hr hbx hdist k
  have e1 := hr x (by simp [Op.operands]); rw [hx] at e1
  have e1 : a.eval x = .pointer (some ⟨μ b, 0, none⟩) := e1
  have hbs : ∀ b' ∈ [b], ∀ bx', pre b' = some bx' → RepB C μ M b' bx' := fun b' h' => hbx b' (by simpa [wrOf] using h')
  have hds : ∀ x ∈ [b], ∀ y ∈ [b], liveB (pre x) = true → liveB (pre y) = true → μ x = μ y → x = y := fun x hx y hy _ _ _ => by simp at hx hy; rw [hx, hy]
  have hsl : RepC C μ M (.sl b n sz false) (.slice (some ⟨μ b, 0, none⟩) n n) := by
    obtain ⟨⟨c, Tb, fz, hh, hfz, hl2, hcell⟩, himm, hpl, hsp⟩ := (hbs b (by simp) bx hb).2.1 hnl hob
    exact ⟨n, c, Tb, fz, rfl, Nat.le_refl _, hh, by omega, hsp⟩
  have hv2 := pub_list (C := C) wf hbs (b := b) (by simp) hb hnl hle hp hsl
  have t := pub_trans (C := C) (μ := μ) wf hbs
  have hbr := bounds_run (P := C.P) (C := C) (μ := μ) (M := M) (a := a) (cap := n) false hlo hhi (fun y hy => hr y (by rcases hy with rfl | rfl <;> simp [Op.operands])) h0 h1 h2 (Nat.le_refl n) M.w
  have hu : C.P.underlying T = some (.array n E) := by
    unfold tyArr at ht
    split at ht
    · rename_i e; cases ht; exact e
    · cases ht
  have e : (execOp a.eval ⟨dst, .slice T x lo hi none, ty, pos, after, guard⟩).run C.P M.w = .ok (.value (.slice (if n = l.toNat then some ⟨μ b, 0, none⟩ else (some (⟨μ b, 0, none⟩ : Addr)).map (·.add (l.toNat * sz))) (h.toNat - l.toNat) (n - l.toNat))) M.w := by
    have es : (if n = l.toNat then some (⟨μ b, 0, none⟩ : Addr) else (some (⟨μ b, 0, none⟩ : Addr)).map (·.add (l.toNat * sz))) = some (if n = l.toNat then ⟨μ b, 0, none⟩ else (⟨μ b, 0, none⟩ : Addr).add (l.toNat * sz)) := by split <;> rfl
    rw [es]
    simp [execOp, e1, Instr.sliceAt, Instr.sureAddr, run_underlying hu, run_sizeOf hsz, hbr]
  unfold Oper.wp
  rw [e]
  have hw : wrOf [(b, some (pubB bx))] = [b] := rfl
  refine k _ μ (pubM M μ pre [b]) (RepC.of_I (μ := μ) (hv2.piece (by simp; omega) h0 h1 h2)) t ?_ ?_ ?_
  · intro b' hb' bx' hbx'
    simp [wrOf] at hb'
    subst hb'
    simp [postOf] at hbx'
    subst hbx'
    exact pub_box wf hbs hds (by simp) hb
  · intro z hz hlz
    simp [wrOf] at hz
    subst hz
    simp [postOf, liveB, pubB] at hlz
    exact .inr ⟨z, by simp [wrOf], by simp [hb, liveB, hlz], rfl⟩
  · intro z hz z' hz' _ _ _
    simp [wrOf] at hz hz'
    rw [hz, hz']
end ops
end Go.Ev
/-
  A symbolic executor over abstract states, part 7i: maps from whole numbers to whole numbers, as boxes.
-/
namespace Go.Ev
set_option linter.unusedSimpArgs false
set_option linter.unusedVariables false

/-- The entries of a map, in the order in which they came. -/
def mapEs (k k' : IntKind) : Nat → List (Int × Int) → List MapEntry
  | _, [] => []
  | j, (a, b) :: l => { key := .int k a, val := .int k' b, born := j } :: mapEs k k' (j + 1) l
def mapObj (k k' : IntKind) (l : List (Int × Int)) : Obj := .map (mapEs k k' 0 l).toArray l.length
def mapGet (l : List (Int × Int)) (n : Int) : Int := match l with
  | [] => 0
  | (a, b) :: l => bif decide (n = a) then b else mapGet l n
def mapSet (l : List (Int × Int)) (n v : Int) : List (Int × Int) := match l with
  | [] => [(n, v)]
  | (a, b) :: l => bif decide (n = a) then (n, v) :: l else (a, b) :: mapSet l n v
def mapBox (k k' : IntKind) (l : List (Int × Int)) : Box := { cells := [], obj := some (mapObj k k' l) }

theorem find_map (k k' : IntKind) (n : Int) : ∀ (l : List (Int × Int)) (i j : Nat),
    Instr.findNow (.int k) (.int k n) (mapEs k k' j l) i = some (if l.any (fun p => decide (n = p.1)) = true then some (i + (l.findIdx fun p => decide (n = p.1)), .int k' (mapGet l n)) else none)
  | [], i, j => rfl
  | (a, b) :: l, i, j => by
    rw [mapEs, Instr.findNow]
    simp only [Instr.sameNow, if_true]
    by_cases h : n = a
    · subst h
      simp [mapGet, List.findIdx_cons]
    · have hb : (n == a) = false := by simpa using h
      have hd : decide (n = a) = false := decide_eq_false h
      rw [hb]
      simp only [find_map k k' n l (i + 1) (j + 1), List.any_cons, hd, Bool.false_or, mapGet, cond_false, List.findIdx_cons]
      split
      · simp only [Option.some.injEq, Prod.mk.injEq, and_true]; omega
      · rfl
theorem mapGet_none {n : Int} : ∀ {l : List (Int × Int)}, l.any (fun p => decide (n = p.1)) = false → mapGet l n = 0
  | [], _ => rfl
  | (a, b) :: l, h => by
    rw [List.any_cons, Bool.or_eq_false_iff] at h
    rw [mapGet, h.1]; exact mapGet_none h.2
theorem run_findKey {P : Program} {kt : TypeId} {k k' : IntKind} (h : P.underlying kt = some (.int k)) (n : Int) (l : List (Int × Int)) (w : World) :
    (Instr.findKey kt (.int k n) (mapEs k k' 0 l)).run P w = .ok (if l.any (fun p => decide (n = p.1)) = true then some (l.findIdx fun p => decide (n = p.1), .int k' (mapGet l n)) else none) w := by
  have := find_map k k' n l 0 0
  simp only [Instr.findKey, bind, Sem.run_bind', run_underlying h, Result.andThen_ok, this, Nat.zero_add]
  rfl
theorem run_checkKey {P : Program} {kt : TypeId} {k : IntKind} (h : P.underlying kt = some (.int k)) (b : Bool) (n : Int) (w : World) : (Instr.checkKey b 10000 kt (.int k n)).run P w = .ok () w := by
  rw [show (10000 : Nat) = 9999 + 1 from rfl, Instr.checkKey]
  simp only [bind, Sem.run_bind', run_underlying h, Result.andThen_ok]
  rfl
theorem run_getMap {P : Program} {w : World} {r : Nat} {es : Array MapEntry} {c : Nat} (h : w.heap[r]? = some (.map es c)) : (getObj r).run P w = .ok (.map es c) w := by simp [getObj, Sem.run, h]
theorem run_lookup_int {P : Program} {T kt et : TypeId} {k k' : IntKind} (hT : P.underlying T = some (.map kt et)) (hk : P.underlying kt = some (.int k)) (hz : tyZero P et = some (.int k' 0)) {w : World} {r : Nat} {l : List (Int × Int)}
    (hh : w.heap[r]? = some (mapObj k k' l)) (n : Int) : (Instr.lookup T (.map (some r)) (.int k n) false).run P w = .ok (.int k' (mapGet l n)) w := by
  simp only [Instr.lookup, bind, Sem.run_bind', run_underlying hT, Result.andThen_ok, run_getMap hh, mapObj, pure, Sem.run_pure', run_checkKey hk, run_findKey hk, List.toList_toArray]
  cases hf : l.any (fun p => decide (n = p.1)) with
  | true => rfl
  | false =>
    simp only [Bool.false_eq_true, if_false, Sem.run_bind, run_zero hz, Result.andThen_ok]
    rw [mapGet_none hf]; rfl
theorem sameBits_int (k : IntKind) (n : Int) : Instr.sameBits 10000 (.int k n) (.int k n) = true := by simp [Instr.sameBits]
theorem run_stays {P : Program} (k : IntKind) (n : Int) (w : World) : (Instr.keyThatStays (.int k n) (.int k n)).run P w = .ok (.int k n) w := by
  unfold Instr.keyThatStays
  rw [sameBits_int, if_pos rfl]; rfl
theorem mapEs_get (k k' : IntKind) : ∀ (l : List (Int × Int)) (j i : Nat) (p : Int × Int), l[i]? = some p → (mapEs k k' j l)[i]? = some { key := .int k p.1, val := .int k' p.2, born := j + i }
  | (a, b) :: l, j, 0, p, h => by
    simp at h; subst h; rfl
  | (a, b) :: l, j, i + 1, p, h => by
    have := mapEs_get k k' l (j + 1) i p (by simpa using h)
    rw [mapEs, List.getElem?_cons_succ, this]
    simp; omega
theorem mapSet_old (k k' : IntKind) (n v : Int) : ∀ (l : List (Int × Int)) (j : Nat), l.any (fun p => decide (n = p.1)) = true →
    mapEs k k' j (mapSet l n v) = (mapEs k k' j l).modify (l.findIdx fun p => decide (n = p.1)) (fun e => { e with key := .int k n, val := .int k' v }) ∧ (mapSet l n v).length = l.length
  | [], _, h => by simp at h
  | (a, b) :: l, j, h => by
    by_cases e : n = a
    · subst e
      simp [mapSet, mapEs, List.findIdx_cons]
    · have hd : decide (n = a) = false := decide_eq_false e
      rw [List.any_cons, hd, Bool.false_or] at h
      obtain ⟨h1, h2⟩ := mapSet_old k k' n v l (j + 1) h
      simp only [mapSet, hd, cond_false, mapEs, List.findIdx_cons, List.length_cons, h2]
      exact ⟨by rw [h1]; rfl, trivial⟩
theorem mapSet_new (k k' : IntKind) (n v : Int) : ∀ (l : List (Int × Int)) (j : Nat), l.any (fun p => decide (n = p.1)) = false →
    mapEs k k' j (mapSet l n v) = mapEs k k' j l ++ [{ key := .int k n, val := .int k' v, born := j + l.length }] ∧ (mapSet l n v).length = l.length + 1
  | [], j, _ => ⟨rfl, rfl⟩
  | (a, b) :: l, j, h => by
    rw [List.any_cons, Bool.or_eq_false_iff] at h
    obtain ⟨h1, h2⟩ := mapSet_new k k' n v l (j + 1) h.2
    simp only [mapSet, h.1, cond_false, mapEs, List.length_cons, h2]
    rw [h1]
    exact ⟨by simp; omega, trivial⟩
theorem any_idx {n : Int} : ∀ {l : List (Int × Int)}, l.any (fun p => decide (n = p.1)) = true → ∃ p, l[l.findIdx fun p => decide (n = p.1)]? = some p ∧ p.1 = n
  | [], h => by simp at h
  | (a, b) :: l, h => by
    by_cases e : n = a
    · subst e; exact ⟨(n, b), by simp [List.findIdx_cons], rfl⟩
    · have hd : decide (n = a) = false := decide_eq_false e
      rw [List.any_cons, hd, Bool.false_or] at h
      obtain ⟨p, h1, h2⟩ := any_idx h
      exact ⟨p, by simp only [List.findIdx_cons, hd, cond_false]; exact h1, h2⟩
theorem run_setMap {P : Program} {w : World} {r : Nat} {es : Array MapEntry} {c : Nat} {o' : Obj} (h : w.heap[r]? = some (.map es c)) : (setObj r o').run P w = .ok () { w with heap := w.heap.setIfInBounds r o' } := by simp [setObj, Sem.run, h]
theorem run_mapUpdate_int {P : Program} {T kt et : TypeId} {k k' : IntKind} (hT : P.underlying T = some (.map kt et)) (hk : P.underlying kt = some (.int k)) {w : World} {r : Nat} {l : List (Int × Int)}
    (hh : w.heap[r]? = some (mapObj k k' l)) (n v : Int) : (Instr.mapUpdate T (.map (some r)) (.int k n) (.int k' v)).run P w = .ok () { w with heap := w.heap.setIfInBounds r (mapObj k k' (mapSet l n v)) } := by
  simp only [Instr.mapUpdate, bind, Sem.run_bind', run_underlying hT, Result.andThen_ok, run_getMap hh, mapObj, run_checkKey hk, run_findKey hk, List.toList_toArray]
  cases hf : l.any (fun p => decide (n = p.1)) with
  | true =>
    obtain ⟨p, hp, rfl⟩ := any_idx hf
    have hg := mapEs_get k k' l 0 _ p hp
    obtain ⟨h1, h2⟩ := mapSet_old k k' p.1 v l 0 hf
    simp only [if_true, List.getElem?_toArray, hg, Option.map_some, Option.getD_some, Sem.run_bind', run_stays, Result.andThen_ok]
    rw [run_setMap hh, h2, h1]
    simp [List.modify_toArray]
  | false =>
    obtain ⟨h1, h2⟩ := mapSet_new k k' n v l 0 hf
    simp only [Bool.false_eq_true, if_false]
    rw [run_setMap hh, h2, h1]
    simp
section ops
variable {C : Cfg} {dst : Option Tmp} {ty : TypeId} {pos : String} {after : Array Edge} {guard : Option (Nat × Bool)} {ρ : Operand → AV} {pre : Nat → Option Box}
theorem mapBox_at {μ : Nat → Nat} {M : Mem} {b : Nat} {k k' : IntKind} {l : List (Int × Int)} (h : RepB C μ M b (mapBox k k' l)) : RepO μ M b (mapBox k k' l) (mapObj k k' l) := h.2.2 _ rfl
/-- A new map. -/
theorem ok_makeMap {T : TypeId} {d : Nat} {k k' : IntKind} (hd : pre d = none) : OpOk C ⟨some d, .makeMap T none, ty, pos, after, guard⟩ ρ [] pre (.c (.mref d)) [(d, some (mapBox k k' []))] := by
  intro μ M a next Q wf hr hbx hdist kk
  have e : (execOp a.eval ⟨some d, .makeMap T none, ty, pos, after, guard⟩).run C.P M.w = .ok (.value (.map (some M.w.heap.size))) { M.w with heap := M.w.heap.push (.map #[] 0) } := by
    simp [execOp, Instr.makeMap, newObj, Sem.run]
  unfold Oper.wp
  rw [e]
  have t := new_trans (C := C) (μ := μ) wf hd (.map #[] 0)
  refine kk (.map (some M.w.heap.size)) (upd μ d M.w.heap.size) _ (show Value.map _ = Value.map (some (upd μ d M.w.heap.size d)) by simp [upd]) t ?_ ?_ ?_
  · intro b' hb' bx' hbx'
    simp [wrOf] at hb'
    subst hb'
    simp [postOf] at hbx'
    subst hbx'
    refine ⟨fun h => (by cases h), fun _ h => (by cases h), fun o h => ?_⟩
    cases h
    refine ⟨rfl, by simp [upd, mapObj, mapEs], rfl, rfl, fun i hi => ?_, fun s => ?_, fun c T fz => by simp [mapObj]⟩
    · simp only [upd, if_true] at hi; exact absurd (wf.imm _ _ hi).1 (Nat.lt_irrefl _)
    · simp only [upd, if_true] at s; exact absurd (wf.sp _ s) (Nat.lt_irrefl _)
  · intro x hx _
    simp [wrOf] at hx
    subst hx
    exact .inl (by simp [upd])
  · intro x hx y hy _ _ _
    simp [wrOf] at hx hy
    rw [hx, hy]
/-- What a map holds for a number. -/
theorem ok_lookup {T kt et : TypeId} {x y : Operand} {b : Nat} {k k' : IntKind} {l : List (Int × Int)} {n : Int} (hx : ρ x = .c (.mref b)) (hy : ρ y = .c (.lit (.int k n))) (hb : pre b = some (mapBox k k' l))
    (hT : C.P.underlying T = some (.map kt et)) (hk : C.P.underlying kt = some (.int k)) (hz : tyZero C.P et = some (.int k' 0)) :
    OpOk C ⟨dst, .lookup T x y false, ty, pos, after, guard⟩ ρ [b] pre (.c (.lit (.int k' (mapGet l n)))) [] := by
  intro μ M a next Q wf hr hbx hdist kk
  have h1 := hr x (by simp [Op.operands]); rw [hx] at h1
  have h1 : a.eval x = .map (some (μ b)) := h1
  have h2 := hr y (by simp [Op.operands]); rw [hy] at h2
  have h2 : a.eval y = .int k n := RepI.lit_eq h2
  have hR := mapBox_at (C := C) (hbx b (by simp) _ hb)
  have e : (execOp a.eval ⟨dst, .lookup T x y false, ty, pos, after, guard⟩).run C.P M.w = .ok (.value (.int k' (mapGet l n))) M.w := by
    simp [execOp, h1, h2, run_lookup_int hT hk hz hR.at_]
  unfold Oper.wp
  rw [e]
  exact kk _ μ M (RepI.lit _) (Trans.refl C pre μ M wf) (by simp [wrOf]) (by simp [wrOf]) (by simp [wrOf])
/-- A map is given a number. -/
theorem ok_mapUpdate {T kt et : TypeId} {x y z : Operand} {b : Nat} {k k' : IntKind} {l : List (Int × Int)} {n v : Int} (hx : ρ x = .c (.mref b)) (hy : ρ y = .c (.lit (.int k n))) (hzv : ρ z = .c (.lit (.int k' v))) (hb : pre b = some (mapBox k k' l))
    (hT : C.P.underlying T = some (.map kt et)) (hk : C.P.underlying kt = some (.int k)) :
    OpOk C ⟨none, .mapUpdate T x y z, ty, pos, after, guard⟩ ρ [] pre (.c .junk) [(b, some (mapBox k k' (mapSet l n v)))] := by
  intro μ M a next Q wf hr hbx hdist kk
  have h1 := hr x (by simp [Op.operands]); rw [hx] at h1
  have h1 : a.eval x = .map (some (μ b)) := h1
  have h2 := hr y (by simp [Op.operands]); rw [hy] at h2
  have h2 : a.eval y = .int k n := RepI.lit_eq h2
  have h3 := hr z (by simp [Op.operands]); rw [hzv] at h3
  have h3 : a.eval z = .int k' v := RepI.lit_eq h3
  have hR := mapBox_at (C := C) (hbx b (by simp [wrOf]) _ hb)
  have hh := hR.at_
  have hlt : μ b < M.w.heap.size := by
    rcases Nat.lt_or_ge (μ b) M.w.heap.size with h | h
    · exact h
    · simp [Array.getElem?_eq_none h] at hh
  have e : (execOp a.eval ⟨none, .mapUpdate T x y z, ty, pos, after, guard⟩).run C.P M.w = .ok .skip { M.w with heap := M.w.heap.setIfInBounds (μ b) (mapObj k k' (mapSet l n v)) } := by
    simp [execOp, h1, h2, h3, run_mapUpdate_int hT hk hh]
  have hne : ∀ blk, blk ≠ μ b → (M.w.heap.setIfInBounds (μ b) (mapObj k k' (mapSet l n v)))[blk]? = M.w.heap[blk]? := fun blk e => by
    rw [Array.getElem?_setIfInBounds, if_neg fun e' => e e'.symm]
  have g : Grow C M { M with w := { M.w with heap := M.w.heap.setIfInBounds (μ b) (mapObj k k' (mapSet l n v)) } } :=
    ⟨by simp, fun blk o i => ⟨i, by
      have : blk ≠ μ b := fun e' => hR.imm o (e' ▸ i)
      simp [World.cell?, hne blk this]⟩, fun _ s => s, fun blk x s e => by
      have : blk ≠ μ b := fun e' => hR.sp (e' ▸ s)
      exact ⟨x, by rw [← e]; exact hne blk this, C.refl x⟩⟩
  have t : Trans C [b] pre μ M μ { M with w := { M.w with heap := M.w.heap.setIfInBounds (μ b) (mapObj k k' (mapSet l n v)) } } := by
    refine ⟨g, ⟨fun blk o i => by simpa using wf.imm blk o i, fun blk s => by simpa using wf.sp blk s, fun g' flat hg => (wf.glob g' flat hg).mono g, fun g' vs hg => fix_mono g (wf.fix g' vs hg)⟩, rfl, rfl, rfl,
      fun blk h1 _ h3 => ⟨hne blk (h3 b (by simp) (by rw [hb]; rfl)), fun _ i => i⟩, fun _ _ s => s, fun blk c1 T1 fz1 e _ => ?_, fun _ _ => rfl⟩
    by_cases e' : blk = μ b
    · subst e'
      rw [hh] at e
      simp [mapObj] at e
    · exact ⟨c1, fz1, by rw [← e]; exact hne blk e', rfl⟩
  unfold Oper.wp
  rw [e]
  refine kk undef μ _ trivial t ?_ ?_ ?_
  · intro b' hb' bx' hbx'
    simp [wrOf] at hb'
    subst hb'
    simp [postOf] at hbx'
    subst hbx'
    refine ⟨fun h => (by cases h), fun _ h => (by cases h), fun o h => ?_⟩
    cases h
    exact ⟨rfl, by simp [hlt], rfl, rfl, hR.imm, hR.sp, fun c T fz => by simp [mapObj]⟩
  · intro x' hx' _
    simp [wrOf] at hx'
    subst hx'
    exact .inr ⟨x', by simp [wrOf], by rw [hb]; rfl, rfl⟩
  · intro x' hx' y' hy' _ _ _
    simp [wrOf] at hx' hy'
    rw [hx', hy']
end ops
end Go.Ev
