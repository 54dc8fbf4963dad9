/-
  A symbolic executor over abstract states, part 7g: the contract of a function by its code: slices of its own as lists in its results; boxes that it is handed.
-/
import Derived.Test.YtnhdfmnmciminaaEvSl4
namespace Go.Ev
set_option linter.unusedSimpArgs false
set_option linter.unusedVariables false

/-- The boxes that a function has made itself. -/
def lowBox (s : St) (b : Nat) : Option Box := if b < s.n then s.box b else none

/-- A slot's or a box's content, as one result: slices of its own as lists. -/
def ResP1 (P : Program) (s : St) (x : ResultVar) (r : AV) : Prop := ∃ r0, ResA P s x r0 ∧ r = pubA (lowBox s) r0
def ResPL (P : Program) (s : St) : List ResultVar → List AV → Prop
  | [], [] => True
  | x :: xs, a :: as => ResP1 P s x a ∧ ResPL P s xs as
  | _, _ => False
/-- What a function returns. -/
def ResP (P : Program) (s : St) (rs : List ResultVar) (r : AV) : Prop :=
  match rs with
  | [x] => ResP1 P s x r
  | xs => ∃ as, r = .tup as ∧ ResPL P s xs as

theorem resPL_raw {P : Program} {s : St} : ∀ (xs : List ResultVar) (as : List AV), ResPL P s xs as → ∃ bs, ResL P s xs bs ∧ as = bs.map (pubA (lowBox s)) := by
  intro xs
  induction xs with
  | nil => intro as h; cases as with
    | nil => exact ⟨[], trivial, rfl⟩
    | cons _ _ => exact h.elim
  | cons x xs ih =>
    intro as h
    cases as with
    | nil => exact h.elim
    | cons a as =>
      obtain ⟨⟨r0, h1, rfl⟩, h2⟩ := h
      obtain ⟨bs, h3, rfl⟩ := ih as h2
      exact ⟨r0 :: bs, ⟨h1, h3⟩, rfl⟩

/-- In memory in which the boxes of one's own that results name are written by nobody any more, a function's results are what was said. -/
theorem resP_run {C : Cfg} {X : Pin} {M0 : Mem} {μ : Nat → Nat} {M : Mem} {s : St} {a : Act} (h : Rel C X M0 μ M s a) {fn : Func} {r : AV} (hr : ResP C.P s fn.results.toList r) :
    ∃ (bs : List Nat) (v : Value), (results fn a.tmps).run C.P M.w = .ok v M.w ∧ RepV C μ (pubM M μ (lowBox s) bs) r v := by
  have hb : ∀ bs : List Nat, ∀ b ∈ bs, ∀ bx, lowBox s b = some bx → RepB C μ M b bx := fun bs b _ bx e => by
    unfold lowBox at e
    split at e
    · exact h.boxes b bx e
    · cases e
  unfold ResP at hr
  split at hr
  · rename_i x hx
    obtain ⟨r0, h1, rfl⟩ := hr
    obtain ⟨v, e, hv⟩ := res_run h (fn := fn) (r := r0) (by rw [hx]; exact h1)
    refine ⟨slA r0, v, e, ?_⟩
    have hnt : ∀ vs, r0 ≠ .tup vs := fun vs e => by
      subst e
      cases x with
      | tmp t => exact h1.2 vs rfl
      | cell a T =>
        obtain ⟨b, off, bx, _, _, _, h⟩ := h1
        rcases h with ⟨_, _, _, h⟩ | ⟨_, _, _, _, h⟩ <;> cases h
    have : Rep1 C μ M r0 v := by cases r0 with
      | tup vs => exact (hnt vs rfl).elim
      | c _ => exact hv
      | agg _ => exact hv
    exact (pubA_rep h.wf (hb _) (fun b hb => hb) this).V
  · obtain ⟨as, rfl, hl⟩ := hr
    obtain ⟨bs, hraw, rfl⟩ := resPL_raw _ _ hl
    rename_i hne
    obtain ⟨v, e, hv⟩ := res_run h (fn := fn) (r := .tup bs) (by
      unfold ResAs
      split
      · rename_i x hx; exact (hne x hx).elim
      · exact ⟨bs, rfl, hraw⟩)
    refine ⟨bs.flatMap slA, v, e, ?_⟩
    obtain ⟨vs, e2, h1, h2⟩ := hv
    refine ⟨vs, e2, by simpa using h1, fun i i1 i2 => ?_⟩
    have hi : i < bs.length := by simpa using i1
    have := pubA_rep (pre := lowBox s) h.wf (hb (bs.flatMap slA)) (fun b hb => List.mem_flatMap.2 ⟨bs[i], List.getElem_mem hi, hb⟩) (h2 i hi i2)
    simpa using this

/-- The boxes at the start. -/
def boxAt (bxs : List (Nat × Box × Box)) (b : Nat) : Option Box := (bxs.find? fun x => x.1 == b).map (·.2.1)
/-- The state in which a function's body begins, that is handed boxes. -/
def initB (args : List AV) (n : Nat) (bxs : List (Nat × Box × Box)) : St := ⟨n, fun t => args.getD t (.c .junk), boxAt bxs⟩

theorem boxAt_some {bxs : List (Nat × Box × Box)} {b : Nat} {bx : Box} (h : boxAt bxs b = some bx) : ∃ x ∈ bxs, x.1 = b ∧ x.2.1 = bx := by
  obtain ⟨x, hx, rfl⟩ := Option.map_eq_some_iff.1 h
  exact ⟨x, List.mem_of_find?_eq_some hx, by simpa using List.find?_some hx, rfl⟩

theorem RepB.purec {C : Cfg} {μ μ' : Nat → Nat} {M : Mem} {b b' : Nat} {bx : Box} (hp : bx.cells.all (·.pure) = true) (e : μ' b' = μ b) (h : RepB C μ M b bx) : RepB C μ' M b' bx := by
  refine ⟨h.1, fun hn => ?_⟩
  obtain ⟨⟨c, T, fz, h1, h2, h3, h4⟩, h5, h6, h7⟩ := h.2 hn
  exact ⟨⟨c, T, fz, by rw [e]; exact h1, h2, h3, fun i i1 i2 => ⟨(h4 i i1 i2).1.pure (List.all_eq_true.1 hp _ (List.getElem_mem i1)) μ', (h4 i i1 i2).2⟩⟩, by rw [e]; exact h5, h6, by rw [e]; exact h7⟩

/-- May it be handed over? -/
def argOk (n : Nat) : AV → Bool
  | .c (.ptr b _) => n ≤ b
  | a => pure1 a

theorem argOk_ren {n : Nat} {a : AV} (h : argOk n a = true) (f : Nat → Nat) : a.ren f = ren1 f a := by
  cases a with
  | c a => rfl
  | agg cs => rfl
  | tup _ => simp [argOk, pure1] at h

structure BoxOk (n : Nat) (x : Nat × Box × Box) : Prop where
  id : n ≤ x.1
  p1 : x.2.1.cells.all (·.pure) = true
  p2 : x.2.2.cells.all (·.pure) = true
  n1 : x.2.1.nl = false
  n2 : x.2.2.nl = false

/-- THE CONTRACT OF A FUNCTION, by its code. The boxes that it is handed have numbers above all slots' in it, and are the boxes f .. of whoever calls. -/
theorem fnOkB_of_wpc {C : Cfg} {k : FuncId} {fn : Func} {c : Code} {args : List AV} {r : AV} (bxs : List (Nat × Box × Box)) (hm : C.P.follows .mixedOrders = true) (hf : C.P.funcs[k]? = some fn) (hb : fn.body = some c)
    (hn : (fn.name == "runtime.NumGoroutine") = false) (hp : args.all (argOk fn.ntmps) = true) (hr : r.pure = true) (ha : args.length ≤ fn.ntmps) (hB : ∀ x ∈ bxs, BoxOk fn.ntmps x)
    (h : WPc C c (fun e s => (e = .normal ∨ e = .ret) ∧ ResP C.P s fn.results.toList r ∧ s.n = fn.ntmps ∧ ∀ x ∈ bxs, s.box x.1 = some x.2.2) (initB args fn.ntmps bxs))
    (f : Nat → Nat) (hinj : ∀ x ∈ bxs, ∀ y ∈ bxs, f x.1 = f y.1 → x = y) (pre : Nat → Option Box) (hpre : ∀ x ∈ bxs, pre (f x.1) = some x.2.1) :
    FnOkB C k (args.map (AV.ren f)) pre r (bxs.map fun x => (f x.1, some x.2.2)) := by
  have hw : wrOf (bxs.map fun x => (f x.1, some x.2.2)) = bxs.map fun x => f x.1 := by simp [wrOf, Function.comp_def]
  have hpost : ∀ x ∈ bxs, postOf (bxs.map fun x => (f x.1, some x.2.2)) (f x.1) = some x.2.2 := by
    intro x hx
    have gen : ∀ l : List (Nat × Box × Box), (∀ y ∈ l, y ∈ bxs) → x ∈ l → (l.map fun x => (f x.1, some x.2.2)).lookup (f x.1) = some (some x.2.2) := by
      intro l
      induction l with
      | nil => intro _ h; cases h
      | cons y l ih =>
        intro hl hx'
        simp only [List.map_cons, List.lookup]
        by_cases e : f x.1 = f y.1
        · have := hinj x hx y (hl y (by simp)) e
          subst this; simp
        · have e' : (f x.1 == f y.1) = false := by simpa using e
          rw [e']
          refine ih (fun z hz => hl z (by simp [hz])) ?_
          rcases List.mem_cons.1 hx' with g | g
          · subst g; exact (e rfl).elim
          · exact g
    simp [postOf, gen bxs (fun _ h => h) hx]
  refine ⟨⟨fn, hf, by simp [hb], hn⟩, ?_, ?_⟩
  · intro b hb' _
    rw [hw] at hb'
    obtain ⟨x, hx, rfl⟩ := List.mem_map.1 hb'
    rw [hpre x hx]; simp [liveB, (hB x hx).n1]
  intro μ M vs wf hsz hrep hbx hd
  refine calls_of_wp hf hb ?_
  rw [hw] at hbx hd
  have hsz : vs.size = args.length := by simpa using hsz
  let X : Pin := ⟨fun blk => ∃ x ∈ bxs, blk = μ (f x.1), fun b => μ (f b)⟩
  have hrel : Rel C X M (fun b => μ (f b)) M (initB args fn.ntmps bxs) { tmps := vs ++ Array.replicate (fn.ntmps - vs.size) undef, defers := [] } := by
    refine ⟨wf, Grow.refl C M, rfl, rfl, rfl, fun _ _ _ _ => ⟨rfl, fun _ h => h⟩, fun _ _ h => h, ?_, ?_, ?_, ?_, ?_, rfl, fun _ _ => rfl, fun blk c T fz e _ => ⟨c, T, fz, e, Nat.le_refl _⟩⟩
    · simp [initB, hsz]; omega
    · intro t
      simp only [initB, St.get, List.getD_eq_getElem?_getD, Array.getD_eq_getD_getElem?]
      by_cases ht : t < args.length
      · rw [Array.getElem?_append_left (by omega), List.getElem?_eq_getElem ht, Array.getElem?_eq_getElem (by omega)]
        simp only [Option.getD_some]
        have hok := List.all_eq_true.1 hp _ (List.getElem_mem ht)
        have h1 := hrep t (by simpa using ht) (by omega)
        rw [List.getElem_map, argOk_ren hok] at h1
        have h2 := Rep1_ren h1
        exact h2.V
      · rw [List.getElem?_eq_none (by omega)]; trivial
    · intro b bx e
      obtain ⟨x, hx, rfl, rfl⟩ := boxAt_some e
      exact (hbx (f x.1) (List.mem_map.2 ⟨x, hx, rfl⟩) _ (hpre x hx)).purec (hB x hx).p1 rfl
    · intro x y lx ly eq
      have fnd : ∀ b, liveB ((initB args fn.ntmps bxs).box b) = true → ∃ z ∈ bxs, z.1 = b ∧ liveB (pre (f b)) = true := fun b hl => by
        cases e : (initB args fn.ntmps bxs).box b with
        | none => rw [e] at hl; cases hl
        | some bx =>
          obtain ⟨z, hz, h1, h2⟩ := boxAt_some e
          exact ⟨z, hz, h1, by rw [← h1, hpre z hz]; simp [liveB, (hB z hz).n1]⟩
      obtain ⟨z, hz, rfl, l1⟩ := fnd x lx
      obtain ⟨z', hz', rfl, l2⟩ := fnd y ly
      have := hd _ (List.mem_map.2 ⟨z, hz, rfl⟩) _ (List.mem_map.2 ⟨z', hz', rfl⟩) l1 l2 eq
      rw [hinj z hz z' hz' this]
    · intro b hl
      right
      cases e : (initB args fn.ntmps bxs).box b with
      | none => rw [e] at hl; cases hl
      | some bx =>
        obtain ⟨z, hz, h1, h2⟩ := boxAt_some e
        exact ⟨z, hz, by rw [h1]⟩
  refine wp_mono (wpc_sound hm c hrel h) ?_
  rintro e a w ⟨e', s, μ', M', rfl, ⟨he, hres, hsn, hfin⟩, rfl, hr'⟩
  obtain ⟨bs, v, hv, hrv⟩ := resP_run hr' hres
  have hlow : ∀ b ∈ bs, ∀ bx, lowBox s b = some bx → RepB C μ' M' b bx := fun b _ bx e => by
    unfold lowBox at e
    split at e
    · exact hr'.boxes b bx e
    · cases e
  have tp := pub_trans (C := C) (μ := μ') (pre := lowBox s) (bs := bs) hr'.wf hlow
  have live_low : ∀ b, liveB (lowBox s b) = true → b < s.n ∧ liveB (s.box b) = true := fun b hl => by
    unfold lowBox at hl
    split at hl
    · rename_i hlt; exact ⟨hlt, hl⟩
    · cases hl
  have pinned : ∀ x ∈ bxs, μ' x.1 = μ (f x.1) := fun x hx => hr'.pin x.1 (by rw [hsn]; exact (hB x hx).id)
  have finlive : ∀ x ∈ bxs, liveB (s.box x.1) = true := fun x hx => by rw [hfin x hx]; simp [liveB, (hB x hx).n2]
  have fin : a.defers = [] ∧ ∃ v, (results fn a.tmps).run C.P M'.w = .ok v M'.w ∧ (∃ v' M'', Ending.returned v = .returned v' ∧ M''.w = M'.w ∧ RepV C μ M'' r v' ∧ Trans C (wrOf (bxs.map fun x => (f x.1, some x.2.2))) pre μ M μ M'' ∧
      ∀ b ∈ wrOf (bxs.map fun x => (f x.1, some x.2.2)), ∀ bx, postOf (bxs.map fun x => (f x.1, some x.2.2)) b = some bx → RepB C μ M'' b bx) := by
    refine ⟨hr'.defers, v, hv, v, pubM M' μ' (lowBox s) bs, rfl, rfl, hrv.pure hr μ, ?_, ?_⟩
    · rw [hw]
      refine ⟨hr'.grow.trans tp.grow, tp.wf, hr'.os, hr'.tape, hr'.output, fun blk h1 h2 h3 => ?_, fun blk h1 s => hr'.spb blk h1 s, fun blk c T fz e hs => hr'.wid blk c T fz e hs, fun _ _ => rfl⟩
      have hx : ¬ X.blk blk := by
        rintro ⟨x, hx, rfl⟩
        exact h3 (f x.1) (List.mem_map.2 ⟨x, hx, rfl⟩) (by rw [hpre x hx]; simp [liveB, (hB x hx).n1]) rfl
      obtain ⟨e1, e2⟩ := hr'.fr blk h1 h2 hx
      refine ⟨e1, fun o i => ?_⟩
      rcases i with i | ⟨b, hb', bx, e, hn', rfl, ho⟩
      · exact e2 o i
      · have hl := live_low b (by simp [e, liveB, hn'])
        rcases hr'.own b hl.2 with g | g
        · omega
        · exact (hx g).elim
    · intro b hb' bx e
      rw [hw] at hb'
      obtain ⟨x, hx, rfl⟩ := List.mem_map.1 hb'
      rw [hpost x hx] at e
      cases e
      have h1 := hr'.boxes x.1 x.2.2 (hfin x hx)
      have h2 : RepB C μ' (pubM M' μ' (lowBox s) bs) x.1 x.2.2 := by
        obtain ⟨⟨c, T, fz, g1, g2, g3, g4⟩, g5, g6, g7⟩ := h1.2 (hB x hx).n2
        refine ⟨h1.1, fun _ => ⟨⟨c, T, fz, g1, g2, g3, fun i i1 i2 => ⟨(g4 i i1 i2).1.trans tp fun _ _ => rfl, fun hrow => ((g4 i i1 i2).2 hrow).mono tp.grow⟩⟩, fun o i => ?_, g6, g7⟩⟩
        rcases i with i | ⟨b, hb', bx, e, hn', eq, ho⟩
        · exact g5 o i
        · have hl := live_low b (by simp [e, liveB, hn'])
          have := hr'.dist x.1 b (finlive x hx) hl.2 eq
          have h9 := (hB x hx).id
          omega
      exact h2.purec (hB x hx).p2 (pinned x hx).symm
  rcases he with rfl | rfl
  · exact fin
  · exact fin

/-- The contract of a function that is handed no box. -/
theorem fnOk_of_wpc {C : Cfg} {k : FuncId} {fn : Func} {c : Code} {args : List AV} {r : AV} (hm : C.P.follows .mixedOrders = true) (hf : C.P.funcs[k]? = some fn) (hb : fn.body = some c)
    (hn : (fn.name == "runtime.NumGoroutine") = false) (hp : args.all pure1 = true) (hr : r.pure = true) (ha : args.length ≤ fn.ntmps)
    (h : WPc C c (fun e s => (e = .normal ∨ e = .ret) ∧ ResP C.P s fn.results.toList r ∧ s.n = fn.ntmps) (initSt args fn.ntmps)) : FnOk C k args r := by
  intro pre
  have hi : initB args fn.ntmps [] = initSt args fn.ntmps := by
    simp only [initB, initSt]; congr 1
  have harg : args.all (argOk fn.ntmps) = true := List.all_eq_true.2 fun x hx => by
    have := List.all_eq_true.1 hp x hx
    cases x with
    | c a => cases a <;> first | rfl | simp [pure1, AC.pure] at this
    | agg cs => exact this
    | tup _ => simp [pure1] at this
  have key := fnOkB_of_wpc (C := C) (k := k) (args := args) (r := r) [] hm hf hb hn harg hr ha (by simp) (by
    rw [hi]; exact WPc.mono c (fun e s hs => ⟨hs.1, hs.2.1, hs.2.2, by simp⟩) h) id (by simp) pre (by simp)
  have e : args.map (AV.ren id) = args := by
    have hc : ∀ a : AC, a.ren id = a := fun a => by cases a <;> rfl
    have hl : ∀ cs : List AC, renL id cs = cs := fun cs => by
      have : (fun a : AC => a.ren id) = id := funext hc
      simp [renL, this]
    have h1 : ∀ a, ren1 id a = a := fun a => by cases a <;> simp [ren1, hc, hl]
    have : (AV.ren id) = id := funext fun a => by
      cases a with
      | c a => exact h1 (.c a)
      | agg cs => exact h1 (.agg cs)
      | tup vs =>
        have : (ren1 id) = id := funext h1
        simp [AV.ren, this]
    rw [this, List.map_id]
  rw [e] at key
  exact key
end Go.Ev
