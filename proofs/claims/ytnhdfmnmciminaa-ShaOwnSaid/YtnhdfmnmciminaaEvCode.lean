/-
  A symbolic executor over abstract states, part 5: code, functions, contracts.
-/
import Derived.Test.YtnhdfmnmciminaaEvAny
namespace Go.Ev

/-- How a piece of code is left. -/
inductive Ex where
  | normal
  | exit (id : Nat)
  | ret

def Ex.up : Ex → Exit
  | .normal => .normal
  | .exit id => .exit id
  | .ret => .ret

/-- A box by another number. -/
def AC.ren (f : Nat → Nat) : AC → AC
  | .ptr b o => .ptr (f b) o
  | .sl b n sz nl => .sl (f b) n sz nl
  | a => a
def renL (f : Nat → Nat) (cs : List AC) : List AC := cs.map (·.ren f)
def ren1 (f : Nat → Nat) : AV → AV
  | .c a => .c (a.ren f)
  | .agg cs => .agg (renL f cs)
  | .tup vs => .tup vs
def AV.ren (f : Nat → Nat) : AV → AV
  | .tup vs => .tup (vs.map (ren1 f))
  | a => ren1 f a
def Box.ren (f : Nat → Nat) (bx : Box) : Box := { bx with cells := renL f bx.cells }

theorem RepC_ren {C : Cfg} {μ : Nat → Nat} {M : Mem} {f : Nat → Nat} {a : AC} {v : Value} (h : RepC C μ M (a.ren f) v) : RepC C (fun b => μ (f b)) M a v := by
  cases a with
  | sl b n sz nl => cases nl <;> exact h
  | _ => exact h
theorem RepCs_ren {C : Cfg} {μ : Nat → Nat} {M : Mem} {f : Nat → Nat} {cs : List AC} {vs : Array Value} (h : RepCs C μ M (renL f cs) vs) : RepCs C (fun b => μ (f b)) M cs vs :=
  ⟨by simpa [renL] using h.1, fun i h1 h2 => RepC_ren (by simpa [renL] using h.2 i (by simpa [renL] using h1) h2)⟩
theorem Rep1_ren {C : Cfg} {μ : Nat → Nat} {M : Mem} {f : Nat → Nat} {a : AV} {v : Value} (h : Rep1 C μ M (ren1 f a) v) : Rep1 C (fun b => μ (f b)) M a v := by
  cases a with
  | c a => exact RepC_ren h
  | agg cs => obtain ⟨vs, e, h⟩ := h; exact ⟨vs, e, RepCs_ren h⟩
  | tup _ => exact h
theorem RepV_ren {C : Cfg} {μ : Nat → Nat} {M : Mem} {f : Nat → Nat} {a : AV} {v : Value} (h : RepV C μ M (a.ren f) v) : RepV C (fun b => μ (f b)) M a v := by
  cases a with
  | c a => exact Rep1_ren (a := .c a) h
  | agg cs => exact Rep1_ren (a := .agg cs) h
  | tup xs =>
    obtain ⟨vs, e, hs, h⟩ := h
    refine ⟨vs, e, by simpa using hs, fun i h1 h2 => Rep1_ren ?_⟩
    have := h i (by simpa using h1) h2
    rw [List.getElem_map] at this; exact this
theorem RepB_ren {C : Cfg} {μ : Nat → Nat} {M : Mem} {f : Nat → Nat} {b : Nat} {bx : Box} (h : RepB C μ M (f b) (bx.ren f)) : RepB C (fun b => μ (f b)) M b bx := by
  refine ⟨fun hn => ?_, fun hn => ?_⟩
  · have := h.1 hn
    exact ⟨by simpa [Box.ren, renL] using this.1, this.2⟩
  · obtain ⟨⟨c, T, fz, h1, h2, h3, h4⟩, h5, h6, h7⟩ := h.2 hn
    refine ⟨⟨c, T, fz, h1, h2, by simpa [Box.ren, renL] using h3, fun i i1 i2 => ?_⟩, h5, by simpa [Box.ren, renL] using h6, h7⟩
    have := h4 i (by simpa [Box.ren, renL] using i1) i2
    simp only [Box.ren, renL, List.getElem_map] at this
    refine ⟨RepC_ren this.1, fun hr => ?_⟩
    have := this.2 hr
    revert this
    generalize c[i] = v
    cases bx.cells[i] with
    | ptr b' o =>
      intro this
      simp only [AC.ren] at this
      generalize hx : AC.ptr (f b') o = x at this
      cases this <;> cases hx
    | sl b' n sz nl =>
      intro this
      simp only [AC.ren] at this
      generalize hx : AC.sl (f b') n sz nl = x at this
      cases this <;> cases hx
    | _ => exact fun h => h

/-- What is known of the one value is known of the other, whose boxes have other numbers. -/
def AV.leR (f : Nat → Nat) (a b : AV) : Prop := b = .c .junk ∨ a = b.ren f ∨ (a = .c (.lit (.slice none 0 0)) ∧ ∃ B sz, b = .c (.sl B 0 sz true))

/-- Forget: slots may be anything again, boxes may be left, or have other numbers. Of the slots ts and the boxes bs nothing is said. -/
structure St.leX (f : Nat → Nat) (ts bs : List Nat) (s s' : St) : Prop where
  len : s.n = s'.n
  get : ∀ t, ts.contains t = false → (s.get t).leR f (s'.get t)
  box : ∀ b, bs.contains b = false → s'.box b = none ∨ (∃ r, s'.box b = some ⟨[], 0, true, r⟩) ∨ ∃ bx, s'.box b = some bx ∧ s.box (f b) = some (bx.ren f)

def St.le (s s' : St) : Prop := ∃ f : Nat → Nat, ((∀ x y, f x = f y → x = y) ∧ ∀ b, s.n ≤ b → f b = b) ∧ s.leX f [] [] s'

def St.goes (next : St → Prop) (K : Ex → St → Prop) : Ex → St → Prop
  | .normal, s => next s
  | e, s => K e s

def inBlockA (id : Nat) (K : Ex → St → Prop) : Ex → St → Prop
  | .exit id', s => if id' = id then K .normal s else K (.exit id') s
  | e, s => K e s

def WPc (C : Cfg) : Code → (Ex → St → Prop) → St → Prop
  | .skip, K, s => K .normal s
  | .region _ ops false, K, s => RunN C ops ops.toList s (K .normal)
  | .region _ ops true, K, s => RunK C ops ops.toList s [] fun rcs s' => orderOk ops rcs s ∧ K .normal s'
  | .seq x y, K, s => WPc C x (St.goes (WPc C y K) K) s
  | .cond c x y, K, s => ∃ b, s.ev C c = .c (.lit (.bool b)) ∧ (b = true → WPc C x K s) ∧ (b = false → WPc C y K s)
  | .block id c, K, s => WPc C c (inBlockA id K) s
  | .loop c, K, s => ∃ (Inv : St → Prop) (m : St → Nat), (∃ s0, s.le s0 ∧ Inv s0) ∧
      ∀ s1, Inv s1 → WPc C c (St.goes (fun s2 => ∃ s3, s2.le s3 ∧ Inv s3 ∧ m s3 < m s1) K) s1
  | .exit id, K, s => K (.exit id) s
  | .label _, K, s => K .normal s
  | .ret, K, s => K .ret s
  | _, _, _ => False

theorem WPc.mono {C : Cfg} (c : Code) : ∀ {K K' : Ex → St → Prop} {s : St}, (∀ e s, K e s → K' e s) → WPc C c K s → WPc C c K' s := by
  have runN : ∀ (ops : Array Oper) (os : List Oper) (s : St) (K K' : St → Prop), (∀ s, K s → K' s) → RunN C ops os s K → RunN C ops os s K' := by
    intro ops os
    induction os with
    | nil => intro s K K' h hk; exact h s hk
    | cons o os ih =>
      intro s K K' h hk
      unfold RunN at hk ⊢
      cases hg : o.guard with
      | none =>
        simp only [hg] at hk ⊢
        obtain ⟨rd, r, ups, st, hn⟩ := hk
        exact ⟨rd, r, ups, st, ih _ _ _ h hn⟩
      | some jw =>
        obtain ⟨j, want⟩ := jw
        simp only [hg] at hk ⊢
        obtain ⟨b, hy, h1, h2⟩ := hk
        exact ⟨b, hy, fun e => by obtain ⟨rd, r, ups, st, hn⟩ := h1 e; exact ⟨rd, r, ups, st, ih _ _ _ h hn⟩, fun e => ih _ _ _ h (h2 e)⟩
  have runK : ∀ (ops : Array Oper) (os : List Oper) (s : St) (acc : List Rec) (K K' : List Rec → St → Prop), (∀ l s, K l s → K' l s) → RunK C ops os s acc K → RunK C ops os s acc K' := by
    intro ops os
    induction os with
    | nil => intro s acc K K' h hk; exact h acc s hk
    | cons o os ih =>
      intro s acc K K' h hk
      unfold RunK at hk ⊢
      cases hg : o.guard with
      | none =>
        simp only [hg] at hk ⊢
        obtain ⟨rd, r, ups, st, hn⟩ := hk
        exact ⟨rd, r, ups, st, ih _ _ _ _ h hn⟩
      | some jw =>
        obtain ⟨j, want⟩ := jw
        simp only [hg] at hk ⊢
        obtain ⟨b, hy, h1, h2⟩ := hk
        exact ⟨b, hy, fun e => by obtain ⟨rd, r, ups, st, hn⟩ := h1 e; exact ⟨rd, r, ups, st, ih _ _ _ _ h hn⟩, fun e => ih _ _ _ _ h (h2 e)⟩
  induction c with
  | skip => intro K K' s h hk; exact h _ _ hk
  | region id ops draw =>
    intro K K' s h hk
    cases draw with
    | false => exact runN ops _ s _ _ (h .normal) hk
    | true => exact runK ops _ s _ _ _ (fun _ _ ⟨a, c⟩ => ⟨a, h _ _ c⟩) hk
  | seq x y ihx ihy =>
    intro K K' s h hk
    exact ihx (fun e s hs => by cases e with
      | normal => exact ihy h hs
      | exit id => exact h _ _ hs
      | ret => exact h _ _ hs) hk
  | cond c x y ihx ihy =>
    intro K K' s h hk
    obtain ⟨b, e, h1, h2⟩ := hk
    exact ⟨b, e, fun hb => ihx h (h1 hb), fun hb => ihy h (h2 hb)⟩
  | block id c ih =>
    intro K K' s h hk
    refine ih (fun e s hs => ?_) hk
    cases e with
    | normal => exact h _ _ hs
    | exit id' =>
      simp only [inBlockA] at hs ⊢
      split
      · rename_i e; rw [if_pos e] at hs; exact h _ _ hs
      · rename_i e; rw [if_neg e] at hs; exact h _ _ hs
    | ret => exact h _ _ hs
  | loop c ih =>
    intro K K' s h hk
    obtain ⟨Inv, m, h0, hr⟩ := hk
    exact ⟨Inv, m, h0, fun s1 hs => ih (fun e s hs => by cases e with
      | normal => exact hs
      | exit id => exact h _ _ hs
      | ret => exact h _ _ hs) (hr s1 hs)⟩
  | exit id => intro K K' s h hk; exact h _ _ hk
  | label l => intro K K' s h hk; exact h _ _ hk
  | ret => intro K K' s h hk; exact h _ _ hk
  | _ => intro K K' s _ hk; exact hk.elim

theorem Rel.forget {C : Cfg} {X : Pin} {M0 : Mem} {μ : Nat → Nat} {M : Mem} {s s' : St} {a : Act} (h : Rel C X M0 μ M s a) (l : s.le s') : ∃ μ', Rel C X M0 μ' M s' a := by
  obtain ⟨f, ⟨inj, hi⟩, l⟩ := l
  refine ⟨fun b => μ (f b), ?_⟩
  have hl : ∀ b, liveB (s'.box b) = true → liveB (s.box (f b)) = true := fun b hb' => by
    rcases l.box b rfl with g | ⟨r, g⟩ | ⟨bx, g, e⟩
    · rw [g] at hb'; cases hb'
    · rw [g] at hb'; cases hb'
    · rw [g] at hb'; rw [e]; exact hb'
  refine ⟨h.wf, h.grow, h.os, h.tape, h.output, h.fr, h.spb, h.len.trans l.len, fun t => ?_, fun b bx e => ?_, fun x y lx ly eq => inj _ _ (h.dist _ _ (hl x lx) (hl y ly) eq), fun b lb => h.own _ (hl b lb), h.defers, fun b hb => by have := l.len; rw [hi b (by omega)]; exact h.pin b (by omega), h.wid⟩
  · have ht := h.tmps t
    rcases l.get t rfl with g | g | ⟨g, B, sz, e⟩
    · rw [g]; trivial
    · rw [g] at ht; exact RepV_ren ht
    · rw [g] at ht
      have : a.tmps.getD t undef = .slice none 0 0 := RepI.lit_eq ht
      rw [e, this]; exact ⟨rfl, rfl⟩
  · rcases l.box b rfl with g | ⟨r, g⟩ | ⟨bx', g, e'⟩
    · rw [g] at e; cases e
    · rw [g] at e; cases e; exact ⟨fun _ => ⟨rfl, rfl⟩, fun h => by cases h⟩
    · rw [g] at e; cases e; exact RepB_ren (h.boxes _ _ e')

/-- Where a piece of code is left, and what holds there. -/
def Post (C : Cfg) (X : Pin) (M0 : Mem) (K : Ex → St → Prop) : Exit → Act → World → Prop :=
  fun e a w => ∃ e' s μ M, e = e'.up ∧ K e' s ∧ M.w = w ∧ Rel C X M0 μ M s a

theorem wpc_sound {C : Cfg} {X : Pin} {M0 : Mem} (hm : C.P.follows .mixedOrders = true) (c : Code) : ∀ {K : Ex → St → Prop} {s : St} {μ : Nat → Nat} {M : Mem} {a : Act},
    Rel C X M0 μ M s a → WPc C c K s → c.wp C.P (Post C X M0 K) a M.w := by
  induction c with
  | skip => intro K s μ M a h hk; exact wp_skip ⟨.normal, s, μ, M, rfl, hk, rfl, h⟩
  | label l => intro K s μ M a h hk; exact wp_label ⟨.normal, s, μ, M, rfl, hk, rfl, h⟩
  | exit id => intro K s μ M a h hk; exact wp_exit ⟨.exit id, s, μ, M, rfl, hk, rfl, h⟩
  | ret => intro K s μ M a h hk; exact wp_ret ⟨.ret, s, μ, M, rfl, hk, rfl, h⟩
  | region id ops draw =>
    intro K s μ M a h hk
    cases draw with
    | false =>
      refine wp_region ?_
      rw [List.range_eq_range', show ops.size = ops.toList.length by simp]
      exact runN_sound (C := C) (X := X) (M0 := M0) (K := K .normal) (fun s μ M a hs hr => ⟨.normal, s, μ, M, rfl, hs, rfl, hr⟩) ops.toList 0 s μ M a (fun n => by simp) h hk
    | true => exact any_sound hm (K := K .normal) (fun s μ M a hs hr => ⟨.normal, s, μ, M, rfl, hs, rfl, hr⟩) h hk
  | seq x y ihx ihy =>
    intro K s μ M a h hk
    refine wp_seq (wp_mono (ihx h hk) ?_)
    rintro e a' w' ⟨e', s', μ', M', rfl, hs, rfl, hr⟩
    cases e' with
    | normal => exact ihy hr hs
    | exit id => exact ⟨.exit id, s', μ', M', rfl, hs, rfl, hr⟩
    | ret => exact ⟨.ret, s', μ', M', rfl, hs, rfl, hr⟩
  | cond c x y ihx ihy =>
    intro K s μ M a h hk
    obtain ⟨b, e, h1, h2⟩ := hk
    have hv := h.ev c
    rw [e] at hv
    have hv : a.eval c = .bool b := RepI.lit_eq hv
    cases b with
    | true => exact wp_cond_true hv (ihx h (h1 rfl))
    | false => exact wp_cond_false hv (ihy h (h2 rfl))
  | block id c ih =>
    intro K s μ M a h hk
    refine wp_block (wp_mono (ih h hk) ?_)
    rintro e a' w' ⟨e', s', μ', M', rfl, hs, rfl, hr⟩
    cases e' with
    | normal => exact ⟨.normal, s', μ', M', rfl, hs, rfl, hr⟩
    | ret => exact ⟨.ret, s', μ', M', rfl, hs, rfl, hr⟩
    | exit id' =>
      simp only [inBlockA] at hs
      simp only [Ex.up, Exit.inBlock]
      split
      · rename_i e; rw [if_pos e] at hs; exact ⟨.normal, s', μ', M', rfl, hs, rfl, hr⟩
      · rename_i e; rw [if_neg e] at hs; exact ⟨.exit id', s', μ', M', rfl, hs, rfl, hr⟩
  | loop c ih =>
    intro K s μ M a h hk
    obtain ⟨Inv, m, ⟨s0, l0, h0⟩, hr⟩ := hk
    -- the measure stands in a state, not in a frame: rounds by hand
    have key : ∀ n s1 μ M a, m s1 = n → Inv s1 → Rel C X M0 μ M s1 a → ∀ (b : Frame) (k : List Item) (cs : List Frame),
        ∃ e a' w', Post C X M0 K e a' w' ∧ Arrives C.P (Go.lone (b.at a (.code c :: .inLoop c :: k)) cs M.w) b k cs e a' w' := by
      intro n
      induction n using Nat.strongRecOn with
      | _ n ihn =>
        intro s1 μ M a hn hi hrel b k cs
        obtain ⟨e, a', w', ⟨e', s', μ', M', rfl, hs, rfl, hr'⟩, harr⟩ := ih hrel (hr s1 hi) b (.inLoop c :: k) cs
        cases e' with
        | normal =>
          obtain ⟨s3, l3, h3, hlt⟩ := hs
          obtain ⟨μ3, hr3⟩ := hr'.forget l3
          obtain ⟨e2, a2, w2, hp, harr2⟩ := ihn (m s3) (hn ▸ hlt) s3 μ3 M' a' rfl h3 hr3 b k cs
          exact ⟨e2, a2, w2, hp, .of_steps (Steps.trans harr (.one step_inLoop)) harr2⟩
        | exit id =>
          exact ⟨.exit id, a', M'.w, ⟨.exit id, s', μ', M', rfl, hs, rfl, hr'⟩, fun k' hk' => harr k' (by simpa [exitTo] using hk')⟩
        | ret => exact ⟨.ret, a', M'.w, ⟨.ret, s', μ', M', rfl, hs, rfl, hr'⟩, harr⟩
    intro b k cs
    obtain ⟨μ0, hr0⟩ := h.forget l0
    obtain ⟨e, a', w', hp, harr⟩ := key _ s0 μ0 M a rfl h0 hr0 b k cs
    exact ⟨e, a', w', hp, .of_steps (.one step_loop) harr⟩
  | _ => intro K s μ M a _ hk; exact hk.elim

end Go.Ev
