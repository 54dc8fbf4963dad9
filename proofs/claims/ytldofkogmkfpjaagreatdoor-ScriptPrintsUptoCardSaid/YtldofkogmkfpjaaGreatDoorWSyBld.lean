/-
  Symbolic values, part 11: a builder of texts: copyCheck and String, as contracts here.
-/
import Derived.Test.YtldofkogmkfpjaaGreatDoorWSyB
import Derived.Shelf.Strings.Builder1
namespace Go.Sy
open Go.Ev Go.RowKit Go.Shelf Go.Proofs
set_option linter.unusedVariables false
section
variable {P : Program} {ρ : Ren}

set_option maxHeartbeats 2000000 in
set_option maxRecDepth 100000 in
theorem str_walk (L : Lays.n169 P ρ) (X : Builder.Extra P ρ) (b g cap n : Nat) (l : List UInt8) (w : World) (h1 : w.cell? ⟨b, 1, none⟩ = some (.slice (some ⟨g, 0, none⟩) l.length cap))
    (h0 : l ≠ []) (hcap : l.length ≤ cap) (hmax : l.length ≤ 140737488355328) (hsh : w.shape? g = some (ρ.t 5, n)) (hn : l.length ≤ n) (hc : ∀ j x, l[j]? = some x → w.cell? ((⟨g, 0, none⟩ : Addr).add j) = some (.int .u8 x.toNat)) :
    Calls P (ρ.f 169) #[.pointer (some ⟨b, 0, none⟩)] w fun e w' => e = .returned (.string ⟨l.toArray⟩) ∧ w' = w.drew.freeze ⟨g, 0, none⟩ l.length := by
  have hl0 : l.length ≠ 0 := by simpa using h0
  have c1 : w.drew.cell? ⟨b, 1, none⟩ = some (.slice (some ⟨g, 0, none⟩) l.length cap) := h1
  have hSD : (Builtin.unsafeSliceData_ #[(ρ.t 37)] (ρ.t 127) #[.slice (some ⟨g, 0, none⟩) l.length cap]).run P w.drew = .ok (.pointer (some ⟨g, 0, none⟩)) w.drew :=
    Lib.run_unsafeSliceData_row _ _ _ _ _ _ (by omega)
  have hUS : (Builtin.unsafeString_ #[(ρ.t 127), (ρ.t 3)] (ρ.t 9) #[.pointer (some ⟨g, 0, none⟩), .int .i64 l.length]).run P w.drew = .ok (.string ⟨l.toArray⟩) (w.drew.freeze ⟨g, 0, none⟩ l.length) :=
    Lib.run_unsafeString_row w.drew (ρ.t 127) (ρ.t 3) (ρ.t 9) (ρ.t 5) L.t127 X.cellsByte g n hsh l h0 hn (by omega) hc
  have mixed := L.mixed
  have t72 := L.t72; have a72 := L.a72; have z72 := L.z72; have v72 := L.v72; have u72 := run_underlying L.t72
  have t70 := L.t70; have a70 := L.a70; have z70 := L.z70; have v70 := L.v70; have u70 := run_underlying L.t70
  have t37 := L.t37; have a37 := L.a37; have z37 := L.z37; have v37 := L.v37; have u37 := run_underlying L.t37
  have t127 := L.t127; have a127 := L.a127; have z127 := L.z127; have v127 := L.v127; have u127 := run_underlying L.t127
  have t3 := L.t3; have a3 := L.a3; have z3 := L.z3; have v3 := L.v3; have u3 := run_underlying L.t3
  have t9 := L.t9; have a9 := L.a9; have z9 := L.z9; have v9 := L.v9; have u9 := run_underlying L.t9
  have t5 := X.t5; have a5 := X.a5; have z5 := X.z5; have v5 := X.v5; have u5 := run_underlying X.t5
  go_enter L.f169, Body.n169_ntmps ρ
  go_wp2
  go_region_o
  all_goals (go_wp2; go_ret; exact ⟨rfl, rfl⟩)

set_option maxHeartbeats 2000000 in
set_option maxRecDepth 100000 in
theorem str_walk0 (L : Lays.n169 P ρ) (X : Builder.Extra P ρ) (b : Nat) (w : World) (h1 : w.cell? ⟨b, 1, none⟩ = some (.slice none 0 0)) :
    Calls P (ρ.f 169) #[.pointer (some ⟨b, 0, none⟩)] w fun e w' => e = .returned (.string ⟨#[]⟩) ∧ w' = w.drew := by
  have hUS := Any.unsafeString_none L X
  have c1 : w.drew.cell? ⟨b, 1, none⟩ = some (.slice none 0 0) := h1
  have hSD : (Builtin.unsafeSliceData_ #[(ρ.t 37)] (ρ.t 127) #[.slice none 0 0]).run P w.drew = .ok (.pointer none) w.drew := rfl
  have mixed := L.mixed
  have t72 := L.t72; have a72 := L.a72; have z72 := L.z72; have v72 := L.v72; have u72 := run_underlying L.t72
  have t70 := L.t70; have a70 := L.a70; have z70 := L.z70; have v70 := L.v70; have u70 := run_underlying L.t70
  have t37 := L.t37; have a37 := L.a37; have z37 := L.z37; have v37 := L.v37; have u37 := run_underlying L.t37
  have t127 := L.t127; have a127 := L.a127; have z127 := L.z127; have v127 := L.v127; have u127 := run_underlying L.t127
  have t3 := L.t3; have a3 := L.a3; have z3 := L.z3; have v3 := L.v3; have u3 := run_underlying L.t3
  have t9 := L.t9; have a9 := L.a9; have z9 := L.z9; have v9 := L.v9; have u9 := run_underlying L.t9
  have t5 := X.t5; have a5 := X.a5; have z5 := X.z5; have v5 := X.v5; have u5 := run_underlying X.t5
  go_enter L.f169, Body.n169_ntmps ρ
  go_wp2
  go_region_o
  all_goals (go_wp2; go_ret; exact ⟨rfl, rfl⟩)
end

theorem modify_cells {h : Array Obj} {b : Nat} {c : Array Value} {T : TypeId} {fz : Nat × Nat} (e : h[b]? = some (.cells c T fz)) (f : Obj → Obj) : h.modify b f = h.setIfInBounds b (f (.cells c T fz)) := by
  apply Array.ext_getElem?
  intro i
  rw [Array.getElem?_modify, Array.getElem?_setIfInBounds]
  by_cases hi : b = i
  · subst hi
    have hlt := (Array.getElem?_eq_some_iff.1 e).1
    rw [if_pos rfl, if_pos rfl, if_pos hlt, e]; rfl
  · rw [if_neg hi, if_neg hi]
theorem cell_of {w : World} {b : Nat} {c : Array Value} {T : TypeId} {fz : Nat × Nat} (e : w.heap[b]? = some (.cells c T fz)) (i : Nat) : w.cell? ⟨b, i, none⟩ = c[i]? := by
  simp [World.cell?, e]

section
variable {C : Cfg} {ρ : Ren} {pre : Nat → Option Box} {b B : Nat} {u : Bool} {a : AC}
theorem one_arg {μ : Nat → Nat} {M : Mem} {vs : Array Value} (hsz : vs.size = [AV.c (.ptr b 0)].length) (hrep : ∀ i (h : i < [AV.c (.ptr b 0)].length) (h' : i < vs.size), Rep1 C μ M [AV.c (.ptr b 0)][i] vs[i]) : vs = #[.pointer (some ⟨μ b, 0, none⟩)] := by
  have h1 : vs.size = 1 := hsz
  have h0 : vs[0]'(by omega) = .pointer (some ⟨μ b, 0, none⟩) := hrep 0 (by simp) (by omega)
  apply Array.ext
  · simpa using h1
  · intro i i1 i2
    obtain rfl : i = 0 := by omega
    exact h0
/-- copyCheck: the builder knows its own address then. -/
theorem fnOkB_check (L : Lays.n240 C.P ρ) (X : Builder.X72 C.P ρ) (hc : callable C.P (ρ.f 240)) (hpre : pre b = some ⟨[.bself (ρ.t 72) b u, a], 0, false, false, none⟩) :
    FnOkB C (ρ.f 240) [.c (.ptr b 0)] pre (.tup []) [(b, some ⟨[.bself (ρ.t 72) b true, a], 0, false, false, none⟩)] := by
  have hp1 : postOf [(b, some (⟨[.bself (ρ.t 72) b true, a], 0, false, false, none⟩ : Box))] b = some ⟨[.bself (ρ.t 72) b true, a], 0, false, false, none⟩ := by simp [postOf]
  refine FnOkB.of_fixed hc (fun q hq hl => ?_) ?_
  · simp [wrOf] at hq
    subst hq
    rw [hpre]; rfl
  intro μ M vs wf hsz hrep hbx hd
  rw [one_arg hsz hrep]
  have hR := (hbx b (by simp [wrOf]) _ hpre).2.1 rfl rfl
  have hR0 := hR
  obtain ⟨⟨c, T, fz, h1, h2, h3, h4⟩, h5, h6, h7⟩ := hR
  have h3 : 2 ≤ c.size := h3
  obtain ⟨hv, ⟨c', fz', hb', hs2⟩, hsp⟩ := (h4 0 (by simp) (by omega)).1
  rw [h1] at hb'
  cases hb'
  have hc0 : M.w.cell? ⟨μ b, 0, none⟩ = some (.pointer (bif u then some ⟨μ b, 0, none⟩ else none)) := by
    rw [cell_of h1, Array.getElem?_eq_getElem (by omega), hv]
  cases u with
  | true =>
    refine (Any.Builder_copyCheck_used L X (μ b) M.w hc0).mono ?_
    rintro e w' ⟨rfl, rfl⟩
    refine ⟨_, M, rfl, rfl, ⟨#[], rfl, rfl, fun i h => by simp at h⟩, (Trans.refl C pre μ M wf).weaken, ?_⟩
    intro q hq bx hbx'
    simp [wrOf] at hq
    subst hq
    rw [hp1] at hbx'; cases hbx'
    exact hbx q (by simp [wrOf]) _ hpre
  | false =>
    have hfz : M.w.frozen? ⟨μ b, 0, none⟩ = false := by
      simp only [World.frozen?, h1]
      rcases h2 with h2 | h2
      · obtain ⟨lo, hi⟩ := fz
        simp at h2 ⊢; omega
      · obtain ⟨lo, hi⟩ := fz
        simp at h2 ⊢; omega
    refine (Any.Builder_copyCheck_fresh L X (μ b) M.w hc0 (by simp [World.shape?, h1, hs2]) hfz).mono ?_
    rintro e w' ⟨rfl, rfl⟩
    have hw : M.w.setCell ⟨μ b, 0, none⟩ (.pointer (some ⟨μ b, 0, none⟩)) = { M.w with heap := M.w.heap.setIfInBounds (μ b) (.cells (c.setIfInBounds 0 (.pointer (some ⟨μ b, 0, none⟩))) (ρ.t 72) fz) } := by
      unfold World.setCell
      rw [modify_cells h1]; rfl
    rw [hw]
    have t := write_trans (C := C) (pre := pre) wf hpre rfl hR0 h1 (c' := c.setIfInBounds 0 (.pointer (some ⟨μ b, 0, none⟩))) (by simp) (fun o ho => absurd ho (Nat.not_lt_zero _))
    refine ⟨_, _, rfl, rfl, ⟨#[], rfl, rfl, fun i h => by simp at h⟩, t.more (by simp [wrOf]), ?_⟩
    intro q hq bx hbx'
    simp [wrOf] at hq
    subst hq
    rw [hp1] at hbx'; cases hbx'
    have hlt := heap_lt h1
    have hh : (M.w.heap.setIfInBounds (μ q) (.cells (c.setIfInBounds 0 (.pointer (some ⟨μ q, 0, none⟩))) (ρ.t 72) fz))[μ q]? = some (.cells (c.setIfInBounds 0 (.pointer (some ⟨μ q, 0, none⟩))) (ρ.t 72) fz) := by simp [hlt]
    have e1 : (c.setIfInBounds 0 (.pointer (some ⟨μ q, 0, none⟩)))[1]? = some (c[1]'(by omega)) := by
      rw [Array.getElem?_setIfInBounds, if_neg (by decide), Array.getElem?_eq_getElem (by omega)]
    have e0 : (c.setIfInBounds 0 (.pointer (some ⟨μ q, 0, none⟩)))[0]? = some (Value.pointer (some ⟨μ q, 0, none⟩)) := by
      rw [Array.getElem?_setIfInBounds, if_pos rfl, if_pos (by omega)]
    have e2 : (c.setIfInBounds 0 (.pointer (some ⟨μ q, 0, none⟩))).size = c.size := by simp
    generalize c.setIfInBounds 0 (.pointer (some ⟨μ q, 0, none⟩)) = c2 at hh e0 e1 e2 t
    refine ⟨by simp, fun _ _ => ⟨⟨c2, ρ.t 72, fz, hh, by rw [e2]; exact h2, by rw [e2]; exact h3, fun i i1 i2 => ⟨?_, by simp⟩⟩, h5, h6, h7⟩, fun _ h => nomatch h⟩
    have i1' : i < 2 := i1
    match i, i1' with
    | 0, _ =>
      have g0 : c2[0]'i2 = Value.pointer (some ⟨μ q, 0, none⟩) := Option.some.inj ((Array.getElem?_eq_getElem i2).symm.trans e0)
      exact ⟨g0, ⟨c2, fz, hh, e2.trans hs2⟩, h7⟩
    | 1, _ =>
      have g1 : c2[1]'i2 = c[1]'(by omega) := Option.some.inj ((Array.getElem?_eq_getElem i2).symm.trans e1)
      rw [g1]
      exact (h4 1 (by simp) (by omega)).1.trans t (fun q _ => rfl)
/-- String of bytes: the builder and its bytes are left. -/
theorem fnOkB_string (L : Lays.n169 C.P ρ) (X : Builder.Extra C.P ρ) (hc : callable C.P (ρ.f 169)) {l : List UInt8} {pub : Nat} (h0 : l ≠ []) (hmax : l.length ≤ 140737488355328)
    (hpre : pre b = some ⟨[.bself (ρ.t 72) b u, .tsl (ρ.t 5) B l.length false], 0, false, false, none⟩) (hpB : pre B = some ⟨l.map fun x => AC.lit (.int .u8 x.toNat), pub, false, false, none⟩) :
    FnOkB C (ρ.f 169) [.c (.ptr b 0)] pre (.c (.lit (.string ⟨l.toArray⟩))) [(b, none), (B, none)] := by
  have hpost : ∀ q, postOf [(b, (none : Option Box)), (B, none)] q = none := fun q => by
    unfold postOf
    simp only [List.lookup]
    repeat' split
    all_goals rfl
  refine FnOkB.of_fixed hc (fun q hq hl => ?_) ?_
  · rw [hpost] at hl; cases hl
  intro μ M vs wf hsz hrep hbx hd
  rw [one_arg hsz hrep]
  obtain ⟨⟨c, T, fz, h1, h2, h3, h4⟩, h5, h6, h7⟩ := (hbx b (by simp [wrOf]) _ hpre).2.1 rfl rfl
  have h3 : 2 ≤ c.size := h3
  have hRB := (hbx B (by simp [wrOf]) _ hpB).2.1 rfl rfl
  have hRB0 := hRB
  obtain ⟨⟨cB, TB, fB, g1, g2, g3, g4⟩, g5, g6, g7⟩ := hRB
  obtain ⟨cap, c', fz', hv, hcap, hb', hsz', hs'⟩ := (h4 1 (by simp) (by omega)).1
  rw [g1] at hb'
  cases hb'
  have g3 : l.length ≤ cB.size := by simpa using g3
  have hc1 : M.w.cell? ⟨μ b, 1, none⟩ = some (.slice (some ⟨μ B, 0, none⟩) l.length cap) := by
    rw [cell_of h1, Array.getElem?_eq_getElem (by omega), hv]
  refine (str_walk L X (μ b) (μ B) cap cB.size l M.w hc1 h0 hcap hmax (by simp [World.shape?, g1]) g3 (fun j x hx => ?_)).mono ?_
  · have hj := (List.getElem?_eq_some_iff.1 hx).1
    have e := (g4 j (by simpa using hj) (by omega)).1
    have e2 : cB[j]'(by omega) = .int .u8 x.toNat := by
      have hx2 := (List.getElem?_eq_some_iff.1 hx).2
      simp only [List.getElem_map, hx2] at e
      exact RepI.lit_eq e
    have ea : (⟨μ B, 0, none⟩ : Addr).add j = ⟨μ B, j, none⟩ := by rw [addr_add, Nat.zero_add]
    rw [ea, cell_of g1, Array.getElem?_eq_getElem (by omega), e2]
  · rintro e w' ⟨rfl, rfl⟩
    have t := write_trans' (C := C) (pre := pre) wf hpB rfl hRB0 g1 (c' := cB) (fz' := if fB.1 == fB.2 then (0, 0 + l.length) else (min fB.1 0, max fB.2 (0 + l.length))) rfl (fun _ _ => rfl)
    have hl0 : l.length ≠ 0 := by simpa using h0
    have hw : (M.w.drew.freeze ⟨μ B, 0, none⟩ l.length).heap = M.w.heap.setIfInBounds (μ B) (.cells cB (ρ.t 5) (if fB.1 == fB.2 then (0, 0 + l.length) else (min fB.1 0, max fB.2 (0 + l.length)))) := by
      unfold World.freeze
      rw [if_neg hl0]
      obtain ⟨lo, hi⟩ := fB
      dsimp only
      rw [modify_cells (h := M.w.drew.heap) g1]
      rfl
    have hrest : (M.w.drew.freeze ⟨μ B, 0, none⟩ l.length).os = M.w.os ∧ (M.w.drew.freeze ⟨μ B, 0, none⟩ l.length).tape = M.w.tape ∧ (M.w.drew.freeze ⟨μ B, 0, none⟩ l.length).output = M.w.output := by
      unfold World.freeze
      rw [if_neg hl0]
      exact ⟨rfl, rfl, rfl⟩
    refine ⟨_, { M with w := M.w.drew.freeze ⟨μ B, 0, none⟩ l.length }, rfl, rfl, RepI.lit _, (t.world _ hw hrest.1 hrest.2.1 hrest.2.2).more (by simp [wrOf]), ?_⟩
    intro q _ bx hq
    rw [hpost] at hq; cases hq
/-- String of a builder that nothing was written to. -/
theorem fnOkB_string0 (L : Lays.n169 C.P ρ) (X : Builder.Extra C.P ρ) (hc : callable C.P (ρ.f 169)) (ha : a = .lit (.slice none 0 0) ∨ ∃ T B, a = .tsl T B 0 true)
    (hpre : pre b = some ⟨[.bself (ρ.t 72) b u, a], 0, false, false, none⟩) : FnOkB C (ρ.f 169) [.c (.ptr b 0)] pre (.c (.lit (.string ⟨#[]⟩))) [(b, none)] := by
  have hpost : ∀ q, postOf [(b, (none : Option Box))] q = none := fun q => by
    unfold postOf
    simp only [List.lookup]
    repeat' split
    all_goals rfl
  refine FnOkB.of_fixed hc (fun q hq hl => ?_) ?_
  · rw [hpost] at hl; cases hl
  intro μ M vs wf hsz hrep hbx hd
  rw [one_arg hsz hrep]
  obtain ⟨⟨c, T, fz, h1, h2, h3, h4⟩, h5, h6, h7⟩ := (hbx b (by simp [wrOf]) _ hpre).2.1 rfl rfl
  have h3 : 2 ≤ c.size := h3
  have hv : c[1]'(by omega) = .slice none 0 0 := by
    have h := (h4 1 (by simp) (by omega)).1
    rcases ha with rfl | ⟨T, B, rfl⟩
    · exact RepI.lit_eq h
    · exact h.2
  have hc1 : M.w.cell? ⟨μ b, 1, none⟩ = some (.slice none 0 0) := by
    rw [cell_of h1, Array.getElem?_eq_getElem (by omega), hv]
  refine (str_walk0 L X (μ b) M.w hc1).mono ?_
  rintro e w' ⟨rfl, rfl⟩
  refine ⟨_, { M with w := M.w.drew }, rfl, rfl, RepI.lit _, (Trans.same pre μ M wf M.w.drew rfl rfl rfl rfl).weaken, ?_⟩
  intro q _ bx hq
  rw [hpost] at hq; cases hq
theorem FnOkB.also {k : FuncId} {args : List AV} {r : AV} (h : FnOkB C k args pre r [(b, none)]) (B : Nat) : FnOkB C k args pre r [(b, none), (B, none)] := by
  refine FnOkB.conv h (fun q hq => by simp [wrOf] at hq ⊢; exact .inl hq) (fun q _ => ?_) (fun q _ bx e => ?_)
  · cases pre q with
    | none => trivial
    | some x => exact ⟨rfl, fun _ _ h => h⟩
  · exfalso
    revert e
    unfold postOf
    simp only [List.lookup]
    repeat' split
    all_goals (intro e; cases e)
end
end Go.Sy
