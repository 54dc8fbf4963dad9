/-
  Layer 29: the requests that a claim opens can be told.
-/
import Derived.Test.YtldofkogmkfpjaaGreatDoorWSyReq
import Derived.Test.YtldofkogmkfpjaaGreatDoorWSyB
import Derived.Test.YtldofkogmkfpjaaGreatDoorWPScrE
namespace Go.Sy
open Go Go.Ev
set_option linter.unusedVariables false
set_option linter.unusedSimpArgs false
theorem cons_of {r : List D} {n : Nat} (h : r.length = n + 1) : ∃ x t, r = x :: t ∧ t.length = n := by
  cases r with
  | nil => simp at h
  | cons x t => exact ⟨x, t, rfl, by simpa using h⟩
theorem wt_sum (n : Nat) : 1 + (1 + (1 + (1 + (1 + (1 + (1 + (1 + (1 + (1 + (1 + (1 + (1 + ((n + 1) + (1 + (1 + (1 + (1 + (1 + (1 + (1 + 0)))))))))))))))))))) = 21 + n := by omega
theorem wtL_KR {r : List D} (h : r.length = 21) : wtL KR r = 21 + (rD r).length := by
  obtain ⟨x0, t0, e0, h1⟩ := cons_of (n := 20) h
  obtain ⟨x1, t1, e1, h2⟩ := cons_of (n := 19) h1
  obtain ⟨x2, t2, e2, h3⟩ := cons_of (n := 18) h2
  obtain ⟨x3, t3, e3, h4⟩ := cons_of (n := 17) h3
  obtain ⟨x4, t4, e4, h5⟩ := cons_of (n := 16) h4
  obtain ⟨x5, t5, e5, h6⟩ := cons_of (n := 15) h5
  obtain ⟨x6, t6, e6, h7⟩ := cons_of (n := 14) h6
  obtain ⟨x7, t7, e7, h8⟩ := cons_of (n := 13) h7
  obtain ⟨x8, t8, e8, h9⟩ := cons_of (n := 12) h8
  obtain ⟨x9, t9, e9, h10⟩ := cons_of (n := 11) h9
  obtain ⟨x10, t10, e10, h11⟩ := cons_of (n := 10) h10
  obtain ⟨x11, t11, e11, h12⟩ := cons_of (n := 9) h11
  obtain ⟨x12, t12, e12, h13⟩ := cons_of (n := 8) h12
  obtain ⟨x13, t13, e13, h14⟩ := cons_of (n := 7) h13
  obtain ⟨x14, t14, e14, h15⟩ := cons_of (n := 6) h14
  obtain ⟨x15, t15, e15, h16⟩ := cons_of (n := 5) h15
  obtain ⟨x16, t16, e16, h17⟩ := cons_of (n := 4) h16
  obtain ⟨x17, t17, e17, h18⟩ := cons_of (n := 3) h17
  obtain ⟨x18, t18, e18, h19⟩ := cons_of (n := 2) h18
  obtain ⟨x19, t19, e19, h20⟩ := cons_of (n := 1) h19
  obtain ⟨x20, t20, e20, h21⟩ := cons_of (n := 0) h20
  have e := List.length_eq_zero_iff.1 h21
  subst e0
  subst e1
  subst e2
  subst e3
  subst e4
  subst e5
  subst e6
  subst e7
  subst e8
  subst e9
  subst e10
  subst e11
  subst e12
  subst e13
  subst e14
  subst e15
  subst e16
  subst e17
  subst e18
  subst e19
  subst e20
  subst e
  exact wt_sum x13.toL.length
def WfR (r : List D) : Prop := r.length = KR.length ∧ ∀ (i : Nat) (hi : i < KR.length), KR[i].wfK (r.getD i (.i 0))
theorem okR_of {r : List D} (h : WfR r) (hd : (rD r).length ≤ 100000000) : okR r := by
  have hI : ∀ i (hi : i < KR.length), KR[i] = .int .i64 → isH (rI r i) := fun i hi e => by
    have := h.2 i hi
    rw [e] at this
    have := wf_i64 this
    unfold isH rI; exact this
  have hU : ∀ i (hi : i < KR.length), KR[i] = .int .u64 → isW (rI r i) := fun i hi e => by
    have := h.2 i hi
    rw [e] at this
    have := wf_u64 this
    unfold isW rI; exact this
  have hB : ∀ n ∈ rD r, (Lit.int .u8 n).wf = true := (h.2 13 (by decide)).2
  have hf : isH (flagI (r.getD 9 (.i 0)).toB) := by unfold flagI isH; split <;> omega
  refine ⟨?_, ⟨hI 3 (by decide) rfl, hU 4 (by decide) rfl⟩, ⟨hI 14 (by decide) rfl, hU 15 (by decide) rfl⟩, ⟨hI 16 (by decide) rfl, hU 17 (by decide) rfl⟩, ?_, hd⟩
  · rw [List.all_eq_true]
    intro x hx
    unfold rN at hx
    simp only [List.mem_cons, List.not_mem_nil, or_false] at hx
    rcases hx with rfl | rfl | rfl | rfl | rfl | rfl | rfl | rfl | rfl | rfl | rfl | rfl | rfl | rfl
    · exact decide_eq_true (hI 0 (by decide) rfl)
    · exact decide_eq_true (hI 1 (by decide) rfl)
    · exact decide_eq_true (hI 2 (by decide) rfl)
    · exact decide_eq_true (hI 8 (by decide) rfl)
    · exact decide_eq_true hf
    · exact decide_eq_true (hI 10 (by decide) rfl)
    · exact decide_eq_true (hI 11 (by decide) rfl)
    · exact decide_eq_true (hI 12 (by decide) rfl)
    · exact decide_eq_true (hI 5 (by decide) rfl)
    · exact decide_eq_true (hI 6 (by decide) rfl)
    · exact decide_eq_true (hI 7 (by decide) rfl)
    · exact decide_eq_true (hI 18 (by decide) rfl)
    · exact decide_eq_true (hI 19 (by decide) rfl)
    · exact decide_eq_true (hI 20 (by decide) rfl)
  · unfold bytesOk
    rw [List.all_eq_true]
    intro x hx
    have := wf_u8 (hB x hx)
    rw [Bool.and_eq_true, decide_eq_true_eq, decide_eq_true_eq]
    exact this
theorem reqs_ok : ∀ {L : List (List D)}, (∀ r ∈ L, WfR r) → (L.map (wtL KR)).sum ≤ 1048576 → allR L ∧ (prnQ L).length ≤ 39 * (L.map (wtL KR)).sum ∧ L.length ≤ (L.map (wtL KR)).sum
  | [], _, _ => ⟨(fun r hr => by cases hr), Nat.zero_le _, Nat.zero_le _⟩
  | r :: L, h, hb => by
    rw [List.map_cons, List.sum_cons] at hb ⊢
    obtain ⟨i1, i2, i3⟩ := reqs_ok (L := L) (fun x hx => h x (List.mem_cons_of_mem _ hx)) (by omega)
    have hr := h r (List.mem_cons_self ..)
    have hw := wtL_KR hr.1
    have ho := okR_of hr (by omega)
    have hl := (lnR_len ho).1
    refine ⟨fun x hx => ?_, ?_, by rw [List.length_cons]; omega⟩
    · rcases List.mem_cons.1 hx with rfl | hx
      · exact ho
      · exact i1 x hx
    · have e : prnQ (r :: L) = lnR r ++ prnQ L := rfl
      rw [e, List.length_append]
      omega
end Go.Sy
