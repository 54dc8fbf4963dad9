/-
  A line of data, as it is written: two numbers, blanks between, blanks and a note behind.
-/
import Derived.Test.YtldofkogmkfpjaaGreatDoorWPDecLaw
namespace Go.Sy
set_option linter.unusedVariables false
theorem tw_app {p : UInt8 → Bool} {x y : List UInt8} (h : x.all p = true) : (x ++ y).takeWhile p = x ++ y.takeWhile p := by
  rw [List.all_eq_true] at h
  exact List.takeWhile_append_of_pos h
theorem dw_app {p : UInt8 → Bool} {x y : List UInt8} (h : x.all p = true) : (x ++ y).dropWhile p = y.dropWhile p := by
  rw [List.all_eq_true] at h
  exact List.dropWhile_append_of_pos h
theorem tw_stop {p : UInt8 → Bool} {y : List UInt8} (h : y = [] ∨ p (y.getD 0 0) = false) : y.takeWhile p = [] ∧ y.dropWhile p = y := by
  cases y with
  | nil => exact ⟨rfl, rfl⟩
  | cons c y =>
    have h : p c = false := by rcases h with h | h; · cases h
                               · simpa using h
    exact ⟨by rw [List.takeWhile_cons, h]; rfl, by rw [List.dropWhile_cons, h]; rfl⟩
theorem getD_app {x y : List UInt8} (h : x ≠ []) : (x ++ y).getD 0 0 = x.getD 0 0 := by
  cases x with
  | nil => exact absurd rfl h
  | cons c x => rfl
theorem okN_dec {n : Nat} (h : n < 1000000000000000000) : okN (Lib.decDigits n) = true := by
  obtain ⟨h1, h2, h3, h4⟩ := dec_all n
  have hl := dec_len (k := 17) (r := n) (by omega)
  unfold okN
  rw [decide_eq_false h3, decide_eq_true (show (Lib.decDigits n).length ≤ 18 by omega)]
  by_cases h0 : (Lib.decDigits n).getD 0 0 = 48
  · have := h4 h0; subst this
    simp [dec_small]
  · rw [decide_eq_false h0]; rfl
theorem dig_first {n : Nat} : isDig ((Lib.decDigits n).getD 0 0) = true ∧ isBl ((Lib.decDigits n).getD 0 0) = false ∧ (Lib.decDigits n).getD 0 0 ≠ 35 := by
  obtain ⟨h1, h2, h3, h4⟩ := dec_all n
  cases hd : Lib.decDigits n with
  | nil => exact absurd hd h3
  | cons c l =>
    rw [hd, List.all_cons, Bool.and_eq_true] at h1
    have h := h1.1
    refine ⟨h, ?_, ?_⟩
    · unfold isDig at h
      simp only [Bool.and_eq_true, decide_eq_true_eq] at h
      unfold isBl
      rw [List.getD_cons_zero, decide_eq_false (fun e => by rw [e] at h; exact absurd h.1 (by decide)), decide_eq_false (fun e => by rw [e] at h; exact absurd h.1 (by decide))]; rfl
    · intro e
      rw [List.getD_cons_zero] at e
      rw [e] at h; cases h
theorem bl_not_dig {c : UInt8} (h : isBl c = true) : isDig c = false := by
  unfold isBl at h
  rw [Bool.or_eq_true, decide_eq_true_eq, decide_eq_true_eq] at h
  rcases h with rfl | rfl <;> rfl
theorem data_scan {a b : Nat} (ha : a < 1000000000000000000) (hb : b < 1000000000000000000) {u v w : List UInt8} (hu : u.all isBl = true) (hu0 : u ≠ []) (hv : v.all isBl = true) (hw : w = [] ∨ (v ≠ [] ∧ w.getD 0 0 = 35)) :
    scanP (Lib.decDigits a ++ (u ++ (Lib.decDigits b ++ (v ++ w)))) = some ⟨5, a, b, [0, 0, 0, 0, 0]⟩ := by
  obtain ⟨a1, a2, a3, a4⟩ := dec_all a
  obtain ⟨b1, b2, b3, b4⟩ := dec_all b
  have fa := dig_first (n := a)
  have fb := dig_first (n := b)
  have ub : isBl (u.getD 0 0) = true := by
    cases u with
    | nil => exact absurd rfl hu0
    | cons c u => rw [List.all_cons, Bool.and_eq_true] at hu; exact hu.1
  have s1 : (u ++ (Lib.decDigits b ++ (v ++ w))).takeWhile isDig = [] ∧ (u ++ (Lib.decDigits b ++ (v ++ w))).dropWhile isDig = u ++ (Lib.decDigits b ++ (v ++ w)) :=
    tw_stop (.inr (by rw [getD_app hu0]; exact bl_not_dig ub))
  have s2 : (Lib.decDigits b ++ (v ++ w)).takeWhile isBl = [] ∧ (Lib.decDigits b ++ (v ++ w)).dropWhile isBl = Lib.decDigits b ++ (v ++ w) :=
    tw_stop (.inr (by rw [getD_app b3]; exact fb.2.1))
  have w35 : w = [] ∨ (isDig (w.getD 0 0) = false ∧ isBl (w.getD 0 0) = false) := by
    rcases hw with h | ⟨_, h⟩
    · exact .inl h
    · rw [h]; exact .inr ⟨rfl, rfl⟩
  have s3 : (v ++ w).takeWhile isDig = [] ∧ (v ++ w).dropWhile isDig = v ++ w := by
    refine tw_stop ?_
    cases v with
    | nil => rcases w35 with h | h
             · exact .inl h
             · exact .inr h.1
    | cons c v => rw [List.all_cons, Bool.and_eq_true] at hv; exact .inr (bl_not_dig hv.1)
  have s4 : w.takeWhile isBl = [] ∧ w.dropWhile isBl = w := tw_stop (by rcases w35 with h | h; · exact .inl h
                                                                        · exact .inr h.2)
  have hall : (Lib.decDigits a ++ (u ++ (Lib.decDigits b ++ (v ++ w)))).all isBl = false := by
    cases hd : Lib.decDigits a with
    | nil => exact absurd hd a3
    | cons c l => rw [hd] at fa; rw [List.cons_append, List.all_cons, show isBl c = false from fa.2.1]; rfl
  unfold scanP
  rw [getD_app a3, if_neg fa.2.2, hall, if_neg (by decide)]
  unfold dataP
  dsimp only
  rw [tw_app a1, dw_app a1, s1.1, s1.2, List.append_nil, dw_app hu, s2.2, tw_app b1, dw_app b1, s3.1, s3.2, List.append_nil, dw_app hv, s4.2, okN_dec ha, okN_dec hb, a2, b2]
  rw [if_pos]
  have hlt : (Lib.decDigits b ++ (v ++ w)).length < (u ++ (Lib.decDigits b ++ (v ++ w))).length := by
    rw [List.length_append (as := u)]
    have : u.length ≠ 0 := fun e => hu0 (List.length_eq_zero_iff.1 e)
    omega
  rw [decide_eq_true hlt]
  rcases hw with h | ⟨h, h2⟩
  · rw [decide_eq_true h]; rfl
  · have : v.length ≠ 0 := fun e => h (List.length_eq_zero_iff.1 e)
    rw [decide_eq_true h2, decide_eq_true (show w.length < (v ++ w).length by rw [List.length_append]; omega)]; simp
end Go.Sy
