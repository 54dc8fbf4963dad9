/-
  The contracts of the laws of layer 5 (greg) about dates.
-/
import Derived.Test.YtnhdfmnmciminaaDoorT5
namespace Go.Proofs.YtnhdfmnmciminaaDoor
open Go Go.Ev
set_option linter.unusedSimpArgs false
set_option linter.unusedVariables false
set_option maxRecDepth 10000
set_option maxHeartbeats 4000000
theorem uniq {y m d n : Int} (ok : dateOk y m d = true) (h : rdayM y m d = n) : y = gY n ∧ m = gM n ∧ d = gD n := by
  obtain ⟨h1, h2, h3, h4, h5, h6, h7⟩ := date_in n
  have hm := dateOk_m ok
  have hd : 1 ≤ d ∧ d ≤ lenM y m := by rw [dateOk, decide_eq_true_eq] at ok; exact ok
  have he := year_end y m ⟨hm.1, hm.2.1⟩
  have hf := first_next y
  have hs := sumL_in y m
  unfold rdayM at h
  have hy : y = gY n := by
    rcases Int.lt_trichotomy y (gY n) with h' | h' | h'
    · have := first_mono (show y + 1 ≤ gY n by omega); omega
    · exact h'
    · have := first_mono (show gY n + 1 ≤ y by omega); omega
  subst hy
  have hmm : m = gM n := by
    rcases Int.lt_trichotomy m (gM n) with h' | h' | h'
    · have e1 := sumL_next (gY n) m (by omega)
      have e2 := sumL_mono (gY n) (gM n - (m + 1)).toNat (m + 1) (by omega) (by omega)
      rw [show m + 1 + (((gM n - (m + 1)).toNat : Nat) : Int) = gM n by omega] at e2
      omega
    · exact h'
    · have e1 := sumL_next (gY n) (gM n) (by omega)
      have e2 := sumL_mono (gY n) (m - (gM n + 1)).toNat (gM n + 1) (by omega) (by omega)
      rw [show gM n + 1 + (((m - (gM n + 1)).toNat : Nat) : Int) = m by omega] at e2
      omega
  subst hmm
  omega
theorem dayE_date {n : Int} (hp : inR n = true) : dayE (gY n) (gM n) (gD n) = 0 := by
  have hg := gY_in hp
  rw [dayE, date_ok, date_day, hp]; simp; omega
theorem dayN_date {n : Int} (hp : inR n = true) : dayN (gY n) (gM n) (gD n) = n := by
  rw [dayN, if_pos (dayE_date hp), date_day]
theorem dt_t {n : Int} (hp : inR n = true) : dtY n = gY n ∧ dtM n = gM n ∧ dtD n = gD n ∧ dtE n = 0 := by simp [dtY, dtM, dtD, dtE, hp]
theorem dt_f {n : Int} (hp : inR n = false) : dtY n = 0 ∧ dtM n = 0 ∧ dtD n = 0 ∧ dtE n = 2 := by simp [dtY, dtM, dtD, dtE, hp]
theorem long_400 (y : Int) : longY (y + 400) = longY y := by unfold longY; rw [decide_eq_decide]; omega
theorem ok_400 (y m d : Int) : dateOk (y + 400) m d = dateOk y m d := by
  have e : lenM (y + 400) m = lenM y m := by unfold lenM; rw [long_400]
  unfold dateOk; rw [e]
theorem day_400 (y m d : Int) : dayM (y + 400) m d = dayM y m d + 146097 := by
  unfold dayM
  split
  · unfold dayX; omega
  · unfold dayX; omega
theorem dayE_0 {y m d : Int} (h : dayE y m d = 0) : dateOk y m d = true ∧ (-4000000000 ≤ y ∧ y ≤ 4000000000) ∧ (-1099511627776 ≤ dayM y m d ∧ dayM y m d ≤ 1099511627776) ∧ dayN y m d = dayM y m d := by
  have hN : dayN y m d = dayM y m d := by rw [dayN, if_pos h]
  unfold dayE at h
  cases ok : dateOk y m d with
  | false => rw [ok] at h; simp at h
  | true =>
    rw [ok] at h
    simp only [Bool.true_eq_false, if_false] at h
    by_cases hy : y < -4000000000 ∨ 4000000000 < y
    · rw [if_pos hy] at h; simp at h
    · rw [if_neg hy] at h
      cases hi : inR (dayM y m d) with
      | false => rw [hi] at h; simp at h
      | true => exact ⟨rfl, by omega, by simpa [inR] using hi, hN⟩
theorem cycle {y m d : Int} (h : dayE y m d = 0) (hy : ¬ 2147483648 < y) : IntKind.i64.wrap (y + 400) = y + 400 ∧
    ((dayE (y + 400) m d = 0 ∧ dayN (y + 400) m d = dayN y m d + 146097) ∨ (dayE (y + 400) m d = 2 ∧ 1099511481679 < dayN y m d)) := by
  obtain ⟨ok, h1, h2, h3⟩ := dayE_0 h
  refine ⟨i64_in' _ (by omega), ?_⟩
  have h4 := day_400 y m d
  have e : dayE (y + 400) m d = if inR (dayM y m d + 146097) = false then 2 else 0 := by
    rw [dayE, ok_400, ok, h4, if_neg (by simp), if_neg (by omega)]
  cases hi : inR (dayM y m d + 146097) with
  | false =>
    right
    rw [e, hi, h3]
    simp only [inR, decide_eq_false_iff_not] at hi
    exact ⟨rfl, by omega⟩
  | true =>
    left
    rw [hi] at e
    have e' : dayE (y + 400) m d = 0 := by rw [e]; rfl
    exact ⟨e', by rw [dayN, if_pos e', h4, h3]⟩
/-- The next day's date. -/
theorem next_d {n : Int} (h : gD n + 1 ≤ lenM (gY n) (gM n)) : gY n = gY (n + 1) ∧ gM n = gM (n + 1) ∧ gD n + 1 = gD (n + 1) := by
  obtain ⟨h1, h2, h3, h4, h5, _⟩ := date_in n
  exact uniq (by rw [dateOk, decide_eq_true_eq]; omega) (by unfold rdayM; omega)
theorem next_m {n : Int} (h : ¬ gD n + 1 ≤ lenM (gY n) (gM n)) (hm : gM n < 12) : gY n = gY (n + 1) ∧ gM n + 1 = gM (n + 1) ∧ 1 = gD (n + 1) := by
  obtain ⟨h1, h2, h3, h4, h5, _⟩ := date_in n
  have e := sumL_next (gY n) (gM n) (by omega)
  refine uniq ?_ (by unfold rdayM; omega)
  rw [dateOk, decide_eq_true_eq]
  refine ⟨by omega, ?_⟩
  unfold lenM
  rw [if_neg (by omega)]
  repeat' split
  all_goals omega
theorem next_y {n : Int} (h : ¬ gD n + 1 ≤ lenM (gY n) (gM n)) (hm : ¬ gM n < 12) : gY n + 1 = gY (n + 1) ∧ 1 = gM (n + 1) ∧ 1 = gD (n + 1) := by
  obtain ⟨h1, h2, h3, h4, h5, _⟩ := date_in n
  have em : gM n = 12 := by omega
  rw [em] at h h4 h5
  have l12 : lenM (gY n) 12 = 31 := by simp [lenM]
  have s12 : sumL (gY n) 12 = 334 + (if longY (gY n) = true then 1 else 0) := by simp [sumL]
  have hf := first_next (gY n)
  have s1 := sumL_one (gY n + 1)
  exact uniq (by rw [dateOk, decide_eq_true_eq]; simp [lenM]) (by unfold rdayM; omega)

theorem ldates_ok (n : Int) : FnOk cfg 5 [I n] (B true) := by
  cases hr : inR n with
  | false =>
    obtain ⟨z1, z2, z3, z4⟩ := dt_f hr
    refine fnOk_eval [(17, gdateG), (18, rinG), (8, ansG), (15, gdayG), (19, rdateG), (13, gvalidG)] (good_cons gdate_good (good_cons rin_good (good_cons ans_good (good_cons gday_good (good_cons rdate_good (good_cons gvalid_good good_nil)))))) mixed Tryd.func5 rfl rfl Tryd.ntmps5 (congrArg Array.toList Tryd.results5) (by simp) (by rfl) (by rfl) ?_
    simp only [hr, z1, z2, z3, z4, go_sem, Nat.reduceAdd, Nat.reduceLT, Nat.reduceBEq, Nat.reduceEqDiff, reduceIte, reduceCtorEq, Nat.reduceLeDiff, Int.reduceEq, Int.reduceLT, Int.reduceLE, decide_true, decide_false, Int.reduceSub, Int.reduceAdd, Int.reduceMul, Int.reduceNeg, Int.reduceToNat, Nat.reduceMul, Nat.reduceSub, Int.cast_ofNat_Int, Int.reduceMod, Int.reduceDiv, Int.reduceTDiv, Int.reduceTMod]
    repeat' (first
      | ((with_reducible refine split_guard ?_ ?_) <;> intro hb <;> simp only [hb, hr, z1, z2, z3, z4, go_sem, Nat.reduceAdd, Nat.reduceLT, Nat.reduceBEq, Nat.reduceEqDiff, reduceIte, reduceCtorEq, Nat.reduceLeDiff, Int.reduceEq, Int.reduceLT, Int.reduceLE, decide_true, decide_false, Int.reduceSub, Int.reduceAdd, Int.reduceMul, Int.reduceNeg, Int.reduceToNat, Nat.reduceMul, Nat.reduceSub, Int.cast_ofNat_Int, Int.reduceMod, Int.reduceDiv, Int.reduceTDiv, Int.reduceTMod])
      | ((with_reducible refine split_cond ?_ ?_) <;> intro hb <;> simp only [hb, hr, z1, z2, z3, z4, go_sem, Nat.reduceAdd, Nat.reduceLT, Nat.reduceBEq, Nat.reduceEqDiff, reduceIte, reduceCtorEq, Nat.reduceLeDiff, Int.reduceEq, Int.reduceLT, Int.reduceLE, decide_true, decide_false, Int.reduceSub, Int.reduceAdd, Int.reduceMul, Int.reduceNeg, Int.reduceToNat, Nat.reduceMul, Nat.reduceSub, Int.cast_ofNat_Int, Int.reduceMod, Int.reduceDiv, Int.reduceTDiv, Int.reduceTMod])
      | ((with_reducible refine split_guardY ?_ ?_) <;> intro hb <;> simp only [hb, hr, z1, z2, z3, z4, go_sem, Nat.reduceAdd, Nat.reduceLT, Nat.reduceBEq, Nat.reduceEqDiff, reduceIte, reduceCtorEq, Nat.reduceLeDiff, Int.reduceEq, Int.reduceLT, Int.reduceLE, decide_true, decide_false, Int.reduceSub, Int.reduceAdd, Int.reduceMul, Int.reduceNeg, Int.reduceToNat, Nat.reduceMul, Nat.reduceSub, Int.cast_ofNat_Int, Int.reduceMod, Int.reduceDiv, Int.reduceTDiv, Int.reduceTMod])
      | (with_reducible refine and_order (by kernel_rfl) (by kernel_rfl) ?_)
      | (with_reducible exact orderOk_of (by kernel_rfl) (by kernel_rfl))
      | (with_reducible refine and_nomen ?_ ?_)
      | (with_reducible refine nomen_p (by kernel_rfl) ?_)
      | (with_reducible refine nomen_s (by kernel_rfl) ?_)
      | (with_reducible refine nomen_p0 (by kernel_rfl) ?_)
      | (with_reducible exact nomen_i (by kernel_rfl))
      | (with_reducible refine And.intro (by first | assumption | omega | (simp only [Bool.not_eq_true', Bool.not_eq_false', Bool.and_eq_true, Bool.and_eq_false_iff, decide_eq_true_eq, decide_eq_false_iff_not, Bool.or_eq_true, Bool.or_eq_false_iff, Bool.not_true, Bool.not_false, Bool.false_eq_true, false_iff, true_iff, bne_iff_ne, beq_iff_eq, ne_eq, iff_true, iff_false, not_and, not_or] at *; omega)) ?_)
      | ((with_reducible refine le_put ?_ ?_) <;> (try simp only [hr, z1, z2, z3, z4, go_sem, Nat.reduceAdd, Nat.reduceLT, Nat.reduceBEq, Nat.reduceEqDiff, reduceIte, reduceCtorEq, Nat.reduceLeDiff, Int.reduceEq, Int.reduceLT, Int.reduceLE, decide_true, decide_false, Int.reduceSub, Int.reduceAdd, Int.reduceMul, Int.reduceNeg, Int.reduceToNat, Nat.reduceMul, Nat.reduceSub, Int.cast_ofNat_Int, Int.reduceMod, Int.reduceDiv, Int.reduceTDiv, Int.reduceTMod]))
      | ((with_reducible refine le_box ?_ ?_) <;> (try simp only [hr, z1, z2, z3, z4, go_sem, Nat.reduceAdd, Nat.reduceLT, Nat.reduceBEq, Nat.reduceEqDiff, reduceIte, reduceCtorEq, Nat.reduceLeDiff, Int.reduceEq, Int.reduceLT, Int.reduceLE, decide_true, decide_false, Int.reduceSub, Int.reduceAdd, Int.reduceMul, Int.reduceNeg, Int.reduceToNat, Nat.reduceMul, Nat.reduceSub, Int.cast_ofNat_Int, Int.reduceMod, Int.reduceDiv, Int.reduceTDiv, Int.reduceTMod]))
      | (with_reducible exact le_base rfl)
      | (with_reducible exact nomen_b))
  | true =>
    obtain ⟨z1, z2, z3, z4⟩ := dt_t hr
    have z5 := dayE_date hr
    have z6 := dayN_date hr
    have z7 := date_ok n
    refine fnOk_eval [(17, gdateG), (18, rinG), (8, ansG), (15, gdayG), (19, rdateG), (13, gvalidG)] (good_cons gdate_good (good_cons rin_good (good_cons ans_good (good_cons gday_good (good_cons rdate_good (good_cons gvalid_good good_nil)))))) mixed Tryd.func5 rfl rfl Tryd.ntmps5 (congrArg Array.toList Tryd.results5) (by simp) (by rfl) (by rfl) ?_
    simp only [hr, z1, z2, z3, z4, z5, z6, z7, rdateG_eq n hr, go_sem, Nat.reduceAdd, Nat.reduceLT, Nat.reduceBEq, Nat.reduceEqDiff, reduceIte, reduceCtorEq, Nat.reduceLeDiff, Int.reduceEq, Int.reduceLT, Int.reduceLE, decide_true, decide_false, Int.reduceSub, Int.reduceAdd, Int.reduceMul, Int.reduceNeg, Int.reduceToNat, Nat.reduceMul, Nat.reduceSub, Int.cast_ofNat_Int, Int.reduceMod, Int.reduceDiv, Int.reduceTDiv, Int.reduceTMod]
    repeat' (first
      | ((with_reducible refine split_guard ?_ ?_) <;> intro hb <;> simp only [hb, hr, z1, z2, z3, z4, z5, z6, z7, rdateG_eq n hr, go_sem, Nat.reduceAdd, Nat.reduceLT, Nat.reduceBEq, Nat.reduceEqDiff, reduceIte, reduceCtorEq, Nat.reduceLeDiff, Int.reduceEq, Int.reduceLT, Int.reduceLE, decide_true, decide_false, Int.reduceSub, Int.reduceAdd, Int.reduceMul, Int.reduceNeg, Int.reduceToNat, Nat.reduceMul, Nat.reduceSub, Int.cast_ofNat_Int, Int.reduceMod, Int.reduceDiv, Int.reduceTDiv, Int.reduceTMod])
      | ((with_reducible refine split_cond ?_ ?_) <;> intro hb <;> simp only [hb, hr, z1, z2, z3, z4, z5, z6, z7, rdateG_eq n hr, go_sem, Nat.reduceAdd, Nat.reduceLT, Nat.reduceBEq, Nat.reduceEqDiff, reduceIte, reduceCtorEq, Nat.reduceLeDiff, Int.reduceEq, Int.reduceLT, Int.reduceLE, decide_true, decide_false, Int.reduceSub, Int.reduceAdd, Int.reduceMul, Int.reduceNeg, Int.reduceToNat, Nat.reduceMul, Nat.reduceSub, Int.cast_ofNat_Int, Int.reduceMod, Int.reduceDiv, Int.reduceTDiv, Int.reduceTMod])
      | ((with_reducible refine split_guardY ?_ ?_) <;> intro hb <;> simp only [hb, hr, z1, z2, z3, z4, z5, z6, z7, rdateG_eq n hr, go_sem, Nat.reduceAdd, Nat.reduceLT, Nat.reduceBEq, Nat.reduceEqDiff, reduceIte, reduceCtorEq, Nat.reduceLeDiff, Int.reduceEq, Int.reduceLT, Int.reduceLE, decide_true, decide_false, Int.reduceSub, Int.reduceAdd, Int.reduceMul, Int.reduceNeg, Int.reduceToNat, Nat.reduceMul, Nat.reduceSub, Int.cast_ofNat_Int, Int.reduceMod, Int.reduceDiv, Int.reduceTDiv, Int.reduceTMod])
      | (with_reducible refine and_order (by kernel_rfl) (by kernel_rfl) ?_)
      | (with_reducible exact orderOk_of (by kernel_rfl) (by kernel_rfl))
      | (with_reducible refine and_nomen ?_ ?_)
      | (with_reducible refine nomen_p (by kernel_rfl) ?_)
      | (with_reducible refine nomen_s (by kernel_rfl) ?_)
      | (with_reducible refine nomen_p0 (by kernel_rfl) ?_)
      | (with_reducible exact nomen_i (by kernel_rfl))
      | (with_reducible refine And.intro (by first | assumption | omega | (simp only [Bool.not_eq_true', Bool.not_eq_false', Bool.and_eq_true, Bool.and_eq_false_iff, decide_eq_true_eq, decide_eq_false_iff_not, Bool.or_eq_true, Bool.or_eq_false_iff, Bool.not_true, Bool.not_false, Bool.false_eq_true, false_iff, true_iff, bne_iff_ne, beq_iff_eq, ne_eq, iff_true, iff_false, not_and, not_or] at *; omega)) ?_)
      | ((with_reducible refine le_put ?_ ?_) <;> (try simp only [hr, z1, z2, z3, z4, z5, z6, z7, rdateG_eq n hr, go_sem, Nat.reduceAdd, Nat.reduceLT, Nat.reduceBEq, Nat.reduceEqDiff, reduceIte, reduceCtorEq, Nat.reduceLeDiff, Int.reduceEq, Int.reduceLT, Int.reduceLE, decide_true, decide_false, Int.reduceSub, Int.reduceAdd, Int.reduceMul, Int.reduceNeg, Int.reduceToNat, Nat.reduceMul, Nat.reduceSub, Int.cast_ofNat_Int, Int.reduceMod, Int.reduceDiv, Int.reduceTDiv, Int.reduceTMod]))
      | ((with_reducible refine le_box ?_ ?_) <;> (try simp only [hr, z1, z2, z3, z4, z5, z6, z7, rdateG_eq n hr, go_sem, Nat.reduceAdd, Nat.reduceLT, Nat.reduceBEq, Nat.reduceEqDiff, reduceIte, reduceCtorEq, Nat.reduceLeDiff, Int.reduceEq, Int.reduceLT, Int.reduceLE, decide_true, decide_false, Int.reduceSub, Int.reduceAdd, Int.reduceMul, Int.reduceNeg, Int.reduceToNat, Nat.reduceMul, Nat.reduceSub, Int.cast_ofNat_Int, Int.reduceMod, Int.reduceDiv, Int.reduceTDiv, Int.reduceTMod]))
      | (with_reducible exact le_base rfl)
      | (with_reducible exact nomen_b))
noncomputable def ldatesG : List AV → Option AV := ofRel fun args r => ∃ (n : Int), args = [I n] ∧ r = B true
@[go_sem] theorem ldatesG_eq (n : Int) : ldatesG [I n] = some (B true) :=
  ofRel_eq ⟨n, rfl, rfl⟩ (by rintro _ ⟨n', e, rfl⟩; simp at e; first | (obtain ⟨rfl⟩ := e; rfl) | (simp [e]))
theorem ldates_good : Good cfg 5 ldatesG := fun args r h => by
  obtain ⟨_, rfl, rfl⟩ := ofRel_some h; exact ⟨ldates_ok _, rfl⟩

theorem lcycle_ok (y : Int) (m : Int) (d : Int) : FnOk cfg 7 [D y m d] (B true) := by
  refine fnOk_eval [(15, gdayG), (8, ansG)] (good_cons gday_good (good_cons ans_good good_nil)) mixed Tryd.func7 rfl rfl Tryd.ntmps7 (congrArg Array.toList Tryd.results7) (by simp) (by rfl) (by rfl) ?_
  simp only [go_sem, Nat.reduceAdd, Nat.reduceLT, Nat.reduceBEq, Nat.reduceEqDiff, reduceIte, reduceCtorEq, Nat.reduceLeDiff, Int.reduceEq, Int.reduceLT, Int.reduceLE, decide_true, decide_false, Int.reduceSub, Int.reduceAdd, Int.reduceMul, Int.reduceNeg, Int.reduceToNat, Nat.reduceMul, Nat.reduceSub, Int.cast_ofNat_Int, Int.reduceMod, Int.reduceDiv, Int.reduceTDiv, Int.reduceTMod]
  repeat' (first
    | ((with_reducible refine split_guard ?_ ?_) <;> intro hb <;> simp only [hb, go_sem, Nat.reduceAdd, Nat.reduceLT, Nat.reduceBEq, Nat.reduceEqDiff, reduceIte, reduceCtorEq, Nat.reduceLeDiff, Int.reduceEq, Int.reduceLT, Int.reduceLE, decide_true, decide_false, Int.reduceSub, Int.reduceAdd, Int.reduceMul, Int.reduceNeg, Int.reduceToNat, Nat.reduceMul, Nat.reduceSub, Int.cast_ofNat_Int, Int.reduceMod, Int.reduceDiv, Int.reduceTDiv, Int.reduceTMod])
    | ((with_reducible refine split_cond ?_ ?_) <;> intro hb <;> simp only [hb, go_sem, Nat.reduceAdd, Nat.reduceLT, Nat.reduceBEq, Nat.reduceEqDiff, reduceIte, reduceCtorEq, Nat.reduceLeDiff, Int.reduceEq, Int.reduceLT, Int.reduceLE, decide_true, decide_false, Int.reduceSub, Int.reduceAdd, Int.reduceMul, Int.reduceNeg, Int.reduceToNat, Nat.reduceMul, Nat.reduceSub, Int.cast_ofNat_Int, Int.reduceMod, Int.reduceDiv, Int.reduceTDiv, Int.reduceTMod])
    | ((with_reducible refine split_guardY ?_ ?_) <;> intro hb <;> simp only [hb, go_sem, Nat.reduceAdd, Nat.reduceLT, Nat.reduceBEq, Nat.reduceEqDiff, reduceIte, reduceCtorEq, Nat.reduceLeDiff, Int.reduceEq, Int.reduceLT, Int.reduceLE, decide_true, decide_false, Int.reduceSub, Int.reduceAdd, Int.reduceMul, Int.reduceNeg, Int.reduceToNat, Nat.reduceMul, Nat.reduceSub, Int.cast_ofNat_Int, Int.reduceMod, Int.reduceDiv, Int.reduceTDiv, Int.reduceTMod])
    | (with_reducible refine and_order (by kernel_rfl) (by kernel_rfl) ?_)
    | (with_reducible exact orderOk_of (by kernel_rfl) (by kernel_rfl))
    | (with_reducible refine and_nomen ?_ ?_)
    | (with_reducible refine nomen_p (by kernel_rfl) ?_)
    | (with_reducible refine nomen_s (by kernel_rfl) ?_)
    | (with_reducible refine nomen_p0 (by kernel_rfl) ?_)
    | (with_reducible exact nomen_i (by kernel_rfl))
    | (with_reducible refine And.intro (by first | assumption | omega | (simp only [Bool.not_eq_true', Bool.not_eq_false', Bool.and_eq_true, Bool.and_eq_false_iff, decide_eq_true_eq, decide_eq_false_iff_not, Bool.or_eq_true, Bool.or_eq_false_iff, Bool.not_true, Bool.not_false, Bool.false_eq_true, false_iff, true_iff, bne_iff_ne, beq_iff_eq, ne_eq, iff_true, iff_false, not_and, not_or] at *; omega)) ?_)
    | ((with_reducible refine le_put ?_ ?_) <;> (try simp only [go_sem, Nat.reduceAdd, Nat.reduceLT, Nat.reduceBEq, Nat.reduceEqDiff, reduceIte, reduceCtorEq, Nat.reduceLeDiff, Int.reduceEq, Int.reduceLT, Int.reduceLE, decide_true, decide_false, Int.reduceSub, Int.reduceAdd, Int.reduceMul, Int.reduceNeg, Int.reduceToNat, Nat.reduceMul, Nat.reduceSub, Int.cast_ofNat_Int, Int.reduceMod, Int.reduceDiv, Int.reduceTDiv, Int.reduceTMod]))
    | ((with_reducible refine le_box ?_ ?_) <;> (try simp only [go_sem, Nat.reduceAdd, Nat.reduceLT, Nat.reduceBEq, Nat.reduceEqDiff, reduceIte, reduceCtorEq, Nat.reduceLeDiff, Int.reduceEq, Int.reduceLT, Int.reduceLE, decide_true, decide_false, Int.reduceSub, Int.reduceAdd, Int.reduceMul, Int.reduceNeg, Int.reduceToNat, Nat.reduceMul, Nat.reduceSub, Int.cast_ofNat_Int, Int.reduceMod, Int.reduceDiv, Int.reduceTDiv, Int.reduceTMod]))
    | (with_reducible exact le_base rfl)
    | (with_reducible exact nomen_b))
  all_goals refine leafB ?_
  all_goals simp only [Bool.not_eq_true', Bool.not_eq_false', Bool.and_eq_true, Bool.and_eq_false_iff, decide_eq_true_eq, decide_eq_false_iff_not, Bool.or_eq_true, Bool.or_eq_false_iff, Bool.not_true, Bool.not_false, Bool.false_eq_true, false_iff, true_iff, bne_iff_ne, beq_iff_eq, ne_eq, iff_true, iff_false, not_and, not_or] at *
  all_goals first
    | (have hc := cycle (y := y) (m := m) (d := d) (by assumption) (by assumption)
       obtain ⟨hw, hc | hc⟩ := hc
       · have h9 : IntKind.i64.wrap (dayN (y + 400) m d - dayN y m d) = 146097 := by
           rw [hc.2, show dayN y m d + 146097 - dayN y m d = 146097 by omega]; exact i64_in' _ (by omega)
         have hc1 := hc.1
         clear hc
         simp_all
       · simp only [hw, hc.1] at *
         first | omega | simp_all)
noncomputable def lcycleG : List AV → Option AV := ofRel fun args r => ∃ (y : Int) (m : Int) (d : Int), args = [D y m d] ∧ r = B true
@[go_sem] theorem lcycleG_eq (y : Int) (m : Int) (d : Int) : lcycleG [D y m d] = some (B true) :=
  ofRel_eq ⟨y, m, d, rfl, rfl⟩ (by rintro _ ⟨y', m', d', e, rfl⟩; simp at e; first | (obtain ⟨rfl, rfl, rfl⟩ := e; rfl) | (simp [e]))
theorem lcycle_good : Good cfg 7 lcycleG := fun args r h => by
  obtain ⟨_, _, _, rfl, rfl⟩ := ofRel_some h; exact ⟨lcycle_ok _ _ _, rfl⟩

theorem lnext_ok (n : Int) : FnOk cfg 6 [I n] (B true) := by
  cases hr : inR n with
  | false =>
    refine fnOk_eval [(18, rinG), (8, ansG), (17, gdateG), (11, glenG)] (good_cons rin_good (good_cons ans_good (good_cons gdate_good (good_cons glen_good good_nil)))) mixed Tryd.func6 rfl rfl Tryd.ntmps6 (congrArg Array.toList Tryd.results6) (by simp) (by rfl) (by rfl) ?_
    simp only [hr, go_sem, Nat.reduceAdd, Nat.reduceLT, Nat.reduceBEq, Nat.reduceEqDiff, reduceIte, reduceCtorEq, Nat.reduceLeDiff, Int.reduceEq, Int.reduceLT, Int.reduceLE, decide_true, decide_false, Int.reduceSub, Int.reduceAdd, Int.reduceMul, Int.reduceNeg, Int.reduceToNat, Nat.reduceMul, Nat.reduceSub, Int.cast_ofNat_Int, Int.reduceMod, Int.reduceDiv, Int.reduceTDiv, Int.reduceTMod]
    repeat' (first
      | ((with_reducible refine split_guard ?_ ?_) <;> intro hb <;> simp only [hb, hr, go_sem, Nat.reduceAdd, Nat.reduceLT, Nat.reduceBEq, Nat.reduceEqDiff, reduceIte, reduceCtorEq, Nat.reduceLeDiff, Int.reduceEq, Int.reduceLT, Int.reduceLE, decide_true, decide_false, Int.reduceSub, Int.reduceAdd, Int.reduceMul, Int.reduceNeg, Int.reduceToNat, Nat.reduceMul, Nat.reduceSub, Int.cast_ofNat_Int, Int.reduceMod, Int.reduceDiv, Int.reduceTDiv, Int.reduceTMod])
      | ((with_reducible refine split_cond ?_ ?_) <;> intro hb <;> simp only [hb, hr, go_sem, Nat.reduceAdd, Nat.reduceLT, Nat.reduceBEq, Nat.reduceEqDiff, reduceIte, reduceCtorEq, Nat.reduceLeDiff, Int.reduceEq, Int.reduceLT, Int.reduceLE, decide_true, decide_false, Int.reduceSub, Int.reduceAdd, Int.reduceMul, Int.reduceNeg, Int.reduceToNat, Nat.reduceMul, Nat.reduceSub, Int.cast_ofNat_Int, Int.reduceMod, Int.reduceDiv, Int.reduceTDiv, Int.reduceTMod])
      | ((with_reducible refine split_guardY ?_ ?_) <;> intro hb <;> simp only [hb, hr, go_sem, Nat.reduceAdd, Nat.reduceLT, Nat.reduceBEq, Nat.reduceEqDiff, reduceIte, reduceCtorEq, Nat.reduceLeDiff, Int.reduceEq, Int.reduceLT, Int.reduceLE, decide_true, decide_false, Int.reduceSub, Int.reduceAdd, Int.reduceMul, Int.reduceNeg, Int.reduceToNat, Nat.reduceMul, Nat.reduceSub, Int.cast_ofNat_Int, Int.reduceMod, Int.reduceDiv, Int.reduceTDiv, Int.reduceTMod])
      | (with_reducible refine and_order (by kernel_rfl) (by kernel_rfl) ?_)
      | (with_reducible exact orderOk_of (by kernel_rfl) (by kernel_rfl))
      | (with_reducible refine and_nomen ?_ ?_)
      | (with_reducible refine nomen_p (by kernel_rfl) ?_)
      | (with_reducible refine nomen_s (by kernel_rfl) ?_)
      | (with_reducible refine nomen_p0 (by kernel_rfl) ?_)
      | (with_reducible exact nomen_i (by kernel_rfl))
      | (with_reducible refine And.intro (by first | assumption | omega | (simp only [Bool.not_eq_true', Bool.not_eq_false', Bool.and_eq_true, Bool.and_eq_false_iff, decide_eq_true_eq, decide_eq_false_iff_not, Bool.or_eq_true, Bool.or_eq_false_iff, Bool.not_true, Bool.not_false, Bool.false_eq_true, false_iff, true_iff, bne_iff_ne, beq_iff_eq, ne_eq, iff_true, iff_false, not_and, not_or] at *; omega)) ?_)
      | ((with_reducible refine le_put ?_ ?_) <;> (try simp only [hr, go_sem, Nat.reduceAdd, Nat.reduceLT, Nat.reduceBEq, Nat.reduceEqDiff, reduceIte, reduceCtorEq, Nat.reduceLeDiff, Int.reduceEq, Int.reduceLT, Int.reduceLE, decide_true, decide_false, Int.reduceSub, Int.reduceAdd, Int.reduceMul, Int.reduceNeg, Int.reduceToNat, Nat.reduceMul, Nat.reduceSub, Int.cast_ofNat_Int, Int.reduceMod, Int.reduceDiv, Int.reduceTDiv, Int.reduceTMod]))
      | ((with_reducible refine le_box ?_ ?_) <;> (try simp only [hr, go_sem, Nat.reduceAdd, Nat.reduceLT, Nat.reduceBEq, Nat.reduceEqDiff, reduceIte, reduceCtorEq, Nat.reduceLeDiff, Int.reduceEq, Int.reduceLT, Int.reduceLE, decide_true, decide_false, Int.reduceSub, Int.reduceAdd, Int.reduceMul, Int.reduceNeg, Int.reduceToNat, Nat.reduceMul, Nat.reduceSub, Int.cast_ofNat_Int, Int.reduceMod, Int.reduceDiv, Int.reduceTDiv, Int.reduceTMod]))
      | (with_reducible exact le_base rfl)
      | (with_reducible exact nomen_b))
  | true =>
    by_cases hx : n = 1099511627776
    · subst hx
      refine fnOk_eval [(18, rinG), (8, ansG), (17, gdateG), (11, glenG)] (good_cons rin_good (good_cons ans_good (good_cons gdate_good (good_cons glen_good good_nil)))) mixed Tryd.func6 rfl rfl Tryd.ntmps6 (congrArg Array.toList Tryd.results6) (by simp) (by rfl) (by rfl) ?_
      simp only [hr, go_sem, Nat.reduceAdd, Nat.reduceLT, Nat.reduceBEq, Nat.reduceEqDiff, reduceIte, reduceCtorEq, Nat.reduceLeDiff, Int.reduceEq, Int.reduceLT, Int.reduceLE, decide_true, decide_false, Int.reduceSub, Int.reduceAdd, Int.reduceMul, Int.reduceNeg, Int.reduceToNat, Nat.reduceMul, Nat.reduceSub, Int.cast_ofNat_Int, Int.reduceMod, Int.reduceDiv, Int.reduceTDiv, Int.reduceTMod]
      repeat' (first
        | ((with_reducible refine split_guard ?_ ?_) <;> intro hb <;> simp only [hb, hr, go_sem, Nat.reduceAdd, Nat.reduceLT, Nat.reduceBEq, Nat.reduceEqDiff, reduceIte, reduceCtorEq, Nat.reduceLeDiff, Int.reduceEq, Int.reduceLT, Int.reduceLE, decide_true, decide_false, Int.reduceSub, Int.reduceAdd, Int.reduceMul, Int.reduceNeg, Int.reduceToNat, Nat.reduceMul, Nat.reduceSub, Int.cast_ofNat_Int, Int.reduceMod, Int.reduceDiv, Int.reduceTDiv, Int.reduceTMod])
        | ((with_reducible refine split_cond ?_ ?_) <;> intro hb <;> simp only [hb, hr, go_sem, Nat.reduceAdd, Nat.reduceLT, Nat.reduceBEq, Nat.reduceEqDiff, reduceIte, reduceCtorEq, Nat.reduceLeDiff, Int.reduceEq, Int.reduceLT, Int.reduceLE, decide_true, decide_false, Int.reduceSub, Int.reduceAdd, Int.reduceMul, Int.reduceNeg, Int.reduceToNat, Nat.reduceMul, Nat.reduceSub, Int.cast_ofNat_Int, Int.reduceMod, Int.reduceDiv, Int.reduceTDiv, Int.reduceTMod])
        | ((with_reducible refine split_guardY ?_ ?_) <;> intro hb <;> simp only [hb, hr, go_sem, Nat.reduceAdd, Nat.reduceLT, Nat.reduceBEq, Nat.reduceEqDiff, reduceIte, reduceCtorEq, Nat.reduceLeDiff, Int.reduceEq, Int.reduceLT, Int.reduceLE, decide_true, decide_false, Int.reduceSub, Int.reduceAdd, Int.reduceMul, Int.reduceNeg, Int.reduceToNat, Nat.reduceMul, Nat.reduceSub, Int.cast_ofNat_Int, Int.reduceMod, Int.reduceDiv, Int.reduceTDiv, Int.reduceTMod])
        | (with_reducible refine and_order (by kernel_rfl) (by kernel_rfl) ?_)
        | (with_reducible exact orderOk_of (by kernel_rfl) (by kernel_rfl))
        | (with_reducible refine and_nomen ?_ ?_)
        | (with_reducible refine nomen_p (by kernel_rfl) ?_)
        | (with_reducible refine nomen_s (by kernel_rfl) ?_)
        | (with_reducible refine nomen_p0 (by kernel_rfl) ?_)
        | (with_reducible exact nomen_i (by kernel_rfl))
        | (with_reducible refine And.intro (by first | assumption | omega | (simp only [Bool.not_eq_true', Bool.not_eq_false', Bool.and_eq_true, Bool.and_eq_false_iff, decide_eq_true_eq, decide_eq_false_iff_not, Bool.or_eq_true, Bool.or_eq_false_iff, Bool.not_true, Bool.not_false, Bool.false_eq_true, false_iff, true_iff, bne_iff_ne, beq_iff_eq, ne_eq, iff_true, iff_false, not_and, not_or] at *; omega)) ?_)
        | ((with_reducible refine le_put ?_ ?_) <;> (try simp only [hr, go_sem, Nat.reduceAdd, Nat.reduceLT, Nat.reduceBEq, Nat.reduceEqDiff, reduceIte, reduceCtorEq, Nat.reduceLeDiff, Int.reduceEq, Int.reduceLT, Int.reduceLE, decide_true, decide_false, Int.reduceSub, Int.reduceAdd, Int.reduceMul, Int.reduceNeg, Int.reduceToNat, Nat.reduceMul, Nat.reduceSub, Int.cast_ofNat_Int, Int.reduceMod, Int.reduceDiv, Int.reduceTDiv, Int.reduceTMod]))
        | ((with_reducible refine le_box ?_ ?_) <;> (try simp only [hr, go_sem, Nat.reduceAdd, Nat.reduceLT, Nat.reduceBEq, Nat.reduceEqDiff, reduceIte, reduceCtorEq, Nat.reduceLeDiff, Int.reduceEq, Int.reduceLT, Int.reduceLE, decide_true, decide_false, Int.reduceSub, Int.reduceAdd, Int.reduceMul, Int.reduceNeg, Int.reduceToNat, Nat.reduceMul, Nat.reduceSub, Int.cast_ofNat_Int, Int.reduceMod, Int.reduceDiv, Int.reduceTDiv, Int.reduceTMod]))
        | (with_reducible exact le_base rfl)
        | (with_reducible exact nomen_b))
    · have hn : -1099511627776 ≤ n ∧ n ≤ 1099511627776 := by simpa [inR] using hr
      have hx' : decide (n = 1099511627776) = false := by simpa using hx
      have hw : IntKind.i64.wrap (n + 1) = n + 1 := i64_in' _ (by omega)
      have hr1 : inR (n + 1) = true := by simp [inR]; omega
      obtain ⟨z1, z2, z3, z4⟩ := dt_t hr
      obtain ⟨y1, y2, y3, y4⟩ := dt_t hr1
      obtain ⟨i1, i2, i3, i4, _⟩ := date_in n
      have hl := lenM_in (gY n) (gM n)
      have hg := gY_in hr
      have w1 : IntKind.i64.wrap (gD n + 1) = gD n + 1 := i64_in' _ (by omega)
      have w2 : IntKind.i64.wrap (gM n + 1) = gM n + 1 := i64_in' _ (by omega)
      have w3 : IntKind.i64.wrap (gY n + 1) = gY n + 1 := i64_in' _ (by omega)
      refine fnOk_eval [(18, rinG), (8, ansG), (17, gdateG), (11, glenG)] (good_cons rin_good (good_cons ans_good (good_cons gdate_good (good_cons glen_good good_nil)))) mixed Tryd.func6 rfl rfl Tryd.ntmps6 (congrArg Array.toList Tryd.results6) (by simp) (by rfl) (by rfl) ?_
      simp only [hr, hr1, hx', hw, z1, z2, z3, z4, y1, y2, y3, y4, w1, w2, w3, go_sem, Nat.reduceAdd, Nat.reduceLT, Nat.reduceBEq, Nat.reduceEqDiff, reduceIte, reduceCtorEq, Nat.reduceLeDiff, Int.reduceEq, Int.reduceLT, Int.reduceLE, decide_true, decide_false, Int.reduceSub, Int.reduceAdd, Int.reduceMul, Int.reduceNeg, Int.reduceToNat, Nat.reduceMul, Nat.reduceSub, Int.cast_ofNat_Int, Int.reduceMod, Int.reduceDiv, Int.reduceTDiv, Int.reduceTMod]
      repeat' (first
        | ((with_reducible refine split_guard ?_ ?_) <;> intro hb <;> simp only [hb, hr, hr1, hx', hw, z1, z2, z3, z4, y1, y2, y3, y4, w1, w2, w3, go_sem, Nat.reduceAdd, Nat.reduceLT, Nat.reduceBEq, Nat.reduceEqDiff, reduceIte, reduceCtorEq, Nat.reduceLeDiff, Int.reduceEq, Int.reduceLT, Int.reduceLE, decide_true, decide_false, Int.reduceSub, Int.reduceAdd, Int.reduceMul, Int.reduceNeg, Int.reduceToNat, Nat.reduceMul, Nat.reduceSub, Int.cast_ofNat_Int, Int.reduceMod, Int.reduceDiv, Int.reduceTDiv, Int.reduceTMod])
        | ((with_reducible refine split_cond ?_ ?_) <;> intro hb <;> simp only [hb, hr, hr1, hx', hw, z1, z2, z3, z4, y1, y2, y3, y4, w1, w2, w3, go_sem, Nat.reduceAdd, Nat.reduceLT, Nat.reduceBEq, Nat.reduceEqDiff, reduceIte, reduceCtorEq, Nat.reduceLeDiff, Int.reduceEq, Int.reduceLT, Int.reduceLE, decide_true, decide_false, Int.reduceSub, Int.reduceAdd, Int.reduceMul, Int.reduceNeg, Int.reduceToNat, Nat.reduceMul, Nat.reduceSub, Int.cast_ofNat_Int, Int.reduceMod, Int.reduceDiv, Int.reduceTDiv, Int.reduceTMod])
        | ((with_reducible refine split_guardY ?_ ?_) <;> intro hb <;> simp only [hb, hr, hr1, hx', hw, z1, z2, z3, z4, y1, y2, y3, y4, w1, w2, w3, go_sem, Nat.reduceAdd, Nat.reduceLT, Nat.reduceBEq, Nat.reduceEqDiff, reduceIte, reduceCtorEq, Nat.reduceLeDiff, Int.reduceEq, Int.reduceLT, Int.reduceLE, decide_true, decide_false, Int.reduceSub, Int.reduceAdd, Int.reduceMul, Int.reduceNeg, Int.reduceToNat, Nat.reduceMul, Nat.reduceSub, Int.cast_ofNat_Int, Int.reduceMod, Int.reduceDiv, Int.reduceTDiv, Int.reduceTMod])
        | (with_reducible refine and_order (by kernel_rfl) (by kernel_rfl) ?_)
        | (with_reducible exact orderOk_of (by kernel_rfl) (by kernel_rfl))
        | (with_reducible refine and_nomen ?_ ?_)
        | (with_reducible refine nomen_p (by kernel_rfl) ?_)
        | (with_reducible refine nomen_s (by kernel_rfl) ?_)
        | (with_reducible refine nomen_p0 (by kernel_rfl) ?_)
        | (with_reducible exact nomen_i (by kernel_rfl))
        | (with_reducible refine And.intro (by first | assumption | omega | (simp only [Bool.not_eq_true', Bool.not_eq_false', Bool.and_eq_true, Bool.and_eq_false_iff, decide_eq_true_eq, decide_eq_false_iff_not, Bool.or_eq_true, Bool.or_eq_false_iff, Bool.not_true, Bool.not_false, Bool.false_eq_true, false_iff, true_iff, bne_iff_ne, beq_iff_eq, ne_eq, iff_true, iff_false, not_and, not_or] at *; omega)) ?_)
        | ((with_reducible refine le_put ?_ ?_) <;> (try simp only [hr, hr1, hx', hw, z1, z2, z3, z4, y1, y2, y3, y4, w1, w2, w3, go_sem, Nat.reduceAdd, Nat.reduceLT, Nat.reduceBEq, Nat.reduceEqDiff, reduceIte, reduceCtorEq, Nat.reduceLeDiff, Int.reduceEq, Int.reduceLT, Int.reduceLE, decide_true, decide_false, Int.reduceSub, Int.reduceAdd, Int.reduceMul, Int.reduceNeg, Int.reduceToNat, Nat.reduceMul, Nat.reduceSub, Int.cast_ofNat_Int, Int.reduceMod, Int.reduceDiv, Int.reduceTDiv, Int.reduceTMod]))
        | ((with_reducible refine le_box ?_ ?_) <;> (try simp only [hr, hr1, hx', hw, z1, z2, z3, z4, y1, y2, y3, y4, w1, w2, w3, go_sem, Nat.reduceAdd, Nat.reduceLT, Nat.reduceBEq, Nat.reduceEqDiff, reduceIte, reduceCtorEq, Nat.reduceLeDiff, Int.reduceEq, Int.reduceLT, Int.reduceLE, decide_true, decide_false, Int.reduceSub, Int.reduceAdd, Int.reduceMul, Int.reduceNeg, Int.reduceToNat, Nat.reduceMul, Nat.reduceSub, Int.cast_ofNat_Int, Int.reduceMod, Int.reduceDiv, Int.reduceTDiv, Int.reduceTMod]))
        | (with_reducible exact le_base rfl)
        | (with_reducible exact nomen_b))
      all_goals refine leafB ?_
      all_goals simp only [Bool.not_eq_true', Bool.not_eq_false', Bool.and_eq_true, Bool.and_eq_false_iff, decide_eq_true_eq, decide_eq_false_iff_not, Bool.or_eq_true, Bool.or_eq_false_iff, Bool.not_true, Bool.not_false, Bool.false_eq_true, false_iff, true_iff, bne_iff_ne, beq_iff_eq, ne_eq, iff_true, iff_false, not_and, not_or] at *
      all_goals first
        | omega
        | (obtain ⟨q1, q2, q3⟩ := next_d (n := n) (by omega); omega)
        | (obtain ⟨q1, q2, q3⟩ := next_m (n := n) (by omega) (by omega); omega)
        | (obtain ⟨q1, q2, q3⟩ := next_y (n := n) (by omega) (by omega); omega)
noncomputable def lnextG : List AV → Option AV := ofRel fun args r => ∃ (n : Int), args = [I n] ∧ r = B true
@[go_sem] theorem lnextG_eq (n : Int) : lnextG [I n] = some (B true) :=
  ofRel_eq ⟨n, rfl, rfl⟩ (by rintro _ ⟨n', e, rfl⟩; simp at e; first | (obtain ⟨rfl⟩ := e; rfl) | (simp [e]))
theorem lnext_good : Good cfg 6 lnextG := fun args r h => by
  obtain ⟨_, rfl, rfl⟩ := ofRel_some h; exact ⟨lnext_ok _, rfl⟩

end Go.Proofs.YtnhdfmnmciminaaDoor
