/-
  The contracts of the laws of layer 5 (greg) about months and days.
-/
import Derived.Test.YtnhdfmnmciminaaDoorT1
namespace Go.Proofs.YtnhdfmnmciminaaDoor
open Go Go.Ev
set_option linter.unusedSimpArgs false
set_option linter.unusedVariables false
set_option maxRecDepth 10000
set_option maxHeartbeats 4000000
theorem gdate0_ok : FnOk cfg 17 [I 0] (.tup [D 1858 11 17, I 0]) := by
  refine fnOk_eval [(21, ginG), (20, floorG)] (good_cons gin_good (good_cons floor_good good_nil)) mixed Tryd.func17 rfl rfl Tryd.ntmps17 (congrArg Array.toList Tryd.results17) (by simp) (by rfl) (by rfl) ?_
  simp only [inR, IntKind.wrap_i64, floorW, and_self, go_sem, Nat.reduceAdd, Nat.reduceLT, Nat.reduceBEq, Nat.reduceEqDiff, reduceIte, reduceCtorEq, Nat.reduceLeDiff, Int.reduceEq, Int.reduceLT, Int.reduceLE, decide_true, decide_false, Int.reduceSub, Int.reduceAdd, Int.reduceMul, Int.reduceNeg, Int.reduceToNat, Nat.reduceMul, Nat.reduceSub, Int.cast_ofNat_Int, Int.reduceMod, Int.reduceDiv, Int.reduceTDiv, Int.reduceTMod]
  repeat' (first
    | ((with_reducible refine split_guard ?_ ?_) <;> intro hb <;> simp only [hb, inR, IntKind.wrap_i64, floorW, and_self, go_sem, Nat.reduceAdd, Nat.reduceLT, Nat.reduceBEq, Nat.reduceEqDiff, reduceIte, reduceCtorEq, Nat.reduceLeDiff, Int.reduceEq, Int.reduceLT, Int.reduceLE, decide_true, decide_false, Int.reduceSub, Int.reduceAdd, Int.reduceMul, Int.reduceNeg, Int.reduceToNat, Nat.reduceMul, Nat.reduceSub, Int.cast_ofNat_Int, Int.reduceMod, Int.reduceDiv, Int.reduceTDiv, Int.reduceTMod])
    | ((with_reducible refine split_cond ?_ ?_) <;> intro hb <;> simp only [hb, inR, IntKind.wrap_i64, floorW, and_self, go_sem, Nat.reduceAdd, Nat.reduceLT, Nat.reduceBEq, Nat.reduceEqDiff, reduceIte, reduceCtorEq, Nat.reduceLeDiff, Int.reduceEq, Int.reduceLT, Int.reduceLE, decide_true, decide_false, Int.reduceSub, Int.reduceAdd, Int.reduceMul, Int.reduceNeg, Int.reduceToNat, Nat.reduceMul, Nat.reduceSub, Int.cast_ofNat_Int, Int.reduceMod, Int.reduceDiv, Int.reduceTDiv, Int.reduceTMod])
    | ((with_reducible refine split_guardY ?_ ?_) <;> intro hb <;> simp only [hb, inR, IntKind.wrap_i64, floorW, and_self, go_sem, Nat.reduceAdd, Nat.reduceLT, Nat.reduceBEq, Nat.reduceEqDiff, reduceIte, reduceCtorEq, Nat.reduceLeDiff, Int.reduceEq, Int.reduceLT, Int.reduceLE, decide_true, decide_false, Int.reduceSub, Int.reduceAdd, Int.reduceMul, Int.reduceNeg, Int.reduceToNat, Nat.reduceMul, Nat.reduceSub, Int.cast_ofNat_Int, Int.reduceMod, Int.reduceDiv, Int.reduceTDiv, Int.reduceTMod])
    | (with_reducible refine and_order (by kernel_rfl) (by kernel_rfl) ?_)
    | (with_reducible exact orderOk_of (by kernel_rfl) (by kernel_rfl))
    | (with_reducible refine and_nomen ?_ ?_)
    | (with_reducible refine nomen_p (by kernel_rfl) ?_)
    | (with_reducible refine nomen_s (by kernel_rfl) ?_)
    | (with_reducible refine nomen_p0 (by kernel_rfl) ?_)
    | (with_reducible exact nomen_i (by kernel_rfl))
    | (with_reducible refine And.intro (by first | assumption | omega | (simp only [Bool.not_eq_true', Bool.not_eq_false', Bool.and_eq_true, Bool.and_eq_false_iff, decide_eq_true_eq, decide_eq_false_iff_not, Bool.or_eq_true, Bool.or_eq_false_iff, Bool.not_true, Bool.not_false, Bool.false_eq_true, false_iff, true_iff, bne_iff_ne, beq_iff_eq, ne_eq, iff_true, iff_false, not_and, not_or] at *; omega)) ?_)
    | ((with_reducible refine le_put ?_ ?_) <;> (try simp only [inR, IntKind.wrap_i64, floorW, and_self, go_sem, Nat.reduceAdd, Nat.reduceLT, Nat.reduceBEq, Nat.reduceEqDiff, reduceIte, reduceCtorEq, Nat.reduceLeDiff, Int.reduceEq, Int.reduceLT, Int.reduceLE, decide_true, decide_false, Int.reduceSub, Int.reduceAdd, Int.reduceMul, Int.reduceNeg, Int.reduceToNat, Nat.reduceMul, Nat.reduceSub, Int.cast_ofNat_Int, Int.reduceMod, Int.reduceDiv, Int.reduceTDiv, Int.reduceTMod]))
    | ((with_reducible refine le_box ?_ ?_) <;> (try simp only [inR, IntKind.wrap_i64, floorW, and_self, go_sem, Nat.reduceAdd, Nat.reduceLT, Nat.reduceBEq, Nat.reduceEqDiff, reduceIte, reduceCtorEq, Nat.reduceLeDiff, Int.reduceEq, Int.reduceLT, Int.reduceLE, decide_true, decide_false, Int.reduceSub, Int.reduceAdd, Int.reduceMul, Int.reduceNeg, Int.reduceToNat, Nat.reduceMul, Nat.reduceSub, Int.cast_ofNat_Int, Int.reduceMod, Int.reduceDiv, Int.reduceTDiv, Int.reduceTMod]))
    | (with_reducible exact le_base rfl)
    | (with_reducible exact nomen_b))

noncomputable def gdate0G : List AV → Option AV := ofRel fun args r => args = [I 0] ∧ r = .tup [D 1858 11 17, I 0]
@[go_sem] theorem gdate0G_eq : gdate0G [I 0] = some (.tup [D 1858 11 17, I 0]) :=
  ofRel_eq ⟨rfl, rfl⟩ (by rintro _ ⟨e, rfl⟩; rfl)
theorem gdate0_good : Good cfg 17 gdate0G := fun args r h => by
  obtain ⟨rfl, rfl⟩ := ofRel_some h; exact ⟨gdate0_ok , rfl⟩

@[go_sem] theorem dn0 : dayN 2000 1 1 = 51544 := by decide +kernel
@[go_sem] theorem de0 : dayE 2000 1 1 = 0 := by decide +kernel
@[go_sem] theorem ly0 : longY 2000 = true := by decide +kernel
@[go_sem] theorem le0 : lenM 1900 2 = 28 := by decide +kernel
theorem ans_ok : FnOk cfg 8 [] (B true) := by
  refine fnOk_eval [(15, gdayG), (17, gdate0G), (9, leapG), (11, glenG)] (good_cons gday_good (good_cons gdate0_good (good_cons leap_good (good_cons glen_good good_nil)))) mixed Tryd.func8 rfl rfl Tryd.ntmps8 (congrArg Array.toList Tryd.results8) (by simp) (by rfl) (by rfl) ?_
  simp only [go_sem, Nat.reduceAdd, Nat.reduceLT, Nat.reduceBEq, Nat.reduceEqDiff, reduceIte, reduceCtorEq, Nat.reduceLeDiff, Int.reduceEq, Int.reduceLT, Int.reduceLE, decide_true, decide_false, Int.reduceSub, Int.reduceAdd, Int.reduceMul, Int.reduceNeg, Int.reduceToNat, Nat.reduceMul, Nat.reduceSub, Int.cast_ofNat_Int, Int.reduceMod, Int.reduceDiv, Int.reduceTDiv, Int.reduceTMod]
  repeat' (first
    | ((with_reducible refine split_guard ?_ ?_) <;> intro hb <;> simp only [hb, go_sem, Nat.reduceAdd, Nat.reduceLT, Nat.reduceBEq, Nat.reduceEqDiff, reduceIte, reduceCtorEq, Nat.reduceLeDiff, Int.reduceEq, Int.reduceLT, Int.reduceLE, decide_true, decide_false, Int.reduceSub, Int.reduceAdd, Int.reduceMul, Int.reduceNeg, Int.reduceToNat, Nat.reduceMul, Nat.reduceSub, Int.cast_ofNat_Int, Int.reduceMod, Int.reduceDiv, Int.reduceTDiv, Int.reduceTMod])
    | ((with_reducible refine split_cond ?_ ?_) <;> intro hb <;> simp only [hb, go_sem, Nat.reduceAdd, Nat.reduceLT, Nat.reduceBEq, Nat.reduceEqDiff, reduceIte, reduceCtorEq, Nat.reduceLeDiff, Int.reduceEq, Int.reduceLT, Int.reduceLE, decide_true, decide_false, Int.reduceSub, Int.reduceAdd, Int.reduceMul, Int.reduceNeg, Int.reduceToNat, Nat.reduceMul, Nat.reduceSub, Int.cast_ofNat_Int, Int.reduceMod, Int.reduceDiv, Int.reduceTDiv, Int.reduceTMod])
    | ((with_reducible refine split_guardY ?_ ?_) <;> intro hb <;> simp only [hb, go_sem, Nat.reduceAdd, Nat.reduceLT, Nat.reduceBEq, Nat.reduceEqDiff, reduceIte, reduceCtorEq, Nat.reduceLeDiff, Int.reduceEq, Int.reduceLT, Int.reduceLE, decide_true, decide_false, Int.reduceSub, Int.reduceAdd, Int.reduceMul, Int.reduceNeg, Int.reduceToNat, Nat.reduceMul, Nat.reduceSub, Int.cast_ofNat_Int, Int.reduceMod, Int.reduceDiv, Int.reduceTDiv, Int.reduceTMod])
    | (with_reducible refine and_order (by kernel_rfl) (by kernel_rfl) ?_)
    | (with_reducible exact orderOk_of (by kernel_rfl) (by kernel_rfl))
    | (with_reducible refine and_nomen ?_ ?_)
    | (with_reducible refine nomen_p (by kernel_rfl) ?_)
    | (with_reducible refine nomen_s (by kernel_rfl) ?_)
    | (with_reducible refine nomen_p0 (by kernel_rfl) ?_)
    | (with_reducible exact nomen_i (by kernel_rfl))
    | (with_reducible refine And.intro (by first | assumption | omega | (simp only [Bool.not_eq_true', Bool.not_eq_false', Bool.and_eq_true, Bool.and_eq_false_iff, decide_eq_true_eq, decide_eq_false_iff_not, Bool.or_eq_true, Bool.or_eq_false_iff, Bool.not_true, Bool.not_false, Bool.false_eq_true, false_iff, true_iff, bne_iff_ne, beq_iff_eq, ne_eq, iff_true, iff_false, not_and, not_or] at *; omega)) ?_)
    | ((with_reducible refine le_put ?_ ?_) <;> (try simp only [go_sem, Nat.reduceAdd, Nat.reduceLT, Nat.reduceBEq, Nat.reduceEqDiff, reduceIte, reduceCtorEq, Nat.reduceLeDiff, Int.reduceEq, Int.reduceLT, Int.reduceLE, decide_true, decide_false, Int.reduceSub, Int.reduceAdd, Int.reduceMul, Int.reduceNeg, Int.reduceToNat, Nat.reduceMul, Nat.reduceSub, Int.cast_ofNat_Int, Int.reduceMod, Int.reduceDiv, Int.reduceTDiv, Int.reduceTMod]))
    | ((with_reducible refine le_box ?_ ?_) <;> (try simp only [go_sem, Nat.reduceAdd, Nat.reduceLT, Nat.reduceBEq, Nat.reduceEqDiff, reduceIte, reduceCtorEq, Nat.reduceLeDiff, Int.reduceEq, Int.reduceLT, Int.reduceLE, decide_true, decide_false, Int.reduceSub, Int.reduceAdd, Int.reduceMul, Int.reduceNeg, Int.reduceToNat, Nat.reduceMul, Nat.reduceSub, Int.cast_ofNat_Int, Int.reduceMod, Int.reduceDiv, Int.reduceTDiv, Int.reduceTMod]))
    | (with_reducible exact le_base rfl)
    | (with_reducible exact nomen_b))

noncomputable def ansG : List AV → Option AV := ofRel fun args r => args = [] ∧ r = B true
@[go_sem] theorem ansG_eq : ansG [] = some (B true) :=
  ofRel_eq ⟨rfl, rfl⟩ (by rintro _ ⟨e, rfl⟩; rfl)
theorem ans_good : Good cfg 8 ansG := fun args r h => by
  obtain ⟨rfl, rfl⟩ := ofRel_some h; exact ⟨ans_ok , rfl⟩

theorem lmonths_ok (y : Int) (m : Int) (n : Int) : FnOk cfg 3 [I y, I m, I n] (B true) := by
  refine fnOk_eval [(8, ansG), (9, leapG), (10, longG), (11, glenG), (12, rlenG), (13, gvalidG), (14, rvalidG)] (good_cons ans_good (good_cons leap_good (good_cons long_good (good_cons glen_good (good_cons rlen_good (good_cons gvalid_good (good_cons rvalid_good good_nil))))))) mixed Tryd.func3 rfl rfl Tryd.ntmps3 (congrArg Array.toList Tryd.results3) (by simp) (by rfl) (by rfl) ?_
  simp only [go_sem, Nat.reduceAdd, Nat.reduceLT, Nat.reduceBEq, Nat.reduceEqDiff, reduceIte, reduceCtorEq, Nat.reduceLeDiff, Int.reduceEq, Int.reduceLT, Int.reduceLE, decide_true, decide_false, Int.reduceSub, Int.reduceAdd, Int.reduceMul, Int.reduceNeg, Int.reduceToNat, Nat.reduceMul, Nat.reduceSub, Int.cast_ofNat_Int, Int.reduceMod, Int.reduceDiv, Int.reduceTDiv, Int.reduceTMod]
  repeat' (first
    | ((with_reducible refine split_guard ?_ ?_) <;> intro hb <;> simp only [hb, go_sem, Nat.reduceAdd, Nat.reduceLT, Nat.reduceBEq, Nat.reduceEqDiff, reduceIte, reduceCtorEq, Nat.reduceLeDiff, Int.reduceEq, Int.reduceLT, Int.reduceLE, decide_true, decide_false, Int.reduceSub, Int.reduceAdd, Int.reduceMul, Int.reduceNeg, Int.reduceToNat, Nat.reduceMul, Nat.reduceSub, Int.cast_ofNat_Int, Int.reduceMod, Int.reduceDiv, Int.reduceTDiv, Int.reduceTMod])
    | ((with_reducible refine split_cond ?_ ?_) <;> intro hb <;> simp only [hb, go_sem, Nat.reduceAdd, Nat.reduceLT, Nat.reduceBEq, Nat.reduceEqDiff, reduceIte, reduceCtorEq, Nat.reduceLeDiff, Int.reduceEq, Int.reduceLT, Int.reduceLE, decide_true, decide_false, Int.reduceSub, Int.reduceAdd, Int.reduceMul, Int.reduceNeg, Int.reduceToNat, Nat.reduceMul, Nat.reduceSub, Int.cast_ofNat_Int, Int.reduceMod, Int.reduceDiv, Int.reduceTDiv, Int.reduceTMod])
    | ((with_reducible refine split_guardY ?_ ?_) <;> intro hb <;> simp only [hb, go_sem, Nat.reduceAdd, Nat.reduceLT, Nat.reduceBEq, Nat.reduceEqDiff, reduceIte, reduceCtorEq, Nat.reduceLeDiff, Int.reduceEq, Int.reduceLT, Int.reduceLE, decide_true, decide_false, Int.reduceSub, Int.reduceAdd, Int.reduceMul, Int.reduceNeg, Int.reduceToNat, Nat.reduceMul, Nat.reduceSub, Int.cast_ofNat_Int, Int.reduceMod, Int.reduceDiv, Int.reduceTDiv, Int.reduceTMod])
    | (with_reducible refine and_order (by kernel_rfl) (by kernel_rfl) ?_)
    | (with_reducible exact orderOk_of (by kernel_rfl) (by kernel_rfl))
    | (with_reducible refine and_nomen ?_ ?_)
    | (with_reducible refine nomen_p (by kernel_rfl) ?_)
    | (with_reducible refine nomen_s (by kernel_rfl) ?_)
    | (with_reducible refine nomen_p0 (by kernel_rfl) ?_)
    | (with_reducible exact nomen_i (by kernel_rfl))
    | (with_reducible refine And.intro (by first | assumption | omega | (simp only [Bool.not_eq_true', Bool.not_eq_false', Bool.and_eq_true, Bool.and_eq_false_iff, decide_eq_true_eq, decide_eq_false_iff_not, Bool.or_eq_true, Bool.or_eq_false_iff, Bool.not_true, Bool.not_false, Bool.false_eq_true, false_iff, true_iff, bne_iff_ne, beq_iff_eq, ne_eq, iff_true, iff_false, not_and, not_or] at *; omega)) ?_)
    | ((with_reducible refine le_put ?_ ?_) <;> (try simp only [go_sem, Nat.reduceAdd, Nat.reduceLT, Nat.reduceBEq, Nat.reduceEqDiff, reduceIte, reduceCtorEq, Nat.reduceLeDiff, Int.reduceEq, Int.reduceLT, Int.reduceLE, decide_true, decide_false, Int.reduceSub, Int.reduceAdd, Int.reduceMul, Int.reduceNeg, Int.reduceToNat, Nat.reduceMul, Nat.reduceSub, Int.cast_ofNat_Int, Int.reduceMod, Int.reduceDiv, Int.reduceTDiv, Int.reduceTMod]))
    | ((with_reducible refine le_box ?_ ?_) <;> (try simp only [go_sem, Nat.reduceAdd, Nat.reduceLT, Nat.reduceBEq, Nat.reduceEqDiff, reduceIte, reduceCtorEq, Nat.reduceLeDiff, Int.reduceEq, Int.reduceLT, Int.reduceLE, decide_true, decide_false, Int.reduceSub, Int.reduceAdd, Int.reduceMul, Int.reduceNeg, Int.reduceToNat, Nat.reduceMul, Nat.reduceSub, Int.cast_ofNat_Int, Int.reduceMod, Int.reduceDiv, Int.reduceTDiv, Int.reduceTMod]))
    | (with_reducible exact le_base rfl)
    | (with_reducible exact nomen_b))

noncomputable def lmonthsG : List AV → Option AV := ofRel fun args r => ∃ (y : Int) (m : Int) (n : Int), args = [I y, I m, I n] ∧ r = B true
@[go_sem] theorem lmonthsG_eq (y : Int) (m : Int) (n : Int) : lmonthsG [I y, I m, I n] = some (B true) :=
  ofRel_eq ⟨y, m, n, rfl, rfl⟩ (by rintro _ ⟨y', m', n', e, rfl⟩; simp at e; first | (obtain ⟨rfl, rfl, rfl⟩ := e; rfl) | (simp [e]))
theorem lmonths_good : Good cfg 3 lmonthsG := fun args r h => by
  obtain ⟨_, _, _, rfl, rfl⟩ := ofRel_some h; exact ⟨lmonths_ok _ _ _, rfl⟩

theorem day_same {y m d : Int} (ok : dateOk y m d = true) : dayM y m d = rdayM y m d := by
  have hm := dateOk_m ok
  have hc : m = 1 ∨ m = 2 ∨ m = 3 ∨ m = 4 ∨ m = 5 ∨ m = 6 ∨ m = 7 ∨ m = 8 ∨ m = 9 ∨ m = 10 ∨ m = 11 ∨ m = 12 := by omega
  clear ok hm
  cases hl : longY y with
  | true =>
    simp only [longY, decide_eq_true_eq] at hl
    have hl' : longY y = true := by simpa [longY] using hl
    rcases hc with rfl | rfl | rfl | rfl | rfl | rfl | rfl | rfl | rfl | rfl | rfl | rfl <;> simp [dayM, dayX, rdayM, firstY, sumL, hl'] <;> omega
  | false =>
    simp only [longY, decide_eq_false_iff_not] at hl
    have hl' : longY y = false := by simpa [longY] using hl
    rcases hc with rfl | rfl | rfl | rfl | rfl | rfl | rfl | rfl | rfl | rfl | rfl | rfl <;> simp [dayM, dayX, rdayM, firstY, sumL, hl'] <;> omega
theorem day_far {y m d : Int} (ok : dateOk y m d = true) (hy : y < -4000000000 ∨ 4000000000 < y) : inR (rdayM y m d) = false := by
  have hm := dateOk_m ok
  have hs := sumL_in y m
  generalize hS : sumL y m = S at hs
  rw [inR, decide_eq_false_iff_not, rdayM, hS, firstY]
  intro hh
  rcases hy with hy | hy <;> omega
theorem days_same (y m d : Int) : dayE y m d = rdayE y m d ∧ dayN y m d = rdayN y m d := by
  have he : dayE y m d = rdayE y m d := by
    unfold dayE rdayE
    cases ok : dateOk y m d with
    | false => simp
    | true =>
      rw [day_same ok]
      simp only [Bool.true_eq_false, if_false]
      by_cases hy : y < -4000000000 ∨ 4000000000 < y
      · rw [if_pos hy, day_far ok hy]; simp
      · have h2 : ¬ (y < -8589934592 ∨ 8589934592 < y) := by omega
        rw [if_neg hy, if_neg h2]
  refine ⟨he, ?_⟩
  unfold dayN rdayN
  rw [← he]
  by_cases h0 : dayE y m d = 0
  · rw [if_pos h0, if_pos h0]
    have ok : dateOk y m d = true := by
      cases ok : dateOk y m d with
      | false => simp [dayE, ok] at h0
      | true => rfl
    exact day_same ok
  · rw [if_neg h0, if_neg h0]
theorem dayE_s (y m d : Int) : dayE y m d = rdayE y m d := (days_same y m d).1
theorem dayN_s (y m d : Int) : dayN y m d = rdayN y m d := (days_same y m d).2
theorem ldays_ok (y : Int) (m : Int) (d : Int) : FnOk cfg 4 [D y m d] (B true) := by
  refine fnOk_eval [(15, gdayG), (16, rdayG), (8, ansG)] (good_cons gday_good (good_cons rday_good (good_cons ans_good good_nil))) mixed Tryd.func4 rfl rfl Tryd.ntmps4 (congrArg Array.toList Tryd.results4) (by simp) (by rfl) (by rfl) ?_
  simp only [dayE_s, dayN_s, go_sem, Nat.reduceAdd, Nat.reduceLT, Nat.reduceBEq, Nat.reduceEqDiff, reduceIte, reduceCtorEq, Nat.reduceLeDiff, Int.reduceEq, Int.reduceLT, Int.reduceLE, decide_true, decide_false, Int.reduceSub, Int.reduceAdd, Int.reduceMul, Int.reduceNeg, Int.reduceToNat, Nat.reduceMul, Nat.reduceSub, Int.cast_ofNat_Int, Int.reduceMod, Int.reduceDiv, Int.reduceTDiv, Int.reduceTMod]
  repeat' (first
    | ((with_reducible refine split_guard ?_ ?_) <;> intro hb <;> simp only [hb, dayE_s, dayN_s, go_sem, Nat.reduceAdd, Nat.reduceLT, Nat.reduceBEq, Nat.reduceEqDiff, reduceIte, reduceCtorEq, Nat.reduceLeDiff, Int.reduceEq, Int.reduceLT, Int.reduceLE, decide_true, decide_false, Int.reduceSub, Int.reduceAdd, Int.reduceMul, Int.reduceNeg, Int.reduceToNat, Nat.reduceMul, Nat.reduceSub, Int.cast_ofNat_Int, Int.reduceMod, Int.reduceDiv, Int.reduceTDiv, Int.reduceTMod])
    | ((with_reducible refine split_cond ?_ ?_) <;> intro hb <;> simp only [hb, dayE_s, dayN_s, go_sem, Nat.reduceAdd, Nat.reduceLT, Nat.reduceBEq, Nat.reduceEqDiff, reduceIte, reduceCtorEq, Nat.reduceLeDiff, Int.reduceEq, Int.reduceLT, Int.reduceLE, decide_true, decide_false, Int.reduceSub, Int.reduceAdd, Int.reduceMul, Int.reduceNeg, Int.reduceToNat, Nat.reduceMul, Nat.reduceSub, Int.cast_ofNat_Int, Int.reduceMod, Int.reduceDiv, Int.reduceTDiv, Int.reduceTMod])
    | ((with_reducible refine split_guardY ?_ ?_) <;> intro hb <;> simp only [hb, dayE_s, dayN_s, go_sem, Nat.reduceAdd, Nat.reduceLT, Nat.reduceBEq, Nat.reduceEqDiff, reduceIte, reduceCtorEq, Nat.reduceLeDiff, Int.reduceEq, Int.reduceLT, Int.reduceLE, decide_true, decide_false, Int.reduceSub, Int.reduceAdd, Int.reduceMul, Int.reduceNeg, Int.reduceToNat, Nat.reduceMul, Nat.reduceSub, Int.cast_ofNat_Int, Int.reduceMod, Int.reduceDiv, Int.reduceTDiv, Int.reduceTMod])
    | (with_reducible refine and_order (by kernel_rfl) (by kernel_rfl) ?_)
    | (with_reducible exact orderOk_of (by kernel_rfl) (by kernel_rfl))
    | (with_reducible refine and_nomen ?_ ?_)
    | (with_reducible refine nomen_p (by kernel_rfl) ?_)
    | (with_reducible refine nomen_s (by kernel_rfl) ?_)
    | (with_reducible refine nomen_p0 (by kernel_rfl) ?_)
    | (with_reducible exact nomen_i (by kernel_rfl))
    | (with_reducible refine And.intro (by first | assumption | omega | (simp only [Bool.not_eq_true', Bool.not_eq_false', Bool.and_eq_true, Bool.and_eq_false_iff, decide_eq_true_eq, decide_eq_false_iff_not, Bool.or_eq_true, Bool.or_eq_false_iff, Bool.not_true, Bool.not_false, Bool.false_eq_true, false_iff, true_iff, bne_iff_ne, beq_iff_eq, ne_eq, iff_true, iff_false, not_and, not_or] at *; omega)) ?_)
    | ((with_reducible refine le_put ?_ ?_) <;> (try simp only [dayE_s, dayN_s, go_sem, Nat.reduceAdd, Nat.reduceLT, Nat.reduceBEq, Nat.reduceEqDiff, reduceIte, reduceCtorEq, Nat.reduceLeDiff, Int.reduceEq, Int.reduceLT, Int.reduceLE, decide_true, decide_false, Int.reduceSub, Int.reduceAdd, Int.reduceMul, Int.reduceNeg, Int.reduceToNat, Nat.reduceMul, Nat.reduceSub, Int.cast_ofNat_Int, Int.reduceMod, Int.reduceDiv, Int.reduceTDiv, Int.reduceTMod]))
    | ((with_reducible refine le_box ?_ ?_) <;> (try simp only [dayE_s, dayN_s, go_sem, Nat.reduceAdd, Nat.reduceLT, Nat.reduceBEq, Nat.reduceEqDiff, reduceIte, reduceCtorEq, Nat.reduceLeDiff, Int.reduceEq, Int.reduceLT, Int.reduceLE, decide_true, decide_false, Int.reduceSub, Int.reduceAdd, Int.reduceMul, Int.reduceNeg, Int.reduceToNat, Nat.reduceMul, Nat.reduceSub, Int.cast_ofNat_Int, Int.reduceMod, Int.reduceDiv, Int.reduceTDiv, Int.reduceTMod]))
    | (with_reducible exact le_base rfl)
    | (with_reducible exact nomen_b))

noncomputable def ldaysG : List AV → Option AV := ofRel fun args r => ∃ (y : Int) (m : Int) (d : Int), args = [D y m d] ∧ r = B true
@[go_sem] theorem ldaysG_eq (y : Int) (m : Int) (d : Int) : ldaysG [D y m d] = some (B true) :=
  ofRel_eq ⟨y, m, d, rfl, rfl⟩ (by rintro _ ⟨y', m', d', e, rfl⟩; simp at e; first | (obtain ⟨rfl, rfl, rfl⟩ := e; rfl) | (simp [e]))
theorem ldays_good : Good cfg 4 ldaysG := fun args r h => by
  obtain ⟨_, _, _, rfl, rfl⟩ := ofRel_some h; exact ⟨ldays_ok _ _ _, rfl⟩

end Go.Proofs.YtnhdfmnmciminaaDoor
