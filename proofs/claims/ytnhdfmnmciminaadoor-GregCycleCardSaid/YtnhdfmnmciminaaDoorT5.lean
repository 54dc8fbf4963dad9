/-
  The contracts of the functions and laws of layer 5 (greg) about dates.
-/
import Derived.Test.YtnhdfmnmciminaaDoorT4
namespace Go.Proofs.YtnhdfmnmciminaaDoor
open Go Go.Ev
set_option linter.unusedSimpArgs false
set_option linter.unusedVariables false
set_option maxRecDepth 10000
set_option maxHeartbeats 4000000
theorem date_day (n : Int) : dayM (gY n) (gM n) (gD n) = n := by
  obtain ⟨hy1, hy2, hd1, hd2, _⟩ := yr_facts n
  obtain ⟨hm1, hm2, hm3, hg1, _, _⟩ := mo_facts n
  have hE : n + 678881 = dEra n * 146097 + dOf n := by unfold dOf; omega
  have hO : dOf n = 365 * dYr n + dYr n / 4 - dYr n / 100 + dDy n := by unfold dDy; omega
  have hD : gD n = dDy n - (153 * dMo n + 2) / 5 + 1 := rfl
  unfold dayM gY gM
  by_cases h : 12 < dMo n + 3
  · rw [if_pos h, if_pos h, if_pos (by omega)]
    unfold dayX
    have e1 : (dYr n + dEra n * 400 + 1 - 1) / 400 = dEra n := by omega
    have e2 : dMo n + 3 - 12 - 3 + 12 = dMo n := by omega
    rw [e1, e2]
    have e3 : dYr n + dEra n * 400 + 1 - 1 - dEra n * 400 = dYr n := by omega
    rw [e3]; omega
  · rw [if_neg h, if_neg h, if_neg (by omega)]
    unfold dayX
    have e1 : (dYr n + dEra n * 400) / 400 = dEra n := by omega
    have e2 : dMo n + 3 - 3 = dMo n := by omega
    rw [e1, e2]
    have e3 : dYr n + dEra n * 400 - dEra n * 400 = dYr n := by omega
    rw [e3]; omega
theorem date_ok (n : Int) : dateOk (gY n) (gM n) (gD n) = true := by
  obtain ⟨hy1, hy2, hd1, hd2, hl⟩ := yr_facts n
  obtain ⟨hm1, hm2, hm3, hg1, hg2, hg3⟩ := mo_facts n
  rw [dateOk, decide_eq_true_eq]
  refine ⟨hg1, ?_⟩
  have hc : dMo n = 0 ∨ dMo n = 1 ∨ dMo n = 2 ∨ dMo n = 3 ∨ dMo n = 4 ∨ dMo n = 5 ∨ dMo n = 6 ∨ dMo n = 7 ∨ dMo n = 8 ∨ dMo n = 9 ∨ dMo n = 10 ∨ dMo n = 11 := by omega
  rcases hc with e | e | e | e | e | e | e | e | e | e | e | e
  case inr.inr.inr.inr.inr.inr.inr.inr.inr.inr.inr =>
    have e29 : gD n ≤ 29 := by rw [e] at hg2; simpa [GP.lenF] using hg2
    have em : gM n = 2 := by rw [gM, e]; rfl
    have ey : gY n = dYr n + dEra n * 400 + 1 := by rw [gY, if_pos (by omega)]
    rw [em]
    by_cases h29 : gD n = 29
    · have hlong : longY (gY n) = true := by
        have := hl (hg3.1 ⟨e, h29⟩)
        rw [longY, decide_eq_true_eq, ey]; omega
      simp [lenM, hlong]; omega
    · simp only [lenM]; split <;> simp <;> (try split) <;> omega
  all_goals (have em : gM n = if 12 < dMo n + 3 then dMo n + 3 - 12 else dMo n + 3 := rfl; rw [e] at em hg2; simp [GP.lenF] at em hg2; rw [em]; simp [lenM]; omega)

theorem first_next (y : Int) : firstY (y + 1) = firstY y + 365 + (if longY y = true then 1 else 0) := by
  cases hl : longY y with
  | true => simp only [longY, decide_eq_true_eq] at hl; simp only [if_true]; unfold firstY; omega
  | false => simp only [longY, decide_eq_false_iff_not] at hl; simp only [Bool.false_eq_true, if_false]; unfold firstY; omega
theorem first_mono {a b : Int} (h : a ≤ b) : firstY a ≤ firstY b := by unfold firstY; omega
theorem year_end (y m : Int) (h : 1 ≤ m ∧ m ≤ 12) : sumL y m + lenM y m ≤ 365 + (if longY y = true then 1 else 0) := by
  have hm : m = 1 ∨ m = 2 ∨ m = 3 ∨ m = 4 ∨ m = 5 ∨ m = 6 ∨ m = 7 ∨ m = 8 ∨ m = 9 ∨ m = 10 ∨ m = 11 ∨ m = 12 := by omega
  cases hl : longY y <;> rcases hm with rfl | rfl | rfl | rfl | rfl | rfl | rfl | rfl | rfl | rfl | rfl | rfl <;> simp [sumL, lenM, hl]
theorem date_in (n : Int) : 1 ≤ gM n ∧ gM n ≤ 12 ∧ 1 ≤ gD n ∧ gD n ≤ lenM (gY n) (gM n) ∧ firstY (gY n) + gD n - 1 + sumL (gY n) (gM n) = n ∧ firstY (gY n) ≤ n ∧ n < firstY (gY n + 1) := by
  have hm := dateOk_m (date_ok n)
  have hd : 1 ≤ gD n ∧ gD n ≤ lenM (gY n) (gM n) := by have := date_ok n; rw [dateOk, decide_eq_true_eq] at this; exact this
  have hr := (day_same (date_ok n)).symm.trans (date_day n)
  have hs := sumL_in (gY n) (gM n)
  have he := year_end (gY n) (gM n) ⟨hm.1, hm.2.1⟩
  have hf := first_next (gY n)
  unfold rdayM at hr
  omega

theorem gY_in {n : Int} (hp : inR n = true) : -3100000000 ≤ gY n ∧ gY n ≤ 3100000000 := by
  have hn : -1099511627776 ≤ n ∧ n ≤ 1099511627776 := by simpa [inR] using hp
  have hE : -7600000 ≤ dEra n ∧ dEra n ≤ 7600000 := by unfold dEra; omega
  obtain ⟨hy1, hy2, _⟩ := yr_facts n
  unfold gY; split <;> omega
theorem loop_y {n y : Int} (hp : inR n = true) (hk : -10000000000 ≤ y ∧ y ≤ gY n) : (firstW (IntKind.i64.wrap (y + 1)) ≤ n ↔ y < gY n) ∧ IntKind.i64.wrap (y + 1) = y + 1 := by
  have hg := gY_in hp
  have e : IntKind.i64.wrap (y + 1) = y + 1 := i64_in' _ (by omega)
  obtain ⟨_, _, _, _, _, h1, h2⟩ := date_in n
  rw [e, firstW_eq _ (by omega)]
  refine ⟨⟨fun h => ?_, fun h => ?_⟩, rfl⟩
  · rcases Int.lt_or_le y (gY n) with h' | h'
    · exact h'
    · have : y = gY n := by omega
      subst this; omega
  · exact Int.le_trans (first_mono (show y + 1 ≤ gY n by omega)) h1
theorem sumL_mono (y : Int) (k : Nat) : ∀ a : Int, 1 ≤ a → a + k ≤ 12 → sumL y a ≤ sumL y (a + k) := by
  induction k with
  | zero => intro a _ _; simp
  | succ k ih =>
    intro a h1 h2
    have h3 := sumL_next y a (by omega)
    have h4 := lenM_in y a
    have h5 := ih (a + 1) (by omega) (by omega)
    have e : a + ((k + 1 : Nat) : Int) = a + 1 + k := by omega
    rw [e]; omega
theorem loop_m {n m : Int} (hk : 1 ≤ m ∧ m ≤ gM n) : lenM (gY n) m ≤ gD n - 1 + sumL (gY n) (gM n) - sumL (gY n) m ↔ m < gM n := by
  obtain ⟨h1, h2, h3, h4, _⟩ := date_in n
  refine ⟨fun h => ?_, fun h => ?_⟩
  · rcases Int.lt_or_le m (gM n) with h' | h'
    · exact h'
    · have : m = gM n := by omega
      subst this; omega
  · have e1 := sumL_next (gY n) m (by omega)
    have e2 := sumL_mono (gY n) (gM n - (m + 1)).toNat (m + 1) (by omega) (by omega)
    have e3 : m + 1 + (((gM n - (m + 1)).toNat : Nat) : Int) = gM n := by omega
    rw [e3] at e2; omega
theorem rdate_ok (n : Int) (hp : inR n = true) : FnOk cfg 19 [I n] (D (gY n) (gM n) (gD n)) := by
  refine fnOk_eval [(23, rfloorG), (22, firstG), (12, rlenG)] (good_cons rfloor_good (good_cons first_good (good_cons rlen_good good_nil))) mixed Tryd.func19 rfl rfl Tryd.ntmps19 (congrArg Array.toList Tryd.results19) (by simp) (by rfl) (by rfl) ?_
  have hn : -1099511627776 ≤ n ∧ n ≤ 1099511627776 := by simpa [inR] using hp
  have hi := date_in n
  have h0 : IntKind.i64.wrap (rfW (IntKind.i64.wrap (IntKind.i64.wrap (n + 678941) * 400)) 146097 - 1) = (n + 678941) * 400 / 146097 - 1 := by
    simp (disch := omega) only [i64_in', rfW_eq]
  have hy0 : -10000000000 ≤ (n + 678941) * 400 / 146097 - 1 ∧ (n + 678941) * 400 / 146097 - 1 ≤ gY n := by have := hi.2.2.2.2.2.2; unfold firstY at this; omega
  simp only [h0, go_sem, Nat.reduceAdd, Nat.reduceLT, Nat.reduceBEq, Nat.reduceEqDiff, reduceIte, reduceCtorEq, Nat.reduceLeDiff, Int.reduceEq, Int.reduceLT, Int.reduceLE, decide_true, decide_false, Int.reduceSub, Int.reduceAdd, Int.reduceMul, Int.reduceNeg, Int.reduceToNat, Nat.reduceMul, Nat.reduceSub, Int.cast_ofNat_Int, Int.reduceMod, Int.reduceDiv, Int.reduceTDiv, Int.reduceTMod]
  repeat' (first
    | ((with_reducible refine split_guard ?_ ?_) <;> intro hb <;> simp only [hb, h0, go_sem, Nat.reduceAdd, Nat.reduceLT, Nat.reduceBEq, Nat.reduceEqDiff, reduceIte, reduceCtorEq, Nat.reduceLeDiff, Int.reduceEq, Int.reduceLT, Int.reduceLE, decide_true, decide_false, Int.reduceSub, Int.reduceAdd, Int.reduceMul, Int.reduceNeg, Int.reduceToNat, Nat.reduceMul, Nat.reduceSub, Int.cast_ofNat_Int, Int.reduceMod, Int.reduceDiv, Int.reduceTDiv, Int.reduceTMod])
    | ((with_reducible refine split_cond ?_ ?_) <;> intro hb <;> simp only [hb, h0, go_sem, Nat.reduceAdd, Nat.reduceLT, Nat.reduceBEq, Nat.reduceEqDiff, reduceIte, reduceCtorEq, Nat.reduceLeDiff, Int.reduceEq, Int.reduceLT, Int.reduceLE, decide_true, decide_false, Int.reduceSub, Int.reduceAdd, Int.reduceMul, Int.reduceNeg, Int.reduceToNat, Nat.reduceMul, Nat.reduceSub, Int.cast_ofNat_Int, Int.reduceMod, Int.reduceDiv, Int.reduceTDiv, Int.reduceTMod])
    | ((with_reducible refine split_guardY ?_ ?_) <;> intro hb <;> simp only [hb, h0, go_sem, Nat.reduceAdd, Nat.reduceLT, Nat.reduceBEq, Nat.reduceEqDiff, reduceIte, reduceCtorEq, Nat.reduceLeDiff, Int.reduceEq, Int.reduceLT, Int.reduceLE, decide_true, decide_false, Int.reduceSub, Int.reduceAdd, Int.reduceMul, Int.reduceNeg, Int.reduceToNat, Nat.reduceMul, Nat.reduceSub, Int.cast_ofNat_Int, Int.reduceMod, Int.reduceDiv, Int.reduceTDiv, Int.reduceTMod])
    | (with_reducible refine and_order (by kernel_rfl) (by kernel_rfl) ?_)
    | (with_reducible exact orderOk_of (by kernel_rfl) (by kernel_rfl))
    | (with_reducible refine and_nomen ?_ ?_)
    | (with_reducible refine nomen_p (by kernel_rfl) ?_)
    | (with_reducible refine nomen_s (by kernel_rfl) ?_)
    | (with_reducible refine nomen_p0 (by kernel_rfl) ?_)
    | (with_reducible exact nomen_i (by kernel_rfl))
    | (with_reducible refine And.intro (by first | assumption | omega | (simp only [Bool.not_eq_true', Bool.not_eq_false', Bool.and_eq_true, Bool.and_eq_false_iff, decide_eq_true_eq, decide_eq_false_iff_not, Bool.or_eq_true, Bool.or_eq_false_iff, Bool.not_true, Bool.not_false, Bool.false_eq_true, false_iff, true_iff, bne_iff_ne, beq_iff_eq, ne_eq, iff_true, iff_false, not_and, not_or] at *; omega)) ?_)
    | ((with_reducible refine le_put ?_ ?_) <;> (try simp only [h0, go_sem, Nat.reduceAdd, Nat.reduceLT, Nat.reduceBEq, Nat.reduceEqDiff, reduceIte, reduceCtorEq, Nat.reduceLeDiff, Int.reduceEq, Int.reduceLT, Int.reduceLE, decide_true, decide_false, Int.reduceSub, Int.reduceAdd, Int.reduceMul, Int.reduceNeg, Int.reduceToNat, Nat.reduceMul, Nat.reduceSub, Int.cast_ofNat_Int, Int.reduceMod, Int.reduceDiv, Int.reduceTDiv, Int.reduceTMod]))
    | ((with_reducible refine le_box ?_ ?_) <;> (try simp only [h0, go_sem, Nat.reduceAdd, Nat.reduceLT, Nat.reduceBEq, Nat.reduceEqDiff, reduceIte, reduceCtorEq, Nat.reduceLeDiff, Int.reduceEq, Int.reduceLT, Int.reduceLE, decide_true, decide_false, Int.reduceSub, Int.reduceAdd, Int.reduceMul, Int.reduceNeg, Int.reduceToNat, Nat.reduceMul, Nat.reduceSub, Int.cast_ofNat_Int, Int.reduceMod, Int.reduceDiv, Int.reduceTDiv, Int.reduceTMod]))
    | (with_reducible exact le_base rfl)
    | (with_reducible exact nomen_b))
  refine loop_rule (α := Int) (fun y => (((baseSt 38).setB 2 (some ⟨[.lit (.int .i64 0), .lit (.int .i64 0), .lit (.int .i64 0)], 0, false, false⟩)).put (some 2) (.c (.ptr 2 0))).put (some 0) (I n) |>.put (some 3) (I y)) (fun y => -10000000000 ≤ y ∧ y ≤ gY n) (fun y => (gY n - y).toNat) ((n + 678941) * 400 / 146097 - 1) ?_ hy0 ?_
  · repeat' (first
      | ((with_reducible refine split_guard ?_ ?_) <;> intro hb <;> simp only [hb, h0, go_sem, Nat.reduceAdd, Nat.reduceLT, Nat.reduceBEq, Nat.reduceEqDiff, reduceIte, reduceCtorEq, Nat.reduceLeDiff, Int.reduceEq, Int.reduceLT, Int.reduceLE, decide_true, decide_false, Int.reduceSub, Int.reduceAdd, Int.reduceMul, Int.reduceNeg, Int.reduceToNat, Nat.reduceMul, Nat.reduceSub, Int.cast_ofNat_Int, Int.reduceMod, Int.reduceDiv, Int.reduceTDiv, Int.reduceTMod])
      | ((with_reducible refine split_cond ?_ ?_) <;> intro hb <;> simp only [hb, h0, go_sem, Nat.reduceAdd, Nat.reduceLT, Nat.reduceBEq, Nat.reduceEqDiff, reduceIte, reduceCtorEq, Nat.reduceLeDiff, Int.reduceEq, Int.reduceLT, Int.reduceLE, decide_true, decide_false, Int.reduceSub, Int.reduceAdd, Int.reduceMul, Int.reduceNeg, Int.reduceToNat, Nat.reduceMul, Nat.reduceSub, Int.cast_ofNat_Int, Int.reduceMod, Int.reduceDiv, Int.reduceTDiv, Int.reduceTMod])
      | ((with_reducible refine split_guardY ?_ ?_) <;> intro hb <;> simp only [hb, h0, go_sem, Nat.reduceAdd, Nat.reduceLT, Nat.reduceBEq, Nat.reduceEqDiff, reduceIte, reduceCtorEq, Nat.reduceLeDiff, Int.reduceEq, Int.reduceLT, Int.reduceLE, decide_true, decide_false, Int.reduceSub, Int.reduceAdd, Int.reduceMul, Int.reduceNeg, Int.reduceToNat, Nat.reduceMul, Nat.reduceSub, Int.cast_ofNat_Int, Int.reduceMod, Int.reduceDiv, Int.reduceTDiv, Int.reduceTMod])
      | (with_reducible refine and_order (by kernel_rfl) (by kernel_rfl) ?_)
      | (with_reducible exact orderOk_of (by kernel_rfl) (by kernel_rfl))
      | (with_reducible refine and_nomen ?_ ?_)
      | (with_reducible refine nomen_p (by kernel_rfl) ?_)
      | (with_reducible refine nomen_s (by kernel_rfl) ?_)
      | (with_reducible refine nomen_p0 (by kernel_rfl) ?_)
      | (with_reducible exact nomen_i (by kernel_rfl))
      | (with_reducible refine And.intro (by first | assumption | omega | (simp only [Bool.not_eq_true', Bool.not_eq_false', Bool.and_eq_true, Bool.and_eq_false_iff, decide_eq_true_eq, decide_eq_false_iff_not, Bool.or_eq_true, Bool.or_eq_false_iff, Bool.not_true, Bool.not_false, Bool.false_eq_true, false_iff, true_iff, bne_iff_ne, beq_iff_eq, ne_eq, iff_true, iff_false, not_and, not_or] at *; omega)) ?_)
      | ((with_reducible refine le_put ?_ ?_) <;> (try simp only [h0, go_sem, Nat.reduceAdd, Nat.reduceLT, Nat.reduceBEq, Nat.reduceEqDiff, reduceIte, reduceCtorEq, Nat.reduceLeDiff, Int.reduceEq, Int.reduceLT, Int.reduceLE, decide_true, decide_false, Int.reduceSub, Int.reduceAdd, Int.reduceMul, Int.reduceNeg, Int.reduceToNat, Nat.reduceMul, Nat.reduceSub, Int.cast_ofNat_Int, Int.reduceMod, Int.reduceDiv, Int.reduceTDiv, Int.reduceTMod]))
      | ((with_reducible refine le_box ?_ ?_) <;> (try simp only [h0, go_sem, Nat.reduceAdd, Nat.reduceLT, Nat.reduceBEq, Nat.reduceEqDiff, reduceIte, reduceCtorEq, Nat.reduceLeDiff, Int.reduceEq, Int.reduceLT, Int.reduceLE, decide_true, decide_false, Int.reduceSub, Int.reduceAdd, Int.reduceMul, Int.reduceNeg, Int.reduceToNat, Nat.reduceMul, Nat.reduceSub, Int.cast_ofNat_Int, Int.reduceMod, Int.reduceDiv, Int.reduceTDiv, Int.reduceTMod]))
      | (with_reducible exact le_base rfl)
      | (with_reducible exact nomen_b))
  · intro y hk
    have hly := loop_y hp hk
    have hgY := gY_in hp
    simp only [go_sem, Nat.reduceAdd, Nat.reduceLT, Nat.reduceBEq, Nat.reduceEqDiff, reduceIte, reduceCtorEq, Nat.reduceLeDiff, Int.reduceEq, Int.reduceLT, Int.reduceLE, decide_true, decide_false, Int.reduceSub, Int.reduceAdd, Int.reduceMul, Int.reduceNeg, Int.reduceToNat, Nat.reduceMul, Nat.reduceSub, Int.cast_ofNat_Int, Int.reduceMod, Int.reduceDiv, Int.reduceTDiv, Int.reduceTMod]
    repeat' (first
      | ((with_reducible refine split_guard ?_ ?_) <;> intro hb <;> simp only [hb, go_sem, Nat.reduceAdd, Nat.reduceLT, Nat.reduceBEq, Nat.reduceEqDiff, reduceIte, reduceCtorEq, Nat.reduceLeDiff, Int.reduceEq, Int.reduceLT, Int.reduceLE, decide_true, decide_false, Int.reduceSub, Int.reduceAdd, Int.reduceMul, Int.reduceNeg, Int.reduceToNat, Nat.reduceMul, Nat.reduceSub, Int.cast_ofNat_Int, Int.reduceMod, Int.reduceDiv, Int.reduceTDiv, Int.reduceTMod])
      | ((with_reducible refine split_cond ?_ ?_) <;> intro hb <;> simp only [hb, go_sem, Nat.reduceAdd, Nat.reduceLT, Nat.reduceBEq, Nat.reduceEqDiff, reduceIte, reduceCtorEq, Nat.reduceLeDiff, Int.reduceEq, Int.reduceLT, Int.reduceLE, decide_true, decide_false, Int.reduceSub, Int.reduceAdd, Int.reduceMul, Int.reduceNeg, Int.reduceToNat, Nat.reduceMul, Nat.reduceSub, Int.cast_ofNat_Int, Int.reduceMod, Int.reduceDiv, Int.reduceTDiv, Int.reduceTMod])
      | ((with_reducible refine split_guardY ?_ ?_) <;> intro hb <;> simp only [hb, go_sem, Nat.reduceAdd, Nat.reduceLT, Nat.reduceBEq, Nat.reduceEqDiff, reduceIte, reduceCtorEq, Nat.reduceLeDiff, Int.reduceEq, Int.reduceLT, Int.reduceLE, decide_true, decide_false, Int.reduceSub, Int.reduceAdd, Int.reduceMul, Int.reduceNeg, Int.reduceToNat, Nat.reduceMul, Nat.reduceSub, Int.cast_ofNat_Int, Int.reduceMod, Int.reduceDiv, Int.reduceTDiv, Int.reduceTMod])
      | (with_reducible refine and_order (by kernel_rfl) (by kernel_rfl) ?_)
      | (with_reducible exact orderOk_of (by kernel_rfl) (by kernel_rfl))
      | (with_reducible refine and_nomen ?_ ?_)
      | (with_reducible refine nomen_p (by kernel_rfl) ?_)
      | (with_reducible refine nomen_s (by kernel_rfl) ?_)
      | (with_reducible refine nomen_p0 (by kernel_rfl) ?_)
      | (with_reducible exact nomen_i (by kernel_rfl))
      | (with_reducible refine And.intro (by first | assumption | omega | (simp only [Bool.not_eq_true', Bool.not_eq_false', Bool.and_eq_true, Bool.and_eq_false_iff, decide_eq_true_eq, decide_eq_false_iff_not, Bool.or_eq_true, Bool.or_eq_false_iff, Bool.not_true, Bool.not_false, Bool.false_eq_true, false_iff, true_iff, bne_iff_ne, beq_iff_eq, ne_eq, iff_true, iff_false, not_and, not_or] at *; omega)) ?_)
      | ((with_reducible refine le_put ?_ ?_) <;> (try simp only [go_sem, Nat.reduceAdd, Nat.reduceLT, Nat.reduceBEq, Nat.reduceEqDiff, reduceIte, reduceCtorEq, Nat.reduceLeDiff, Int.reduceEq, Int.reduceLT, Int.reduceLE, decide_true, decide_false, Int.reduceSub, Int.reduceAdd, Int.reduceMul, Int.reduceNeg, Int.reduceToNat, Nat.reduceMul, Nat.reduceSub, Int.cast_ofNat_Int, Int.reduceMod, Int.reduceDiv, Int.reduceTDiv, Int.reduceTMod]))
      | ((with_reducible refine le_box ?_ ?_) <;> (try simp only [go_sem, Nat.reduceAdd, Nat.reduceLT, Nat.reduceBEq, Nat.reduceEqDiff, reduceIte, reduceCtorEq, Nat.reduceLeDiff, Int.reduceEq, Int.reduceLT, Int.reduceLE, decide_true, decide_false, Int.reduceSub, Int.reduceAdd, Int.reduceMul, Int.reduceNeg, Int.reduceToNat, Nat.reduceMul, Nat.reduceSub, Int.cast_ofNat_Int, Int.reduceMod, Int.reduceDiv, Int.reduceTDiv, Int.reduceTMod]))
      | (with_reducible exact le_base rfl)
      | ((with_reducible refine loop_rule (α := Int × Unit) (fun p => ((((baseSt 38).setB 2 (some ⟨[.lit (.int .i64 0), .lit (.int .i64 0), .lit (.int .i64 0)], 0, false, false⟩)).put (some 2) (.c (.ptr 2 0))).put (some 0) (I (gD n - 1 + sumL (gY n) (gM n) - sumL (gY n) p.1))).put (some 3) (I (gY n)) |>.put (some 4) (I p.1)) (fun p => 1 ≤ p.1 ∧ p.1 ≤ gM n) (fun p => (gM n - p.1).toNat) (1, ()) ?_ ?_ ?_) <;> (try dsimp only))
      | (intro p hk2; simp only [go_sem, Nat.reduceAdd, Nat.reduceLT, Nat.reduceBEq, Nat.reduceEqDiff, reduceIte, reduceCtorEq, Nat.reduceLeDiff, Int.reduceEq, Int.reduceLT, Int.reduceLE, decide_true, decide_false, Int.reduceSub, Int.reduceAdd, Int.reduceMul, Int.reduceNeg, Int.reduceToNat, Nat.reduceMul, Nat.reduceSub, Int.cast_ofNat_Int, Int.reduceMod, Int.reduceDiv, Int.reduceTDiv, Int.reduceTMod])
      | ((with_reducible refine again_of ((p.1 + 1, ()) : Int × Unit) ?_ ?_ ?_) <;> (try dsimp only))
      | ((with_reducible refine again_of (y + 1) ?_ ?_ ?_) <;> (try dsimp only))
      | (with_reducible exact nomen_b))
    all_goals simp only [Bool.not_eq_true', Bool.not_eq_false', Bool.and_eq_true, Bool.and_eq_false_iff, decide_eq_true_eq, decide_eq_false_iff_not, Bool.or_eq_true, Bool.or_eq_false_iff, Bool.not_true, Bool.not_false, Bool.false_eq_true, false_iff, true_iff, bne_iff_ne, beq_iff_eq, ne_eq, iff_true, iff_false, not_and, not_or] at *
    all_goals first
      | omega
      | (refine leafI ?_; omega)
      | (have hf := firstY_in (y := y) (by omega)
         have hs1 := sumL_one (gY n)
         refine leafI ?_
         obtain rfl : y = gY n := by omega
         rw [firstW_eq _ (by omega), i64_in' _ (by omega)]; omega)
      | (have hlm := loop_m hk2
         have hs2 := sumL_in (gY n) p.1
         have hs3 := sumL_in (gY n) (gM n)
         have hl2 := lenM_in (gY n) p.1
         have hl3 := lenM_in (gY n) (gM n)
         first
           | omega
           | (refine leafI ?_; rw [i64_in' _ (by omega)]; done)
           | (have hs4 := sumL_next (gY n) p.1 (by omega); refine leafI ?_; rw [i64_in' _ (by omega)]; omega)
           | (have hpm : p.1 = gM n := by omega
              rw [hpm, i64_in' _ (by omega)]
              have e : gD n - 1 + sumL (gY n) (gM n) - sumL (gY n) (gM n) + 1 = gD n := by omega
              rw [e]))
noncomputable def rdateG : List AV → Option AV := ofRel fun args r => ∃ (n : Int), args = [I n] ∧ (inR n = true) ∧ r = D (gY n) (gM n) (gD n)
@[go_sem] theorem rdateG_eq (n : Int) (hp : inR n = true) : rdateG [I n] = some (D (gY n) (gM n) (gD n)) :=
  ofRel_eq ⟨n, rfl, hp, rfl⟩ (by rintro _ ⟨n', e, _, rfl⟩; simp at e; first | (obtain ⟨rfl⟩ := e; rfl) | (simp [e]))
theorem rdate_good : Good cfg 19 rdateG := fun args r h => by
  obtain ⟨_, rfl, hp, rfl⟩ := ofRel_some h; exact ⟨rdate_ok _ hp, rfl⟩

end Go.Proofs.YtnhdfmnmciminaaDoor
