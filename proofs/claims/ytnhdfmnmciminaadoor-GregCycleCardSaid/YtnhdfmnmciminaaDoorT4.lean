/-
  The contracts of the functions and laws of layer 5 (greg) about dates.
-/
import Derived.Test.YtnhdfmnmciminaaDoorT2
namespace GP
/-- The days of a cycle ahead of its year y, which begins in March. -/
def S (y : Nat) : Nat := 365 * y + y / 4 - y / 100
def F (o : Nat) : Nat := o - o / 1460 + o / 36524 - o / 146096
theorem F_step (o : Nat) : F o ≤ F (o + 1) := by
  have e : ∀ x : Nat, x / 146096 = (x / 36524) / 4 := fun x => by rw [Nat.div_div_eq_div_mul]
  unfold F
  rw [e, e]
  generalize hq : o / 36524 = q
  generalize hq' : (o + 1) / 36524 = q'
  have h1 : q ≤ q' := by omega
  have h2 : q' ≤ q + 1 := by omega
  have h3 : (o + 1) / 1460 ≤ o / 1460 + 1 := by omega
  have h4 : o / 1460 ≤ o := by omega
  omega
theorem F_mono {a b : Nat} (h : a ≤ b) : F a ≤ F b := by
  induction b with
  | zero => have : a = 0 := by omega
            subst this; exact Nat.le_refl _
  | succ b ih =>
    rcases Nat.lt_or_ge b a with h' | h'
    · have : a = b + 1 := by omega
      subst this; exact Nat.le_refl _
    · exact Nat.le_trans (ih h') (F_step b)
theorem ends : ∀ y, y < 400 → 365 * y ≤ F (S y) ∧ F (if y = 399 then 146096 else S (y + 1) - 1) < 365 * (y + 1) ∧ S y < S (y + 1) := by decide +kernel
theorem find (o : Nat) : ∀ k, o < S k → ∃ y, y < k ∧ S y ≤ o ∧ o < S (y + 1) := by
  intro k
  induction k with
  | zero => intro h; simp [S] at h
  | succ k ih =>
    intro h
    rcases Nat.lt_or_ge o (S k) with h' | h'
    · obtain ⟨y, h1, h2⟩ := ih h'; exact ⟨y, by omega, h2⟩
    · exact ⟨k, by omega, h', h⟩
theorem year (o : Nat) (h : o < 146097) : F o / 365 < 400 ∧ S (F o / 365) ≤ o ∧ (o < S (F o / 365 + 1) ∨ F o / 365 = 399) := by
  have key : ∃ y, y < 400 ∧ S y ≤ o ∧ (o < S (y + 1) ∨ y = 399) := by
    rcases Nat.lt_or_ge o (S 400) with h' | h'
    · obtain ⟨y, h1, h2, h3⟩ := find o 400 h'; exact ⟨y, h1, h2, .inl h3⟩
    · refine ⟨399, by omega, ?_, .inr rfl⟩
      have : S 399 ≤ S 400 := by decide +kernel
      omega
  obtain ⟨y, h1, h2, h3⟩ := key
  obtain ⟨e1, e2, _⟩ := ends y h1
  have a1 := F_mono h2
  have a2 : F o ≤ F (if y = 399 then 146096 else S (y + 1) - 1) := F_mono (by split <;> omega)
  have : F o / 365 = y := by omega
  rw [this]
  exact ⟨h1, h2, h3⟩
/-- The months, from March on. -/
def lenF (m : Nat) : Nat := [31, 30, 31, 30, 31, 31, 30, 31, 30, 31, 31, 29].getD m 0
theorem month : ∀ d, d < 366 → (5 * d + 2) / 153 < 12 ∧ (153 * ((5 * d + 2) / 153) + 2) / 5 ≤ d ∧ d - (153 * ((5 * d + 2) / 153) + 2) / 5 + 1 ≤ lenF ((5 * d + 2) / 153) ∧
    (((5 * d + 2) / 153 = 11 ∧ d - (153 * ((5 * d + 2) / 153) + 2) / 5 + 1 = 29) ↔ d = 365) := by decide +kernel
end GP
namespace Go.Proofs.YtnhdfmnmciminaaDoor
open Go Go.Ev
set_option linter.unusedSimpArgs false
set_option linter.unusedVariables false
set_option maxRecDepth 10000
set_option maxHeartbeats 4000000
/-- A day's date, as greg computes it. -/
def dEra (n : Int) : Int := (n + 678881) / 146097
def dOf (n : Int) : Int := n + 678881 - dEra n * 146097
def dYr (n : Int) : Int := (dOf n - dOf n / 1460 + dOf n / 36524 - dOf n / 146096) / 365
def dDy (n : Int) : Int := dOf n - (365 * dYr n + dYr n / 4 - dYr n / 100)
def dMo (n : Int) : Int := (5 * dDy n + 2) / 153
def gY (n : Int) : Int := if 12 < dMo n + 3 then dYr n + dEra n * 400 + 1 else dYr n + dEra n * 400
def gM (n : Int) : Int := if 12 < dMo n + 3 then dMo n + 3 - 12 else dMo n + 3
def gD (n : Int) : Int := dDy n - (153 * dMo n + 2) / 5 + 1
theorem of_facts (n : Int) : 0 ≤ dOf n ∧ dOf n < 146097 := by unfold dOf dEra; omega
theorem yr_facts (n : Int) : 0 ≤ dYr n ∧ dYr n ≤ 399 ∧ 0 ≤ dDy n ∧ dDy n ≤ 365 ∧ (dDy n = 365 → (dYr n = 399 ∨ (dYr n + 1) % 4 = 0 ∧ ¬ (dYr n + 1) % 100 = 0)) := by
  have ho := of_facts n
  unfold dDy dYr
  generalize hx : dOf n = x at ho
  obtain ⟨o, rfl⟩ : ∃ o : Nat, x = (o : Int) := ⟨x.toNat, by omega⟩
  obtain ⟨h1, h2, h3⟩ := GP.year o (by omega)
  have e : ((GP.F o / 365 : Nat) : Int) = ((o : Int) - (o : Int) / 1460 + (o : Int) / 36524 - (o : Int) / 146096) / 365 := by unfold GP.F; omega
  rw [← e]
  generalize GP.F o / 365 = y at h1 h2 h3
  clear e
  have k4 : ((y + 1) % 4 = 0 ∧ (y + 1) / 4 = y / 4 + 1) ∨ (¬ (y + 1) % 4 = 0 ∧ (y + 1) / 4 = y / 4) := by omega
  have k100 : ((y + 1) % 100 = 0 ∧ (y + 1) / 100 = y / 100 + 1) ∨ (¬ (y + 1) % 100 = 0 ∧ (y + 1) / 100 = y / 100) := by omega
  have c4 : ((y : Int) + 1) % 4 = (((y + 1) % 4 : Nat) : Int) := by omega
  have c100 : ((y : Int) + 1) % 100 = (((y + 1) % 100 : Nat) : Int) := by omega
  have b4 : ((y / 4 : Nat) : Int) = (y : Int) / 4 := by omega
  have b100 : ((y / 100 : Nat) : Int) = (y : Int) / 100 := by omega
  have l1 : y / 100 ≤ y / 4 := by omega
  have y399 : y = 399 → y / 4 = 99 ∧ y / 100 = 3 := by omega
  rw [c4, c100, ← b4, ← b100]
  unfold GP.S at h2 h3
  generalize (y + 1) % 4 = p at k4
  generalize (y + 1) % 100 = q at k100
  generalize (y + 1) / 4 = u at k4 h3
  generalize (y + 1) / 100 = v at k100 h3
  generalize y / 4 = u' at k4 h2 l1 y399
  generalize y / 100 = v' at k100 h2 l1 y399
  rcases k4 with ⟨k1, k2⟩ | ⟨k1, k2⟩ <;> rcases k100 with ⟨k3, k5⟩ | ⟨k3, k5⟩ <;> subst k2 <;> subst k5 <;> omega
theorem mo_facts (n : Int) : 0 ≤ dMo n ∧ dMo n ≤ 11 ∧ (153 * dMo n + 2) / 5 ≤ dDy n ∧ 1 ≤ gD n ∧ gD n ≤ ((GP.lenF (dMo n).toNat : Nat) : Int) ∧ ((dMo n = 11 ∧ gD n = 29) ↔ dDy n = 365) := by
  obtain ⟨_, _, h1, h2, _⟩ := yr_facts n
  unfold gD dMo
  generalize hx : dDy n = x at h1 h2
  obtain ⟨d, rfl⟩ : ∃ d : Nat, x = (d : Int) := ⟨x.toNat, by omega⟩
  obtain ⟨a1, a2, a3, a4⟩ := GP.month d (by omega)
  have e : (((5 * d + 2) / 153 : Nat) : Int) = (5 * (d : Int) + 2) / 153 := by omega
  rw [← e, Int.toNat_natCast]
  generalize (5 * d + 2) / 153 = m at a1 a2 a3 a4
  omega
def dtY (n : Int) : Int := if inR n = true then gY n else 0
def dtM (n : Int) : Int := if inR n = true then gM n else 0
def dtD (n : Int) : Int := if inR n = true then gD n else 0
def dtE (n : Int) : Int := if inR n = true then 0 else 2
theorem gdate_ok (n : Int) : FnOk cfg 17 [I n] (.tup [D (dtY n) (dtM n) (dtD n), I (dtE n)]) := by
  refine fnOk_eval [(21, ginG), (20, floorG)] (good_cons gin_good (good_cons floor_good good_nil)) mixed Tryd.func17 rfl rfl Tryd.ntmps17 (congrArg Array.toList Tryd.results17) (by simp) (by rfl) (by rfl) ?_
  cases hr : inR n with
  | false =>
    have z1 : dtY n = 0 := by simp [dtY, hr]
    have z2 : dtM n = 0 := by simp [dtM, hr]
    have z3 : dtD n = 0 := by simp [dtD, hr]
    have z4 : dtE n = 2 := by simp [dtE, hr]
    simp only [hr, z1, z2, z3, z4, go_sem, Nat.reduceAdd, Nat.reduceLT, Nat.reduceBEq, Nat.reduceEqDiff, reduceIte, reduceCtorEq, Nat.reduceLeDiff, Int.reduceEq, Int.reduceLT, Int.reduceLE, decide_true, decide_false, Int.reduceSub, Int.reduceAdd, Int.reduceMul, Int.reduceNeg, Int.reduceToNat, Nat.reduceMul, Nat.reduceSub, Int.cast_ofNat_Int, Int.reduceMod, Int.reduceDiv, Int.reduceTDiv, Int.reduceTMod]
    repeat' (first
      | ((with_reducible refine split_guard ?_ ?_) <;> intro hb <;> simp only [hb, hr, z1, z2, z3, z4, go_sem, Nat.reduceAdd, Nat.reduceLT, Nat.reduceBEq, Nat.reduceEqDiff, reduceIte, reduceCtorEq, Nat.reduceLeDiff, Int.reduceEq, Int.reduceLT, Int.reduceLE, decide_true, decide_false, Int.reduceSub, Int.reduceAdd, Int.reduceMul, Int.reduceNeg, Int.reduceToNat, Nat.reduceMul, Nat.reduceSub, Int.cast_ofNat_Int, Int.reduceMod, Int.reduceDiv, Int.reduceTDiv, Int.reduceTMod])
      | ((with_reducible refine split_cond ?_ ?_) <;> intro hb <;> simp only [hb, hr, z1, z2, z3, z4, go_sem, Nat.reduceAdd, Nat.reduceLT, Nat.reduceBEq, Nat.reduceEqDiff, reduceIte, reduceCtorEq, Nat.reduceLeDiff, Int.reduceEq, Int.reduceLT, Int.reduceLE, decide_true, decide_false, Int.reduceSub, Int.reduceAdd, Int.reduceMul, Int.reduceNeg, Int.reduceToNat, Nat.reduceMul, Nat.reduceSub, Int.cast_ofNat_Int, Int.reduceMod, Int.reduceDiv, Int.reduceTDiv, Int.reduceTMod])
      | ((with_reducible refine split_guardY ?_ ?_) <;> intro hb <;> simp only [hb, hr, z1, z2, z3, z4, go_sem, Nat.reduceAdd, Nat.reduceLT, Nat.reduceBEq, Nat.reduceEqDiff, reduceIte, reduceCtorEq, Nat.reduceLeDiff, Int.reduceEq, Int.reduceLT, Int.reduceLE, decide_true, decide_false, Int.reduceSub, Int.reduceAdd, Int.reduceMul, Int.reduceNeg, Int.reduceToNat, Nat.reduceMul, Nat.reduceSub, Int.cast_ofNat_Int, Int.reduceMod, Int.reduceDiv, Int.reduceTDiv, Int.reduceTMod])
      | (with_reducible refine and_order (by kernel_rfl) (by kernel_rfl) ?_)
      | (with_reducible exact orderOk_of (by kernel_rfl) (by kernel_rfl))
      | (with_reducible refine and_nomen ?_ ?_)
      | (with_reducible refine nomen_p (by kernel_rfl) ?_)
      | (with_reducible refine nomen_s (by kernel_rfl) ?_)
      | (with_reducible refine nomen_p0 (by kernel_rfl) ?_)
      | (with_reducible exact nomen_i (by kernel_rfl))
      | (with_reducible refine And.intro (by first | assumption | omega | (simp only [Bool.not_eq_true', Bool.not_eq_false', Bool.and_eq_true, Bool.and_eq_false_iff, decide_eq_true_eq, decide_eq_false_iff_not, Bool.or_eq_true, Bool.or_eq_false_iff, Bool.not_true, Bool.not_false, Bool.false_eq_true, false_iff, true_iff, bne_iff_ne, beq_iff_eq, ne_eq, iff_true, iff_false, not_and, not_or] at *; omega)) ?_)
      | ((with_reducible refine le_put ?_ ?_) <;> (try simp only [hr, z1, z2, z3, z4, go_sem, Nat.reduceAdd, Nat.reduceLT, Nat.reduceBEq, Nat.reduceEqDiff, reduceIte, reduceCtorEq, Nat.reduceLeDiff, Int.reduceEq, Int.reduceLT, Int.reduceLE, decide_true, decide_false, Int.reduceSub, Int.reduceAdd, Int.reduceMul, Int.reduceNeg, Int.reduceToNat, Nat.reduceMul, Nat.reduceSub, Int.cast_ofNat_Int, Int.reduceMod, Int.reduceDiv, Int.reduceTDiv, Int.reduceTMod]))
      | ((with_reducible refine le_box ?_ ?_) <;> (try simp only [hr, z1, z2, z3, z4, go_sem, Nat.reduceAdd, Nat.reduceLT, Nat.reduceBEq, Nat.reduceEqDiff, reduceIte, reduceCtorEq, Nat.reduceLeDiff, Int.reduceEq, Int.reduceLT, Int.reduceLE, decide_true, decide_false, Int.reduceSub, Int.reduceAdd, Int.reduceMul, Int.reduceNeg, Int.reduceToNat, Nat.reduceMul, Nat.reduceSub, Int.cast_ofNat_Int, Int.reduceMod, Int.reduceDiv, Int.reduceTDiv, Int.reduceTMod]))
      | (with_reducible exact le_base rfl)
      | (with_reducible exact nomen_b))
  | true =>
    have hn : -1099511627776 ≤ n ∧ n ≤ 1099511627776 := by simpa [inR] using hr
    have hE : -7600000 ≤ dEra n ∧ dEra n ≤ 7600000 := by unfold dEra; omega
    obtain ⟨ho1, ho2⟩ := of_facts n
    obtain ⟨hy1, hy2, hd1, hd2, _⟩ := yr_facts n
    obtain ⟨hm1, hm2, hm3, hg1, _, _⟩ := mo_facts n
    have hoE : n + 678881 - dEra n * 146097 = dOf n := rfl
    have hyE : (dOf n - dOf n / 1460 + dOf n / 36524 - dOf n / 146096) / 365 = dYr n := rfl
    have hdE : dOf n - (365 * dYr n + dYr n / 4 - dYr n / 100) = dDy n := rfl
    have hmE : (5 * dDy n + 2) / 153 = dMo n := rfl
    have hgE : dDy n - (153 * dMo n + 2) / 5 + 1 = gD n := rfl
    have e0 : IntKind.i64.wrap (n + 678881) = n + 678881 := i64_in' _ (by omega)
    have e1 : floorW (n + 678881) 146097 = dEra n := floorW_eq _ _ (by omega)
    have e2 : IntKind.i64.wrap (dEra n * 146097) = dEra n * 146097 := i64_in' _ (by omega)
    have e3 : IntKind.i64.wrap (n + 678881 - dEra n * 146097) = dOf n := i64_in' _ (by omega)
    have e4 : IntKind.i64.wrap ((dOf n).tdiv 1460) = dOf n / 1460 := (by rw [tdiv_nn _ _ (by omega)]; exact i64_in' _ (by omega))
    have e5 : IntKind.i64.wrap ((dOf n).tdiv 36524) = dOf n / 36524 := (by rw [tdiv_nn _ _ (by omega)]; exact i64_in' _ (by omega))
    have e6 : IntKind.i64.wrap ((dOf n).tdiv 146096) = dOf n / 146096 := (by rw [tdiv_nn _ _ (by omega)]; exact i64_in' _ (by omega))
    have e7 : IntKind.i64.wrap (dOf n - dOf n / 1460) = dOf n - dOf n / 1460 := i64_in' _ (by omega)
    have e8 : IntKind.i64.wrap (dOf n - dOf n / 1460 + dOf n / 36524) = dOf n - dOf n / 1460 + dOf n / 36524 := i64_in' _ (by omega)
    have e9 : IntKind.i64.wrap (dOf n - dOf n / 1460 + dOf n / 36524 - dOf n / 146096) = dOf n - dOf n / 1460 + dOf n / 36524 - dOf n / 146096 := i64_in' _ (by omega)
    have e10 : IntKind.i64.wrap ((dOf n - dOf n / 1460 + dOf n / 36524 - dOf n / 146096).tdiv 365) = dYr n := (by rw [tdiv_nn _ _ (by omega)]; exact i64_in' _ (by omega))
    have e11 : IntKind.i64.wrap (365 * dYr n) = 365 * dYr n := i64_in' _ (by omega)
    have e12 : IntKind.i64.wrap ((dYr n).tdiv 4) = dYr n / 4 := (by rw [tdiv_nn _ _ (by omega)]; exact i64_in' _ (by omega))
    have e13 : IntKind.i64.wrap ((dYr n).tdiv 100) = dYr n / 100 := (by rw [tdiv_nn _ _ (by omega)]; exact i64_in' _ (by omega))
    have e14 : IntKind.i64.wrap (365 * dYr n + dYr n / 4) = 365 * dYr n + dYr n / 4 := i64_in' _ (by omega)
    have e15 : IntKind.i64.wrap (365 * dYr n + dYr n / 4 - dYr n / 100) = 365 * dYr n + dYr n / 4 - dYr n / 100 := i64_in' _ (by omega)
    have e16 : IntKind.i64.wrap (dOf n - (365 * dYr n + dYr n / 4 - dYr n / 100)) = dDy n := i64_in' _ (by omega)
    have e17 : IntKind.i64.wrap (5 * dDy n) = 5 * dDy n := i64_in' _ (by omega)
    have e18 : IntKind.i64.wrap (5 * dDy n + 2) = 5 * dDy n + 2 := i64_in' _ (by omega)
    have e19 : IntKind.i64.wrap ((5 * dDy n + 2).tdiv 153) = dMo n := (by rw [tdiv_nn _ _ (by omega)]; exact i64_in' _ (by omega))
    have e20 : IntKind.i64.wrap (dEra n * 400) = dEra n * 400 := i64_in' _ (by omega)
    have e21 : IntKind.i64.wrap (dYr n + dEra n * 400) = dYr n + dEra n * 400 := i64_in' _ (by omega)
    have e22 : IntKind.i64.wrap (dMo n + 3) = dMo n + 3 := i64_in' _ (by omega)
    have e23 : IntKind.i64.wrap (153 * dMo n) = 153 * dMo n := i64_in' _ (by omega)
    have e24 : IntKind.i64.wrap (153 * dMo n + 2) = 153 * dMo n + 2 := i64_in' _ (by omega)
    have e25 : IntKind.i64.wrap ((153 * dMo n + 2).tdiv 5) = (153 * dMo n + 2) / 5 := (by rw [tdiv_nn _ _ (by omega)]; exact i64_in' _ (by omega))
    have e26 : IntKind.i64.wrap (dDy n - (153 * dMo n + 2) / 5) = dDy n - (153 * dMo n + 2) / 5 := i64_in' _ (by omega)
    have e27 : IntKind.i64.wrap (dDy n - (153 * dMo n + 2) / 5 + 1) = gD n := i64_in' _ (by omega)
    have e28 : IntKind.i64.wrap (dYr n + dEra n * 400 + 1) = dYr n + dEra n * 400 + 1 := i64_in' _ (by omega)
    have e29 : IntKind.i64.wrap (dMo n + 3 - 12) = dMo n + 3 - 12 := i64_in' _ (by omega)
    simp only [hr, e0, e1, e2, e3, e4, e5, e6, e7, e8, e9, e10, e11, e12, e13, e14, e15, e16, e17, e18, e19, e20, e21, e22, e23, e24, e25, e26, e27, e28, e29, go_sem, Nat.reduceAdd, Nat.reduceLT, Nat.reduceBEq, Nat.reduceEqDiff, reduceIte, reduceCtorEq, Nat.reduceLeDiff, Int.reduceEq, Int.reduceLT, Int.reduceLE, decide_true, decide_false, Int.reduceSub, Int.reduceAdd, Int.reduceMul, Int.reduceNeg, Int.reduceToNat, Nat.reduceMul, Nat.reduceSub, Int.cast_ofNat_Int, Int.reduceMod, Int.reduceDiv, Int.reduceTDiv, Int.reduceTMod]
    repeat' (first
      | ((with_reducible refine split_guard ?_ ?_) <;> intro hb <;> simp only [hb, hr, e0, e1, e2, e3, e4, e5, e6, e7, e8, e9, e10, e11, e12, e13, e14, e15, e16, e17, e18, e19, e20, e21, e22, e23, e24, e25, e26, e27, e28, e29, go_sem, Nat.reduceAdd, Nat.reduceLT, Nat.reduceBEq, Nat.reduceEqDiff, reduceIte, reduceCtorEq, Nat.reduceLeDiff, Int.reduceEq, Int.reduceLT, Int.reduceLE, decide_true, decide_false, Int.reduceSub, Int.reduceAdd, Int.reduceMul, Int.reduceNeg, Int.reduceToNat, Nat.reduceMul, Nat.reduceSub, Int.cast_ofNat_Int, Int.reduceMod, Int.reduceDiv, Int.reduceTDiv, Int.reduceTMod])
      | ((with_reducible refine split_cond ?_ ?_) <;> intro hb <;> simp only [hb, hr, e0, e1, e2, e3, e4, e5, e6, e7, e8, e9, e10, e11, e12, e13, e14, e15, e16, e17, e18, e19, e20, e21, e22, e23, e24, e25, e26, e27, e28, e29, go_sem, Nat.reduceAdd, Nat.reduceLT, Nat.reduceBEq, Nat.reduceEqDiff, reduceIte, reduceCtorEq, Nat.reduceLeDiff, Int.reduceEq, Int.reduceLT, Int.reduceLE, decide_true, decide_false, Int.reduceSub, Int.reduceAdd, Int.reduceMul, Int.reduceNeg, Int.reduceToNat, Nat.reduceMul, Nat.reduceSub, Int.cast_ofNat_Int, Int.reduceMod, Int.reduceDiv, Int.reduceTDiv, Int.reduceTMod])
      | ((with_reducible refine split_guardY ?_ ?_) <;> intro hb <;> simp only [hb, hr, e0, e1, e2, e3, e4, e5, e6, e7, e8, e9, e10, e11, e12, e13, e14, e15, e16, e17, e18, e19, e20, e21, e22, e23, e24, e25, e26, e27, e28, e29, go_sem, Nat.reduceAdd, Nat.reduceLT, Nat.reduceBEq, Nat.reduceEqDiff, reduceIte, reduceCtorEq, Nat.reduceLeDiff, Int.reduceEq, Int.reduceLT, Int.reduceLE, decide_true, decide_false, Int.reduceSub, Int.reduceAdd, Int.reduceMul, Int.reduceNeg, Int.reduceToNat, Nat.reduceMul, Nat.reduceSub, Int.cast_ofNat_Int, Int.reduceMod, Int.reduceDiv, Int.reduceTDiv, Int.reduceTMod])
      | (with_reducible refine and_order (by kernel_rfl) (by kernel_rfl) ?_)
      | (with_reducible exact orderOk_of (by kernel_rfl) (by kernel_rfl))
      | (with_reducible refine and_nomen ?_ ?_)
      | (with_reducible refine nomen_p (by kernel_rfl) ?_)
      | (with_reducible refine nomen_s (by kernel_rfl) ?_)
      | (with_reducible refine nomen_p0 (by kernel_rfl) ?_)
      | (with_reducible exact nomen_i (by kernel_rfl))
      | (with_reducible refine And.intro (by first | assumption | omega | (simp only [Bool.not_eq_true', Bool.not_eq_false', Bool.and_eq_true, Bool.and_eq_false_iff, decide_eq_true_eq, decide_eq_false_iff_not, Bool.or_eq_true, Bool.or_eq_false_iff, Bool.not_true, Bool.not_false, Bool.false_eq_true, false_iff, true_iff, bne_iff_ne, beq_iff_eq, ne_eq, iff_true, iff_false, not_and, not_or] at *; omega)) ?_)
      | ((with_reducible refine le_put ?_ ?_) <;> (try simp only [hr, e0, e1, e2, e3, e4, e5, e6, e7, e8, e9, e10, e11, e12, e13, e14, e15, e16, e17, e18, e19, e20, e21, e22, e23, e24, e25, e26, e27, e28, e29, go_sem, Nat.reduceAdd, Nat.reduceLT, Nat.reduceBEq, Nat.reduceEqDiff, reduceIte, reduceCtorEq, Nat.reduceLeDiff, Int.reduceEq, Int.reduceLT, Int.reduceLE, decide_true, decide_false, Int.reduceSub, Int.reduceAdd, Int.reduceMul, Int.reduceNeg, Int.reduceToNat, Nat.reduceMul, Nat.reduceSub, Int.cast_ofNat_Int, Int.reduceMod, Int.reduceDiv, Int.reduceTDiv, Int.reduceTMod]))
      | ((with_reducible refine le_box ?_ ?_) <;> (try simp only [hr, e0, e1, e2, e3, e4, e5, e6, e7, e8, e9, e10, e11, e12, e13, e14, e15, e16, e17, e18, e19, e20, e21, e22, e23, e24, e25, e26, e27, e28, e29, go_sem, Nat.reduceAdd, Nat.reduceLT, Nat.reduceBEq, Nat.reduceEqDiff, reduceIte, reduceCtorEq, Nat.reduceLeDiff, Int.reduceEq, Int.reduceLT, Int.reduceLE, decide_true, decide_false, Int.reduceSub, Int.reduceAdd, Int.reduceMul, Int.reduceNeg, Int.reduceToNat, Nat.reduceMul, Nat.reduceSub, Int.cast_ofNat_Int, Int.reduceMod, Int.reduceDiv, Int.reduceTDiv, Int.reduceTMod]))
      | (with_reducible exact le_base rfl)
      | (with_reducible exact nomen_b))
    all_goals simp only [Bool.not_eq_true', Bool.not_eq_false', Bool.and_eq_true, Bool.and_eq_false_iff, decide_eq_true_eq, decide_eq_false_iff_not, Bool.or_eq_true, Bool.or_eq_false_iff, Bool.not_true, Bool.not_false, Bool.false_eq_true, false_iff, true_iff, bne_iff_ne, beq_iff_eq, ne_eq, iff_true, iff_false, not_and, not_or] at *
    all_goals (refine ⟨?_, ?_⟩)
    all_goals simp [dtY, dtM, dtD, dtE, gY, gM, *]
noncomputable def gdateG : List AV → Option AV := ofRel fun args r => ∃ (n : Int), args = [I n] ∧ r = .tup [D (dtY n) (dtM n) (dtD n), I (dtE n)]
@[go_sem] theorem gdateG_eq (n : Int) : gdateG [I n] = some (.tup [D (dtY n) (dtM n) (dtD n), I (dtE n)]) :=
  ofRel_eq ⟨n, rfl, rfl⟩ (by rintro _ ⟨n', e, rfl⟩; simp at e; first | (obtain ⟨rfl⟩ := e; rfl) | (simp [e]))
theorem gdate_good : Good cfg 17 gdateG := fun args r h => by
  obtain ⟨_, rfl, rfl⟩ := ofRel_some h; exact ⟨gdate_ok _, rfl⟩

end Go.Proofs.YtnhdfmnmciminaaDoor
