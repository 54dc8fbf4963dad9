/-
  The calendar, in plain words: what a date's day and a day's date are.
-/
import Derived.IntWalk
namespace Go.Sy
set_option linter.unusedVariables false
set_option linter.unusedSimpArgs false
set_option maxHeartbeats 4000000
theorem tmod_z (y k : Int) : y.tmod k = 0 ↔ y % k = 0 := by rw [← Int.dvd_iff_tmod_eq_zero, ← Int.dvd_iff_emod_eq_zero]
/-- Has a year a day more? -/
def longY (y : Int) : Bool := decide (y % 400 = 0 ∨ y % 4 = 0 ∧ ¬ y % 100 = 0)
/-- A month's days. -/
def lenM (y m : Int) : Int := if m < 1 ∨ 12 < m then 0 else if m = 2 then (if longY y = true then 29 else 28) else if m = 4 ∨ m = 6 ∨ m = 9 ∨ m = 11 then 30 else 31
def dateOk (y m d : Int) : Bool := decide (1 ≤ d ∧ d ≤ lenM y m)
def inR (n : Int) : Bool := decide (-1099511627776 ≤ n ∧ n ≤ 1099511627776)
theorem wrap_s (n : Int) (h : 0 ≤ n ∧ n ≤ 11) : IntKind.i64.wrap n = n := IntWalk.i64_in n (by omega)
theorem i64_in' (n : Int) (h : -9223372036854775808 ≤ n ∧ n ≤ 9223372036854775807) : IntKind.i64.wrap n = n := IntWalk.i64_in n h
theorem tdiv_nn (a b : Int) (h : 0 ≤ a) : a.tdiv b = a / b := Int.tdiv_eq_ediv_of_nonneg h
/-- greg's floor, and the reference's. -/
def floorW (a b : Int) : Int := if a.tmod b < 0 then IntKind.i64.wrap (IntKind.i64.wrap (a.tdiv b) - 1) else IntKind.i64.wrap (a.tdiv b)
def rfW (a b : Int) : Int := if a < IntKind.i64.wrap (IntKind.i64.wrap (a.tdiv b) * b) then IntKind.i64.wrap (IntKind.i64.wrap (a.tdiv b) - 1) else IntKind.i64.wrap (a.tdiv b)
theorem tdiv_facts (a b : Int) (hb : 0 < b) : a.tdiv b * b + a.tmod b = a ∧ (0 ≤ a → 0 ≤ a.tmod b ∧ a.tmod b < b) ∧ (a ≤ 0 → -b < a.tmod b ∧ a.tmod b ≤ 0) := by
  refine ⟨by rw [Int.mul_comm]; exact Int.mul_tdiv_add_tmod a b, fun h => ⟨Int.tmod_nonneg _ h, Int.tmod_lt_of_pos _ hb⟩, fun h => ?_⟩
  have h1 := Int.tmod_lt_of_pos (-a) hb
  have h2 := Int.tmod_nonneg b (show 0 ≤ -a by omega)
  rw [Int.neg_tmod] at h1 h2
  omega
theorem ediv_is {a b q r : Int} (hb : 0 < b) (h : q * b + r = a) (h0 : 0 ≤ r) (h1 : r < b) : a / b = q := by
  have e : a = b * q + r := by rw [Int.mul_comm]; exact h.symm
  rw [e, Int.mul_add_ediv_left _ _ (by omega), Int.ediv_eq_zero_of_lt h0 h1, Int.add_zero]
theorem tdiv_range (a b : Int) (hb : 0 < b) (h : -1000000000000000000 ≤ a ∧ a ≤ 1000000000000000000) : -1000000000000000000 ≤ a.tdiv b ∧ a.tdiv b ≤ 1000000000000000000 := by
  have h1 := Int.natAbs_tdiv_le_natAbs a b
  omega
theorem floorW_eq (a b : Int) (h : 0 < b ∧ -1000000000000000000 ≤ a ∧ a ≤ 1000000000000000000) : floorW a b = a / b := by
  obtain ⟨e, h1, h2⟩ := tdiv_facts a b h.1
  have hr := tdiv_range a b h.1 h.2
  rw [floorW, i64_in' (a.tdiv b) (by omega)]
  split
  · rw [i64_in' _ (by omega)]
    refine (ediv_is (r := a.tmod b + b) h.1 ?_ (by omega) (by omega)).symm
    rw [Int.sub_mul]; omega
  · exact (ediv_is (r := a.tmod b) h.1 e (by omega) (by omega)).symm
theorem rfW_eq (a b : Int) (h : 0 < b ∧ -1000000000000000000 ≤ a ∧ a ≤ 1000000000000000000) : rfW a b = a / b := by
  obtain ⟨e, h1, h2⟩ := tdiv_facts a b h.1
  have hr := tdiv_range a b h.1 h.2
  have hm : -b < a.tmod b ∧ a.tmod b < b := by omega
  have habs : -1000000000000000000 ≤ a.tdiv b * b ∧ a.tdiv b * b ≤ 1000000000000000000 := by
    rcases Int.le_total 0 a with hp | hp
    · have := h1 hp
      have q0 : 0 ≤ a.tdiv b := Int.tdiv_nonneg hp (by omega)
      have := Int.mul_nonneg q0 (show 0 ≤ b by omega)
      omega
    · have := h2 hp
      have q0 : 0 ≤ (-a).tdiv b := Int.tdiv_nonneg (by omega) (by omega)
      rw [Int.neg_tdiv] at q0
      have := Int.mul_nonneg q0 (show 0 ≤ b by omega)
      rw [Int.neg_mul] at this
      omega
  rw [rfW, i64_in' (a.tdiv b) (by omega), i64_in' (a.tdiv b * b) (by omega)]
  split
  · rw [i64_in' _ (by omega)]
    refine (ediv_is (r := a.tmod b + b) h.1 ?_ (by omega) (by omega)).symm
    rw [Int.sub_mul]; omega
  · exact (ediv_is (r := a.tmod b) h.1 e (by omega) (by omega)).symm
/-- The first day of a year. -/
def firstY (y : Int) : Int := 365 * y + (y + 3) / 4 - (y + 99) / 100 + (y + 399) / 400 - 678941
def firstW (y : Int) : Int := IntKind.i64.wrap (IntKind.i64.wrap (IntKind.i64.wrap (IntKind.i64.wrap (IntKind.i64.wrap (365 * y) + rfW (IntKind.i64.wrap (y + 3)) 4) - rfW (IntKind.i64.wrap (y + 99)) 100) + rfW (IntKind.i64.wrap (y + 399)) 400) - 678941)
theorem firstW_eq (y : Int) (h : -1000000000000 ≤ y ∧ y ≤ 1000000000000) : firstW y = firstY y := by
  simp (disch := omega) only [firstW, firstY, i64_in', rfW_eq]
/-- A date's day, by greg; and the error. -/
def dayX (y m d : Int) : Int := y / 400 * 146097 + (y - y / 400 * 400) * 365 + (y - y / 400 * 400) / 4 - (y - y / 400 * 400) / 100 + (153 * m + 2) / 5 + d - 1 - 678881
def dayM (y m d : Int) : Int := if m < 3 then dayX (y - 1) (m - 3 + 12) d else dayX y (m - 3) d
def dayE (y m d : Int) : Int := if dateOk y m d = false then 5 else if y < -4000000000 ∨ 4000000000 < y then 2 else if inR (dayM y m d) = false then 2 else 0
def dayN (y m d : Int) : Int := if dayE y m d = 0 then dayM y m d else 0
theorem dateOk_m {y m d : Int} (h : dateOk y m d = true) : 1 ≤ m ∧ m ≤ 12 ∧ 1 ≤ d ∧ d ≤ 31 := by
  rw [dateOk, decide_eq_true_eq, lenM] at h
  by_cases h1 : m < 1 ∨ 12 < m
  · rw [if_pos h1] at h; omega
  · rw [if_neg h1] at h
    have : (if m = 2 then (if longY y = true then 29 else 28) else if m = 4 ∨ m = 6 ∨ m = 9 ∨ m = 11 then 30 else (31 : Int)) ≤ 31 := by
      repeat' split
      all_goals omega
    omega
/-- The days of a year's months ahead of the k-th. -/
def sumL (y k : Int) : Int := (if k ≤ 1 then 0 else if k = 2 then 31 else if k = 3 then 59 else if k = 4 then 90 else if k = 5 then 120 else if k = 6 then 151 else if k = 7 then 181 else if k = 8 then 212 else if k = 9 then 243 else if k = 10 then 273 else if k = 11 then 304 else 334) + (if 2 < k ∧ longY y = true then 1 else 0)
theorem sumL_next (y k : Int) (h : 1 ≤ k ∧ k < 12) : sumL y (k + 1) = sumL y k + lenM y k := by
  have hm : k = 1 ∨ k = 2 ∨ k = 3 ∨ k = 4 ∨ k = 5 ∨ k = 6 ∨ k = 7 ∨ k = 8 ∨ k = 9 ∨ k = 10 ∨ k = 11 := by omega
  cases hl : longY y <;> rcases hm with rfl | rfl | rfl | rfl | rfl | rfl | rfl | rfl | rfl | rfl | rfl <;> simp [sumL, lenM, hl]
theorem sumL_in (y k : Int) : 0 ≤ sumL y k ∧ sumL y k ≤ 335 := by
  unfold sumL
  repeat' split
  all_goals omega
theorem lenM_in (y k : Int) : 0 ≤ lenM y k ∧ lenM y k ≤ 31 := by
  unfold lenM
  repeat' split
  all_goals omega
theorem sumL_one (y : Int) : sumL y 1 = 0 := by simp [sumL]
/-- A date's day, by the reference. -/
def rdayM (y m d : Int) : Int := firstY y + d - 1 + sumL y m
def rdayE (y m d : Int) : Int := if dateOk y m d = false then 5 else if y < -8589934592 ∨ 8589934592 < y then 2 else if inR (rdayM y m d) = false then 2 else 0
def rdayN (y m d : Int) : Int := if rdayE y m d = 0 then rdayM y m d else 0
theorem firstY_in {y : Int} (h : -100000000000 ≤ y ∧ y ≤ 100000000000) : -50000000000000 ≤ firstY y ∧ firstY y ≤ 50000000000000 := by unfold firstY; omega
theorem day_same {y m d : Int} (ok : dateOk y m d = true) : dayM y m d = rdayM y m d := by
  have hm := dateOk_m ok
  have hc : m = 1 ∨ m = 2 ∨ m = 3 ∨ m = 4 ∨ m = 5 ∨ m = 6 ∨ m = 7 ∨ m = 8 ∨ m = 9 ∨ m = 10 ∨ m = 11 ∨ m = 12 := by omega
  clear ok hm
  cases hl : longY y with
  | true =>
    simp only [longY, decide_eq_true_eq] at hl
    have hl' : longY y = true := by simpa [longY] using hl
    rcases hc with rfl | rfl | rfl | rfl | rfl | rfl | rfl | rfl | rfl | rfl | rfl | rfl <;> simp [dayM, dayX, rdayM, firstY, sumL, hl'] <;> omega
  | false =>
    simp only [longY, decide_eq_false_iff_not] at hl
    have hl' : longY y = false := by simpa [longY] using hl
    rcases hc with rfl | rfl | rfl | rfl | rfl | rfl | rfl | rfl | rfl | rfl | rfl | rfl <;> simp [dayM, dayX, rdayM, firstY, sumL, hl'] <;> omega
theorem day_far {y m d : Int} (ok : dateOk y m d = true) (hy : y < -4000000000 ∨ 4000000000 < y) : inR (rdayM y m d) = false := by
  have hm := dateOk_m ok
  have hs := sumL_in y m
  generalize hS : sumL y m = S at hs
  rw [inR, decide_eq_false_iff_not, rdayM, hS, firstY]
  intro hh
  rcases hy with hy | hy <;> omega
theorem days_same (y m d : Int) : dayE y m d = rdayE y m d ∧ dayN y m d = rdayN y m d := by
  have he : dayE y m d = rdayE y m d := by
    unfold dayE rdayE
    cases ok : dateOk y m d with
    | false => simp
    | true =>
      rw [day_same ok]
      simp only [Bool.true_eq_false, if_false]
      by_cases hy : y < -4000000000 ∨ 4000000000 < y
      · rw [if_pos hy, day_far ok hy]; simp
      · have h2 : ¬ (y < -8589934592 ∨ 8589934592 < y) := by omega
        rw [if_neg hy, if_neg h2]
  refine ⟨he, ?_⟩
  unfold dayN rdayN
  rw [← he]
  by_cases h0 : dayE y m d = 0
  · rw [if_pos h0, if_pos h0]
    have ok : dateOk y m d = true := by
      cases ok : dateOk y m d with
      | false => simp [dayE, ok] at h0
      | true => rfl
    exact day_same ok
  · rw [if_neg h0, if_neg h0]
theorem dayE_s (y m d : Int) : dayE y m d = rdayE y m d := (days_same y m d).1
theorem dayN_s (y m d : Int) : dayN y m d = rdayN y m d := (days_same y m d).2
namespace GP
/-- The days of a cycle ahead of its year y, which begins in March. -/
def S (y : Nat) : Nat := 365 * y + y / 4 - y / 100
def F (o : Nat) : Nat := o - o / 1460 + o / 36524 - o / 146096
theorem F_step (o : Nat) : F o ≤ F (o + 1) := by
  have e : ∀ x : Nat, x / 146096 = (x / 36524) / 4 := fun x => by rw [Nat.div_div_eq_div_mul]
  unfold F
  rw [e, e]
  generalize hq : o / 36524 = q
  generalize hq' : (o + 1) / 36524 = q'
  have h1 : q ≤ q' := by omega
  have h2 : q' ≤ q + 1 := by omega
  have h3 : (o + 1) / 1460 ≤ o / 1460 + 1 := by omega
  have h4 : o / 1460 ≤ o := by omega
  omega
theorem F_mono {a b : Nat} (h : a ≤ b) : F a ≤ F b := by
  induction b with
  | zero => have : a = 0 := by omega
            subst this; exact Nat.le_refl _
  | succ b ih =>
    rcases Nat.lt_or_ge b a with h' | h'
    · have : a = b + 1 := by omega
      subst this; exact Nat.le_refl _
    · exact Nat.le_trans (ih h') (F_step b)
theorem ends : ∀ y, y < 400 → 365 * y ≤ F (S y) ∧ F (if y = 399 then 146096 else S (y + 1) - 1) < 365 * (y + 1) ∧ S y < S (y + 1) := by decide +kernel
theorem find (o : Nat) : ∀ k, o < S k → ∃ y, y < k ∧ S y ≤ o ∧ o < S (y + 1) := by
  intro k
  induction k with
  | zero => intro h; simp [S] at h
  | succ k ih =>
    intro h
    rcases Nat.lt_or_ge o (S k) with h' | h'
    · obtain ⟨y, h1, h2⟩ := ih h'; exact ⟨y, by omega, h2⟩
    · exact ⟨k, by omega, h', h⟩
theorem year (o : Nat) (h : o < 146097) : F o / 365 < 400 ∧ S (F o / 365) ≤ o ∧ (o < S (F o / 365 + 1) ∨ F o / 365 = 399) := by
  have key : ∃ y, y < 400 ∧ S y ≤ o ∧ (o < S (y + 1) ∨ y = 399) := by
    rcases Nat.lt_or_ge o (S 400) with h' | h'
    · obtain ⟨y, h1, h2, h3⟩ := find o 400 h'; exact ⟨y, h1, h2, .inl h3⟩
    · refine ⟨399, by omega, ?_, .inr rfl⟩
      have : S 399 ≤ S 400 := by decide +kernel
      omega
  obtain ⟨y, h1, h2, h3⟩ := key
  obtain ⟨e1, e2, _⟩ := ends y h1
  have a1 := F_mono h2
  have a2 : F o ≤ F (if y = 399 then 146096 else S (y + 1) - 1) := F_mono (by split <;> omega)
  have : F o / 365 = y := by omega
  rw [this]
  exact ⟨h1, h2, h3⟩
/-- The months, from March on. -/
def lenF (m : Nat) : Nat := [31, 30, 31, 30, 31, 31, 30, 31, 30, 31, 31, 29].getD m 0
theorem month : ∀ d, d < 366 → (5 * d + 2) / 153 < 12 ∧ (153 * ((5 * d + 2) / 153) + 2) / 5 ≤ d ∧ d - (153 * ((5 * d + 2) / 153) + 2) / 5 + 1 ≤ lenF ((5 * d + 2) / 153) ∧
    (((5 * d + 2) / 153 = 11 ∧ d - (153 * ((5 * d + 2) / 153) + 2) / 5 + 1 = 29) ↔ d = 365) := by decide +kernel
end GP
/-- A day's date, as greg computes it. -/
def dEra (n : Int) : Int := (n + 678881) / 146097
def dOf (n : Int) : Int := n + 678881 - dEra n * 146097
def dYr (n : Int) : Int := (dOf n - dOf n / 1460 + dOf n / 36524 - dOf n / 146096) / 365
def dDy (n : Int) : Int := dOf n - (365 * dYr n + dYr n / 4 - dYr n / 100)
def dMo (n : Int) : Int := (5 * dDy n + 2) / 153
def gY (n : Int) : Int := if 12 < dMo n + 3 then dYr n + dEra n * 400 + 1 else dYr n + dEra n * 400
def gM (n : Int) : Int := if 12 < dMo n + 3 then dMo n + 3 - 12 else dMo n + 3
def gD (n : Int) : Int := dDy n - (153 * dMo n + 2) / 5 + 1
theorem of_facts (n : Int) : 0 ≤ dOf n ∧ dOf n < 146097 := by unfold dOf dEra; omega
theorem yr_facts (n : Int) : 0 ≤ dYr n ∧ dYr n ≤ 399 ∧ 0 ≤ dDy n ∧ dDy n ≤ 365 ∧ (dDy n = 365 → (dYr n = 399 ∨ (dYr n + 1) % 4 = 0 ∧ ¬ (dYr n + 1) % 100 = 0)) := by
  have ho := of_facts n
  unfold dDy dYr
  generalize hx : dOf n = x at ho
  obtain ⟨o, rfl⟩ : ∃ o : Nat, x = (o : Int) := ⟨x.toNat, by omega⟩
  obtain ⟨h1, h2, h3⟩ := GP.year o (by omega)
  have e : ((GP.F o / 365 : Nat) : Int) = ((o : Int) - (o : Int) / 1460 + (o : Int) / 36524 - (o : Int) / 146096) / 365 := by unfold GP.F; omega
  rw [← e]
  generalize GP.F o / 365 = y at h1 h2 h3
  clear e
  have k4 : ((y + 1) % 4 = 0 ∧ (y + 1) / 4 = y / 4 + 1) ∨ (¬ (y + 1) % 4 = 0 ∧ (y + 1) / 4 = y / 4) := by omega
  have k100 : ((y + 1) % 100 = 0 ∧ (y + 1) / 100 = y / 100 + 1) ∨ (¬ (y + 1) % 100 = 0 ∧ (y + 1) / 100 = y / 100) := by omega
  have c4 : ((y : Int) + 1) % 4 = (((y + 1) % 4 : Nat) : Int) := by omega
  have c100 : ((y : Int) + 1) % 100 = (((y + 1) % 100 : Nat) : Int) := by omega
  have b4 : ((y / 4 : Nat) : Int) = (y : Int) / 4 := by omega
  have b100 : ((y / 100 : Nat) : Int) = (y : Int) / 100 := by omega
  have l1 : y / 100 ≤ y / 4 := by omega
  have y399 : y = 399 → y / 4 = 99 ∧ y / 100 = 3 := by omega
  rw [c4, c100, ← b4, ← b100]
  unfold GP.S at h2 h3
  generalize (y + 1) % 4 = p at k4
  generalize (y + 1) % 100 = q at k100
  generalize (y + 1) / 4 = u at k4 h3
  generalize (y + 1) / 100 = v at k100 h3
  generalize y / 4 = u' at k4 h2 l1 y399
  generalize y / 100 = v' at k100 h2 l1 y399
  rcases k4 with ⟨k1, k2⟩ | ⟨k1, k2⟩ <;> rcases k100 with ⟨k3, k5⟩ | ⟨k3, k5⟩ <;> subst k2 <;> subst k5 <;> omega
theorem mo_facts (n : Int) : 0 ≤ dMo n ∧ dMo n ≤ 11 ∧ (153 * dMo n + 2) / 5 ≤ dDy n ∧ 1 ≤ gD n ∧ gD n ≤ ((GP.lenF (dMo n).toNat : Nat) : Int) ∧ ((dMo n = 11 ∧ gD n = 29) ↔ dDy n = 365) := by
  obtain ⟨_, _, h1, h2, _⟩ := yr_facts n
  unfold gD dMo
  generalize hx : dDy n = x at h1 h2
  obtain ⟨d, rfl⟩ : ∃ d : Nat, x = (d : Int) := ⟨x.toNat, by omega⟩
  obtain ⟨a1, a2, a3, a4⟩ := GP.month d (by omega)
  have e : (((5 * d + 2) / 153 : Nat) : Int) = (5 * (d : Int) + 2) / 153 := by omega
  rw [← e, Int.toNat_natCast]
  generalize (5 * d + 2) / 153 = m at a1 a2 a3 a4
  omega
def dtY (n : Int) : Int := if inR n = true then gY n else 0
def dtM (n : Int) : Int := if inR n = true then gM n else 0
def dtD (n : Int) : Int := if inR n = true then gD n else 0
def dtE (n : Int) : Int := if inR n = true then 0 else 2
theorem date_day (n : Int) : dayM (gY n) (gM n) (gD n) = n := by
  obtain ⟨hy1, hy2, hd1, hd2, _⟩ := yr_facts n
  obtain ⟨hm1, hm2, hm3, hg1, _, _⟩ := mo_facts n
  have hE : n + 678881 = dEra n * 146097 + dOf n := by unfold dOf; omega
  have hO : dOf n = 365 * dYr n + dYr n / 4 - dYr n / 100 + dDy n := by unfold dDy; omega
  have hD : gD n = dDy n - (153 * dMo n + 2) / 5 + 1 := rfl
  unfold dayM gY gM
  by_cases h : 12 < dMo n + 3
  · rw [if_pos h, if_pos h, if_pos (by omega)]
    unfold dayX
    have e1 : (dYr n + dEra n * 400 + 1 - 1) / 400 = dEra n := by omega
    have e2 : dMo n + 3 - 12 - 3 + 12 = dMo n := by omega
    rw [e1, e2]
    have e3 : dYr n + dEra n * 400 + 1 - 1 - dEra n * 400 = dYr n := by omega
    rw [e3]; omega
  · rw [if_neg h, if_neg h, if_neg (by omega)]
    unfold dayX
    have e1 : (dYr n + dEra n * 400) / 400 = dEra n := by omega
    have e2 : dMo n + 3 - 3 = dMo n := by omega
    rw [e1, e2]
    have e3 : dYr n + dEra n * 400 - dEra n * 400 = dYr n := by omega
    rw [e3]; omega
theorem date_ok (n : Int) : dateOk (gY n) (gM n) (gD n) = true := by
  obtain ⟨hy1, hy2, hd1, hd2, hl⟩ := yr_facts n
  obtain ⟨hm1, hm2, hm3, hg1, hg2, hg3⟩ := mo_facts n
  rw [dateOk, decide_eq_true_eq]
  refine ⟨hg1, ?_⟩
  have hc : dMo n = 0 ∨ dMo n = 1 ∨ dMo n = 2 ∨ dMo n = 3 ∨ dMo n = 4 ∨ dMo n = 5 ∨ dMo n = 6 ∨ dMo n = 7 ∨ dMo n = 8 ∨ dMo n = 9 ∨ dMo n = 10 ∨ dMo n = 11 := by omega
  rcases hc with e | e | e | e | e | e | e | e | e | e | e | e
  case inr.inr.inr.inr.inr.inr.inr.inr.inr.inr.inr =>
    have e29 : gD n ≤ 29 := by rw [e] at hg2; simpa [GP.lenF] using hg2
    have em : gM n = 2 := by rw [gM, e]; rfl
    have ey : gY n = dYr n + dEra n * 400 + 1 := by rw [gY, if_pos (by omega)]
    rw [em]
    by_cases h29 : gD n = 29
    · have hlong : longY (gY n) = true := by
        have := hl (hg3.1 ⟨e, h29⟩)
        rw [longY, decide_eq_true_eq, ey]; omega
      simp [lenM, hlong]; omega
    · simp only [lenM]; split <;> simp <;> (try split) <;> omega
  all_goals (have em : gM n = if 12 < dMo n + 3 then dMo n + 3 - 12 else dMo n + 3 := rfl; rw [e] at em hg2; simp [GP.lenF] at em hg2; rw [em]; simp [lenM]; omega)
theorem first_next (y : Int) : firstY (y + 1) = firstY y + 365 + (if longY y = true then 1 else 0) := by
  cases hl : longY y with
  | true => simp only [longY, decide_eq_true_eq] at hl; simp only [if_true]; unfold firstY; omega
  | false => simp only [longY, decide_eq_false_iff_not] at hl; simp only [Bool.false_eq_true, if_false]; unfold firstY; omega
theorem first_mono {a b : Int} (h : a ≤ b) : firstY a ≤ firstY b := by unfold firstY; omega
theorem year_end (y m : Int) (h : 1 ≤ m ∧ m ≤ 12) : sumL y m + lenM y m ≤ 365 + (if longY y = true then 1 else 0) := by
  have hm : m = 1 ∨ m = 2 ∨ m = 3 ∨ m = 4 ∨ m = 5 ∨ m = 6 ∨ m = 7 ∨ m = 8 ∨ m = 9 ∨ m = 10 ∨ m = 11 ∨ m = 12 := by omega
  cases hl : longY y <;> rcases hm with rfl | rfl | rfl | rfl | rfl | rfl | rfl | rfl | rfl | rfl | rfl | rfl <;> simp [sumL, lenM, hl]
theorem date_in (n : Int) : 1 ≤ gM n ∧ gM n ≤ 12 ∧ 1 ≤ gD n ∧ gD n ≤ lenM (gY n) (gM n) ∧ firstY (gY n) + gD n - 1 + sumL (gY n) (gM n) = n ∧ firstY (gY n) ≤ n ∧ n < firstY (gY n + 1) := by
  have hm := dateOk_m (date_ok n)
  have hd : 1 ≤ gD n ∧ gD n ≤ lenM (gY n) (gM n) := by have := date_ok n; rw [dateOk, decide_eq_true_eq] at this; exact this
  have hr := (day_same (date_ok n)).symm.trans (date_day n)
  have hs := sumL_in (gY n) (gM n)
  have he := year_end (gY n) (gM n) ⟨hm.1, hm.2.1⟩
  have hf := first_next (gY n)
  unfold rdayM at hr
  omega
theorem gY_in {n : Int} (hp : inR n = true) : -3100000000 ≤ gY n ∧ gY n ≤ 3100000000 := by
  have hn : -1099511627776 ≤ n ∧ n ≤ 1099511627776 := by simpa [inR] using hp
  have hE : -7600000 ≤ dEra n ∧ dEra n ≤ 7600000 := by unfold dEra; omega
  obtain ⟨hy1, hy2, _⟩ := yr_facts n
  unfold gY; split <;> omega
theorem loop_y {n y : Int} (hp : inR n = true) (hk : -10000000000 ≤ y ∧ y ≤ gY n) : (firstW (IntKind.i64.wrap (y + 1)) ≤ n ↔ y < gY n) ∧ IntKind.i64.wrap (y + 1) = y + 1 := by
  have hg := gY_in hp
  have e : IntKind.i64.wrap (y + 1) = y + 1 := i64_in' _ (by omega)
  obtain ⟨_, _, _, _, _, h1, h2⟩ := date_in n
  rw [e, firstW_eq _ (by omega)]
  refine ⟨⟨fun h => ?_, fun h => ?_⟩, rfl⟩
  · rcases Int.lt_or_le y (gY n) with h' | h'
    · exact h'
    · have : y = gY n := by omega
      subst this; omega
  · exact Int.le_trans (first_mono (show y + 1 ≤ gY n by omega)) h1
theorem sumL_mono (y : Int) (k : Nat) : ∀ a : Int, 1 ≤ a → a + k ≤ 12 → sumL y a ≤ sumL y (a + k) := by
  induction k with
  | zero => intro a _ _; simp
  | succ k ih =>
    intro a h1 h2
    have h3 := sumL_next y a (by omega)
    have h4 := lenM_in y a
    have h5 := ih (a + 1) (by omega) (by omega)
    have e : a + ((k + 1 : Nat) : Int) = a + 1 + k := by omega
    rw [e]; omega
theorem loop_m {n m : Int} (hk : 1 ≤ m ∧ m ≤ gM n) : lenM (gY n) m ≤ gD n - 1 + sumL (gY n) (gM n) - sumL (gY n) m ↔ m < gM n := by
  obtain ⟨h1, h2, h3, h4, _⟩ := date_in n
  refine ⟨fun h => ?_, fun h => ?_⟩
  · rcases Int.lt_or_le m (gM n) with h' | h'
    · exact h'
    · have : m = gM n := by omega
      subst this; omega
  · have e1 := sumL_next (gY n) m (by omega)
    have e2 := sumL_mono (gY n) (gM n - (m + 1)).toNat (m + 1) (by omega) (by omega)
    have e3 : m + 1 + (((gM n - (m + 1)).toNat : Nat) : Int) = gM n := by omega
    rw [e3] at e2; omega
theorem uniq {y m d n : Int} (ok : dateOk y m d = true) (h : rdayM y m d = n) : y = gY n ∧ m = gM n ∧ d = gD n := by
  obtain ⟨h1, h2, h3, h4, h5, h6, h7⟩ := date_in n
  have hm := dateOk_m ok
  have hd : 1 ≤ d ∧ d ≤ lenM y m := by rw [dateOk, decide_eq_true_eq] at ok; exact ok
  have he := year_end y m ⟨hm.1, hm.2.1⟩
  have hf := first_next y
  have hs := sumL_in y m
  unfold rdayM at h
  have hy : y = gY n := by
    rcases Int.lt_trichotomy y (gY n) with h' | h' | h'
    · have := first_mono (show y + 1 ≤ gY n by omega); omega
    · exact h'
    · have := first_mono (show gY n + 1 ≤ y by omega); omega
  subst hy
  have hmm : m = gM n := by
    rcases Int.lt_trichotomy m (gM n) with h' | h' | h'
    · have e1 := sumL_next (gY n) m (by omega)
      have e2 := sumL_mono (gY n) (gM n - (m + 1)).toNat (m + 1) (by omega) (by omega)
      rw [show m + 1 + (((gM n - (m + 1)).toNat : Nat) : Int) = gM n by omega] at e2
      omega
    · exact h'
    · have e1 := sumL_next (gY n) (gM n) (by omega)
      have e2 := sumL_mono (gY n) (m - (gM n + 1)).toNat (gM n + 1) (by omega) (by omega)
      rw [show gM n + 1 + (((m - (gM n + 1)).toNat : Nat) : Int) = m by omega] at e2
      omega
  subst hmm
  omega
theorem dayE_date {n : Int} (hp : inR n = true) : dayE (gY n) (gM n) (gD n) = 0 := by
  have hg := gY_in hp
  rw [dayE, date_ok, date_day, hp]; simp; omega
theorem dayN_date {n : Int} (hp : inR n = true) : dayN (gY n) (gM n) (gD n) = n := by
  rw [dayN, if_pos (dayE_date hp), date_day]
theorem dt_t {n : Int} (hp : inR n = true) : dtY n = gY n ∧ dtM n = gM n ∧ dtD n = gD n ∧ dtE n = 0 := by simp [dtY, dtM, dtD, dtE, hp]
theorem dt_f {n : Int} (hp : inR n = false) : dtY n = 0 ∧ dtM n = 0 ∧ dtD n = 0 ∧ dtE n = 2 := by simp [dtY, dtM, dtD, dtE, hp]
theorem long_400 (y : Int) : longY (y + 400) = longY y := by unfold longY; rw [decide_eq_decide]; omega
theorem ok_400 (y m d : Int) : dateOk (y + 400) m d = dateOk y m d := by
  have e : lenM (y + 400) m = lenM y m := by unfold lenM; rw [long_400]
  unfold dateOk; rw [e]
theorem day_400 (y m d : Int) : dayM (y + 400) m d = dayM y m d + 146097 := by
  unfold dayM
  split
  · unfold dayX; omega
  · unfold dayX; omega
theorem dayE_0 {y m d : Int} (h : dayE y m d = 0) : dateOk y m d = true ∧ (-4000000000 ≤ y ∧ y ≤ 4000000000) ∧ (-1099511627776 ≤ dayM y m d ∧ dayM y m d ≤ 1099511627776) ∧ dayN y m d = dayM y m d := by
  have hN : dayN y m d = dayM y m d := by rw [dayN, if_pos h]
  unfold dayE at h
  cases ok : dateOk y m d with
  | false => rw [ok] at h; simp at h
  | true =>
    rw [ok] at h
    simp only [Bool.true_eq_false, if_false] at h
    by_cases hy : y < -4000000000 ∨ 4000000000 < y
    · rw [if_pos hy] at h; simp at h
    · rw [if_neg hy] at h
      cases hi : inR (dayM y m d) with
      | false => rw [hi] at h; simp at h
      | true => exact ⟨rfl, by omega, by simpa [inR] using hi, hN⟩
theorem cycle {y m d : Int} (h : dayE y m d = 0) (hy : ¬ 2147483648 < y) : IntKind.i64.wrap (y + 400) = y + 400 ∧
    ((dayE (y + 400) m d = 0 ∧ dayN (y + 400) m d = dayN y m d + 146097) ∨ (dayE (y + 400) m d = 2 ∧ 1099511481679 < dayN y m d)) := by
  obtain ⟨ok, h1, h2, h3⟩ := dayE_0 h
  refine ⟨i64_in' _ (by omega), ?_⟩
  have h4 := day_400 y m d
  have e : dayE (y + 400) m d = if inR (dayM y m d + 146097) = false then 2 else 0 := by
    rw [dayE, ok_400, ok, h4, if_neg (by simp), if_neg (by omega)]
  cases hi : inR (dayM y m d + 146097) with
  | false =>
    right
    rw [e, hi, h3]
    simp only [inR, decide_eq_false_iff_not] at hi
    exact ⟨rfl, by omega⟩
  | true =>
    left
    rw [hi] at e
    have e' : dayE (y + 400) m d = 0 := by rw [e]; rfl
    exact ⟨e', by rw [dayN, if_pos e', h4, h3]⟩
/-- The next day's date. -/
theorem next_d {n : Int} (h : gD n + 1 ≤ lenM (gY n) (gM n)) : gY n = gY (n + 1) ∧ gM n = gM (n + 1) ∧ gD n + 1 = gD (n + 1) := by
  obtain ⟨h1, h2, h3, h4, h5, _⟩ := date_in n
  exact uniq (by rw [dateOk, decide_eq_true_eq]; omega) (by unfold rdayM; omega)
theorem next_m {n : Int} (h : ¬ gD n + 1 ≤ lenM (gY n) (gM n)) (hm : gM n < 12) : gY n = gY (n + 1) ∧ gM n + 1 = gM (n + 1) ∧ 1 = gD (n + 1) := by
  obtain ⟨h1, h2, h3, h4, h5, _⟩ := date_in n
  have e := sumL_next (gY n) (gM n) (by omega)
  refine uniq ?_ (by unfold rdayM; omega)
  rw [dateOk, decide_eq_true_eq]
  refine ⟨by omega, ?_⟩
  unfold lenM
  rw [if_neg (by omega)]
  repeat' split
  all_goals omega
theorem next_y {n : Int} (h : ¬ gD n + 1 ≤ lenM (gY n) (gM n)) (hm : ¬ gM n < 12) : gY n + 1 = gY (n + 1) ∧ 1 = gM (n + 1) ∧ 1 = gD (n + 1) := by
  obtain ⟨h1, h2, h3, h4, h5, _⟩ := date_in n
  have em : gM n = 12 := by omega
  rw [em] at h h4 h5
  have l12 : lenM (gY n) 12 = 31 := by simp [lenM]
  have s12 : sumL (gY n) 12 = 334 + (if longY (gY n) = true then 1 else 0) := by simp [sumL]
  have hf := first_next (gY n)
  have s1 := sumL_one (gY n + 1)
  exact uniq (by rw [dateOk, decide_eq_true_eq]; simp [lenM]) (by unfold rdayM; omega)
end Go.Sy
