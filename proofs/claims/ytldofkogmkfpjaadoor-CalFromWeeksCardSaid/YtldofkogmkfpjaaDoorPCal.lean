/-
  Weekdays, days of years, and weeks, in plain words.
-/
import Derived.Test.YtldofkogmkfpjaaDoorPGreg
namespace Go.Sy
set_option linter.unusedVariables false
set_option linter.unusedSimpArgs false
set_option maxHeartbeats 4000000

/-- A day's weekday; a year's days. -/
def wdN (n : Int) : Int := (n + 2) % 7 + 1
def lenY (y : Int) : Int := if longY y = true then 366 else 365
theorem wd_in (n : Int) : 1 ≤ wdN n ∧ wdN n ≤ 7 := by unfold wdN; omega
/-- The Monday with which a year's week 1 begins. -/
def monY (y : Int) : Int := firstY y + 3 - wdN (firstY y + 3) + 1
theorem tmod_em (a k : Int) (hk : 0 < k) : a.tmod k = a % k ∨ (a.tmod k = a % k - k ∧ ¬ a % k = 0) := by
  obtain ⟨h1, h2, h3⟩ := tdiv_facts a k hk
  have e := Int.emod_emod_of_dvd a (Int.dvd_refl k)
  have h4 := Int.emod_nonneg a (show k ≠ 0 by omega)
  have h5 := Int.emod_lt_of_pos a hk
  have h6 : (a.tmod k - a % k) % k = 0 := by
    have e1 : a.tmod k = a - a.tdiv k * k := by omega
    have e2 : a % k = a - a / k * k := by have := Int.mul_ediv_add_emod a k; rw [Int.mul_comm] at this; omega
    rw [e1, e2, show a - a.tdiv k * k - (a - a / k * k) = (a / k - a.tdiv k) * k by rw [Int.sub_mul]; omega]
    exact Int.mul_emod_left _ _
  obtain ⟨t, ht⟩ := Int.dvd_of_emod_eq_zero h6
  rcases Int.le_total 0 a with h | h
  · have := h2 h
    have : t = 0 := by
      rcases Int.lt_trichotomy t 0 with g | g | g
      · have := Int.mul_le_mul_of_nonneg_left (show t ≤ -1 by omega) (show 0 ≤ k by omega); omega
      · exact g
      · have := Int.mul_le_mul_of_nonneg_left (show 1 ≤ t by omega) (show 0 ≤ k by omega); omega
    subst this; left; omega
  · have := h3 h
    have : t = 0 ∨ t = -1 := by
      rcases Int.lt_trichotomy t 0 with g | g | g
      · rcases Int.lt_or_le t (-1) with g' | g'
        · have := Int.mul_le_mul_of_nonneg_left (show t ≤ -2 by omega) (show 0 ≤ k by omega); omega
        · omega
      · exact .inl g
      · have := Int.mul_le_mul_of_nonneg_left (show 1 ≤ t by omega) (show 0 ≤ k by omega); omega
    rcases this with rfl | rfl
    · left; omega
    · by_cases h0 : a.tmod k = 0
      · exfalso; omega
      · right; omega
theorem wd_t (n : Int) : (if n.tmod 7 + 2 < 0 then n.tmod 7 + 2 + 7 else n.tmod 7 + 2).tmod 7 + 1 = wdN n := by
  have h := tmod_em n 7 (by omega)
  have e : ∀ x : Int, 0 ≤ x → x.tmod 7 = x % 7 := fun x hx => Int.tmod_eq_emod_of_nonneg hx
  unfold wdN
  have h1 : -7 < n.tmod 7 ∧ n.tmod 7 < 7 := by omega
  split
  · rw [e _ (by omega)]; omega
  · rw [e _ (by omega)]; omega
theorem wd_r (n : Int) : ((n.tmod 7 + 7).tmod 7 + 2).tmod 7 + 1 = wdN n := by
  have h := tmod_em n 7 (by omega)
  have e : ∀ x : Int, 0 ≤ x → x.tmod 7 = x % 7 := fun x hx => Int.tmod_eq_emod_of_nonneg hx
  have h1 : -7 < n.tmod 7 ∧ n.tmod 7 < 7 := by omega
  rw [e (n.tmod 7 + 7) (by omega), e _ (by omega)]
  unfold wdN; omega

theorem firstY_long {y : Int} : firstY (y + 1) = firstY y + lenY y := by
  rw [first_next]; unfold lenY; split <;> omega
/-- The day of a year, by its number; the error. -/
def fyE (y d : Int) : Int := if d < 1 ∨ lenY y < d then 5 else if y < -4000000000 ∨ 4000000000 < y then 2 else if inR (firstY y + d - 1) = true then 0 else 2
def fyN (y d : Int) : Int := if fyE y d = 0 then firstY y + d - 1 else 0
def wkY (n : Int) : Int := if n < monY (gY n) then gY n - 1 else if monY (gY n + 1) ≤ n then gY n + 1 else gY n
def weeksN (y : Int) : Int := if wdN (firstY (y.tmod 400)) = 4 ∨ wdN (firstY (y.tmod 400)) = 3 ∧ longY y = true then 53 else 52
def fwE (y w d : Int) : Int := if d < 1 ∨ 7 < d ∨ w < 1 ∨ weeksN y < w then 5 else if y < -4000000000 ∨ 4000000000 < y then 2 else if inR (monY y + (w - 1) * 7 + d - 1) = true then 0 else 2
def fwN (y w d : Int) : Int := if fwE y w d = 0 then monY y + (w - 1) * 7 + d - 1 else 0
theorem lenY_in (y : Int) : 365 ≤ lenY y ∧ lenY y ≤ 366 := by unfold lenY; split <;> omega
theorem monY_in {y : Int} (h : -100000000000 ≤ y ∧ y ≤ 100000000000) : -60000000000000 ≤ monY y ∧ monY y ≤ 60000000000000 := by
  have := firstY_in h
  have := wd_in (firstY y + 3)
  unfold monY; omega
theorem monY_near (y : Int) : firstY y - 3 ≤ monY y ∧ monY y ≤ firstY y + 3 := by
  have := wd_in (firstY y + 3)
  unfold monY; omega
theorem monY_mono {a b : Int} (h : a < b) : monY a < monY b := by
  have h1 := monY_near a
  have h2 := monY_near b
  have h3 := first_mono (show a + 1 ≤ b by omega)
  have h4 := @firstY_long a
  have h5 := lenY_in a
  omega
theorem wkY_is (n : Int) : monY (wkY n) ≤ n ∧ n < monY (wkY n + 1) ∧ gY n - 1 ≤ wkY n ∧ wkY n ≤ gY n + 1 := by
  obtain ⟨_, _, _, _, _, h1, h2⟩ := date_in n
  have n1 := monY_near (gY n - 1)
  have n2 := monY_near (gY n + 1 + 1)
  have l1 := @firstY_long (gY n - 1)
  have l2 := @firstY_long (gY n + 1)
  have i1 := lenY_in (gY n - 1)
  have i2 := lenY_in (gY n + 1)
  rw [show gY n - 1 + 1 = gY n by omega] at l1
  unfold wkY
  split
  · rw [show gY n - 1 + 1 = gY n by omega]; omega
  · split
    · omega
    · omega
theorem wkY_uniq {n y : Int} (h : monY y ≤ n ∧ n < monY (y + 1)) : y = wkY n := by
  obtain ⟨h1, h2, _⟩ := wkY_is n
  rcases Int.lt_trichotomy y (wkY n) with g | g | g
  · rcases Int.lt_or_le (y + 1) (wkY n) with g' | g'
    · have := monY_mono g'; omega
    · have : y + 1 = wkY n := by omega
      rw [this] at h; omega
  · exact g
  · rcases Int.lt_or_le (wkY n + 1) y with g' | g'
    · have := monY_mono g'; omega
    · have : y = wkY n + 1 := by omega
      rw [this] at h; omega
theorem first_400 (y : Int) : firstY (y + 400) = firstY y + 146097 := by unfold firstY; omega
theorem first_400k (y : Int) (k : Nat) : firstY (y + 400 * k) = firstY y + 146097 * k := by
  induction k with
  | zero => simp
  | succ k ih => rw [show y + 400 * ((k + 1 : Nat) : Int) = y + 400 * k + 400 by omega, first_400, ih]; omega
theorem first_per (a k : Int) : firstY (a + 400 * k) = firstY a + 146097 * k := by
  rcases Int.le_total 0 k with h | h
  · have := first_400k a k.toNat
    rw [Int.toNat_of_nonneg h] at this; exact this
  · have := first_400k (a + 400 * k) (-k).toNat
    rw [Int.toNat_of_nonneg (by omega)] at this
    rw [show a + 400 * k + 400 * -k = a by omega] at this; omega
theorem first_400' (y : Int) : firstY (y.tmod 400) = firstY y - 146097 * y.tdiv 400 := by
  have e := (tdiv_facts y 400 (by omega)).1
  have := first_per (y.tmod 400) (y.tdiv 400)
  rw [show y.tmod 400 + 400 * y.tdiv 400 = y by omega] at this
  omega
theorem weeks_mon (y : Int) : monY (y + 1) - monY y = 7 * weeksN y := by
  have e := first_400' y
  have l := @firstY_long y
  unfold weeksN monY wdN
  rw [e, l]
  generalize firstY y = f
  generalize y.tdiv 400 = q
  unfold lenY
  cases longY y <;> simp <;> split <;> omega
theorem weeks_per (y k : Int) : weeksN (y + 400 * k) = weeksN y := by
  have h1 := weeks_mon (y + 400 * k)
  have h2 := weeks_mon y
  have e1 := first_per y k
  have e2 := first_per (y + 1) k
  rw [show y + 1 + 400 * k = y + 400 * k + 1 by omega] at e2
  unfold monY wdN at h1 h2
  omega
theorem weeks_in (y : Int) : 52 ≤ weeksN y ∧ weeksN y ≤ 53 := by unfold weeksN; split <;> omega
theorem day_first {y : Int} (h : -1000 ≤ y ∧ y ≤ 1000) : dayN y 1 1 = firstY y := by
  have ok : dateOk y 1 1 = true := by simp [dateOk, lenM]
  have hs : dayM y 1 1 = firstY y := by rw [day_same ok, rdayM, sumL_one]; omega
  have hf : -400000 - 678941 ≤ firstY y ∧ firstY y ≤ 400000 := by unfold firstY; omega
  have hr : inR (dayM y 1 1) = true := by rw [hs]; simp [inR]; omega
  have h0 : dayE y 1 1 = 0 := by rw [dayE, ok, hr]; simp; omega
  rw [dayN, if_pos h0, hs]
theorem year_day {n : Int} (hp : inR n = true) : 1 ≤ n - firstY (gY n) + 1 ∧ n - firstY (gY n) + 1 ≤ lenY (gY n) ∧ fyE (gY n) (n - firstY (gY n) + 1) = 0 ∧ fyN (gY n) (n - firstY (gY n) + 1) = n := by
  obtain ⟨_, _, _, _, _, h1, h2⟩ := date_in n
  have l := @firstY_long (gY n)
  have hg := gY_in hp
  have e : fyE (gY n) (n - firstY (gY n) + 1) = 0 := by
    rw [fyE, if_neg (by omega), if_neg (by omega), show firstY (gY n) + (n - firstY (gY n) + 1) - 1 = n by omega, if_pos hp]
  refine ⟨by omega, by omega, e, ?_⟩
  rw [fyN, if_pos e]; omega
theorem far_in {y n : Int} (h : y < -4000000000 ∨ 4000000000 < y) (hn : firstY y - 1000 ≤ n ∧ n ≤ firstY y + 1000) : inR n = false := by
  rw [inR, decide_eq_false_iff_not]
  unfold firstY at hn
  rcases h with h | h <;> omega
theorem week_day {n : Int} (hp : inR n = true) : fwE (wkY n) ((n - monY (wkY n)) / 7 + 1) (wdN n) = 0 ∧ fwN (wkY n) ((n - monY (wkY n)) / 7 + 1) (wdN n) = n ∧ 1 ≤ (n - monY (wkY n)) / 7 + 1 ∧ (n - monY (wkY n)) / 7 + 1 ≤ 53 := by
  obtain ⟨h1, h2, h3, h4⟩ := wkY_is n
  have hg := gY_in hp
  have hw := weeks_mon (wkY n)
  have hi := weeks_in (wkY n)
  have hd := wd_in n
  have em : monY (wkY n) % 7 = 5 := by unfold monY wdN; omega
  have en : monY (wkY n) + ((n - monY (wkY n)) / 7 + 1 - 1) * 7 + wdN n - 1 = n := by unfold wdN; omega
  have e : fwE (wkY n) ((n - monY (wkY n)) / 7 + 1) (wdN n) = 0 := by
    rw [fwE, if_neg (by omega), if_neg (by omega), en, if_pos hp]
  refine ⟨e, ?_, by omega, by omega⟩
  rw [fwN, if_pos e, en]
end Go.Sy
