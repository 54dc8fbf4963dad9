/-
  Knuth's division of two words by one, in plain words.
-/
import Derived.Test.YtldofkogmkfpjaaGreatDoorWPLimb
import Derived.Lib.ItoaNum
namespace Go.Sy
set_option linter.unusedVariables false

/-- The divisor v = a * 2^32 + b, normed. -/
structure KD (v a b : Int) : Prop where
  v : v = a * 4294967296 + b
  a0 : 2147483648 ≤ a
  a1 : a < 4294967296
  b0 : 0 ≤ b
  b1 : b < 4294967296
/-- What the loop keeps: q is not below the quotient of u * 2^32 + w. -/
structure KI (v a b u w q r : Int) : Prop where
  u0 : 0 ≤ u
  u1 : u < v
  w0 : 0 ≤ w
  w1 : w < 4294967296
  q0 : 0 ≤ q
  q1 : q < 18446744073709551616
  r0 : 0 ≤ r
  r1 : r < 4294967296
  e : q * a + r = u
  up : u * 4294967296 + w < (q + 1) * v
/-- The quotient digit. -/
structure KQ (v u w q : Int) : Prop where
  q0 : 0 ≤ q
  q1 : q < 4294967296
  lo : q * v ≤ u * 4294967296 + w
  up : u * 4294967296 + w < q * v + v
theorem mulS (q a b : Int) : q * (a * 4294967296 + b) = q * a * 4294967296 + q * b := by rw [Int.mul_add, Int.mul_assoc]
theorem mul_bound {q b : Int} (h0 : 0 ≤ q) (h1 : q < 4294967296) (h2 : 0 ≤ b) (h3 : b < 4294967296) : 0 ≤ q * b ∧ q * b ≤ 4294967295 * b := 
  ⟨Int.mul_nonneg h0 h2, Int.mul_le_mul_of_nonneg_right (by omega) h2⟩
theorem KI.start {v a b u w : Int} (d : KD v a b) (hu : 0 ≤ u ∧ u < v) (hw : 0 ≤ w ∧ w < 4294967296) : KI v a b u w (u / a) (u % a) := by
  obtain ⟨rfl, a0, a1, b0, b1⟩ := d
  have hap : 0 < a := by omega
  have e := Int.mul_ediv_add_emod u a
  have r0 := Int.emod_nonneg u (b := a) (by omega)
  have r1 := Int.emod_lt_of_pos u hap
  have q0 : 0 ≤ u / a := Int.ediv_nonneg hu.1 (by omega)
  have q1 : u / a ≤ u := Int.ediv_le_self _ hu.1
  refine ⟨hu.1, hu.2, hw.1, hw.2, q0, by omega, r0, by omega, by rw [Int.mul_comm]; exact e, ?_⟩
  rw [mulS, Int.add_mul, Int.one_mul, Int.mul_comm (u / a)]
  have : 0 ≤ (u / a + 1) * b := Int.mul_nonneg (by omega) b0
  generalize a * (u / a) = p at *
  generalize (u / a + 1) * b = t at *
  omega
theorem KI.more {v a b u w q r : Int} (d : KD v a b) (i : KI v a b u w q r) (h : 4294967296 ≤ q ∨ 4294967296 * r + w < q * b) :
    1 ≤ q ∧ (q - 1) * a + (r + a) = u ∧ u * 4294967296 + w < (q - 1 + 1) * v := by
  obtain ⟨rfl, a0, a1, b0, b1⟩ := d
  obtain ⟨u0, u1, w0, w1, q0, q1, r0, r1, e, up⟩ := i
  have hq : 1 ≤ q := by
    rcases h with h | h
    · omega
    · rcases Int.lt_or_le 0 q with h1 | h1
      · omega
      · have : q = 0 := by omega
        subst this; omega
  refine ⟨hq, by rw [Int.sub_mul, Int.one_mul]; omega, ?_⟩
  rw [show q - 1 + 1 = q by omega]
  rcases h with h | h
  · have : 4294967296 * (a * 4294967296 + b) ≤ q * (a * 4294967296 + b) := Int.mul_le_mul_of_nonneg_right h (by omega)
    generalize q * (a * 4294967296 + b) = t at *
    omega
  · rw [mulS]
    generalize q * a = p at *
    generalize q * b = t at *
    omega
theorem KI.next {v a b u w q r : Int} (d : KD v a b) (i : KI v a b u w q r) (h : 4294967296 ≤ q ∨ 4294967296 * r + w < q * b) (hr : r + a < 4294967296) : KI v a b u w (q - 1) (r + a) := by
  obtain ⟨h1, h2, h3⟩ := i.more d h
  have := i.q1; have := i.r0; have := d.a0
  exact ⟨i.u0, i.u1, i.w0, i.w1, by omega, by omega, by omega, hr, h2, h3⟩
theorem KI.brk {v a b u w q r : Int} (d : KD v a b) (i : KI v a b u w q r) (h : 4294967296 ≤ q ∨ 4294967296 * r + w < q * b) (hr : 4294967296 ≤ r + a) : KQ v u w (q - 1) := by
  obtain ⟨h1, h2, h3⟩ := i.more d h
  obtain ⟨rfl, a0, a1, b0, b1⟩ := d
  obtain ⟨u0, u1, w0, w1, q0, q1, r0, r1, e, up⟩ := i
  have hq : q - 1 < 4294967296 := by
    rcases Int.lt_or_le (q - 1) 4294967296 with h4 | h4
    · exact h4
    · have := Int.mul_le_mul_of_nonneg_right h4 (show (0 : Int) ≤ a by omega)
      generalize (q - 1) * a = t at *
      omega
  have hb := mul_bound (show 0 ≤ q - 1 by omega) hq b0 b1
  refine ⟨by omega, hq, ?_, ?_⟩
  · rw [mulS]
    generalize (q - 1) * a = p at *
    generalize (q - 1) * b = t at *
    omega
  · rw [Int.add_mul, Int.one_mul] at h3; exact h3
theorem KI.fin {v a b u w q r : Int} (d : KD v a b) (i : KI v a b u w q r) (h : q < 4294967296) (h' : q * b ≤ 4294967296 * r + w) : KQ v u w q := by
  obtain ⟨rfl, a0, a1, b0, b1⟩ := d
  obtain ⟨u0, u1, w0, w1, q0, q1, r0, r1, e, up⟩ := i
  refine ⟨q0, h, ?_, ?_⟩
  · rw [mulS]
    generalize q * a = p at *
    generalize q * b = t at *
    omega
  · rw [Int.add_mul, Int.one_mul] at up; exact up
theorem qb_in {v a b u w q r : Int} (d : KD v a b) (i : KI v a b u w q r) (h : q < 4294967296) : q * b % 18446744073709551616 = q * b := by
  have := mul_bound i.q0 h d.b0 d.b1
  have := d.b1
  generalize q * b = t at *
  omega
/-- What is left after a digit. -/
theorem KQ.rest {v u w q : Int} (k : KQ v u w q) (hv : v ≤ 18446744073709551616) : (((u * 4294967296) % 18446744073709551616 + w) % 18446744073709551616 - q * v % 18446744073709551616) % 18446744073709551616 = u * 4294967296 + w - q * v := by
  obtain ⟨q0, q1, lo, up⟩ := k
  generalize q * v = t at *
  omega
theorem KD.v1 {v a b : Int} (d : KD v a b) : 9223372036854775808 ≤ v ∧ v < 18446744073709551616 := by
  obtain ⟨rfl, a0, a1, b0, b1⟩ := d; omega

/-! ### the norming -/
theorem lz_facts {y : Int} (h : isW y) (h0 : 0 < y) : ∃ n : Nat, n < 64 ∧ (64 - (Lib.bitLen y.toNat : Int)) = (n : Int) ∧ 9223372036854775808 ≤ y * 2 ^ n ∧ y * 2 ^ n < 18446744073709551616 := by
  obtain ⟨m, rfl, hm⟩ := nat_of_W h
  have hb := Lib.bitLenAux_bounds 64 m (by simpa using hm) (by omega)
  have hle := Lib.bitLenAux_le 64 m 64 (by simpa using hm)
  rw [Int.toNat_natCast]
  unfold Lib.bitLen
  generalize Lib.bitLenAux 64 m = k at *
  obtain ⟨b1, b2, b3⟩ := hb
  refine ⟨64 - k, by omega, by omega, ?_, ?_⟩
  · have : 2 ^ (k - 1) * 2 ^ (64 - k) ≤ m * 2 ^ (64 - k) := Nat.mul_le_mul_right _ b2
    rw [← Nat.pow_add, show k - 1 + (64 - k) = 63 by omega] at this
    have e : ((m : Int) * 2 ^ (64 - k)) = ((m * 2 ^ (64 - k) : Nat) : Int) := by simp
    rw [e]; omega
  · have : m * 2 ^ (64 - k) < 2 ^ k * 2 ^ (64 - k) := Nat.mul_lt_mul_of_pos_right b3 (Nat.pow_pos (by omega))
    rw [← Nat.pow_add, show k + (64 - k) = 64 by omega] at this
    have e : ((m : Int) * 2 ^ (64 - k)) = ((m * 2 ^ (64 - k) : Nat) : Int) := by simp
    rw [e]; omega
theorem pow_split {n : Nat} (h : n ≤ 64) : (2 : Int) ^ n * 2 ^ (64 - n) = 18446744073709551616 := by
  rw [← Int.pow_add, show n + (64 - n) = 64 by omega]; rfl
/-- The number, shifted: its three parts. -/
theorem norm_parts {u l y : Int} {n : Nat} (hu : isW u) (hl : isW l) (huy : u < y) (hn : n < 64) (hy : y * 2 ^ n < 18446744073709551616) (h1 : 1 ≤ n → True) :
    orI .u64 (u * 2 ^ n % 18446744073709551616) (l / 2 ^ (64 - n)) = u * 2 ^ n + l / 2 ^ (64 - n) ∧ u * 2 ^ n + l / 2 ^ (64 - n) < y * 2 ^ n ∧ 0 ≤ u * 2 ^ n + l / 2 ^ (64 - n) ∧
    wVal u l * 2 ^ n = (u * 2 ^ n + l / 2 ^ (64 - n)) * 18446744073709551616 + l * 2 ^ n % 18446744073709551616 := by
  have hp : (0 : Int) < 2 ^ n := Int.pow_pos (by omega)
  have hq : (0 : Int) < 2 ^ (64 - n) := Int.pow_pos (by omega)
  have hs := pow_split (n := n) (by omega)
  unfold isW at hu hl
  have d0 : 0 ≤ l / 2 ^ (64 - n) := Int.ediv_nonneg hl.1 (by omega)
  have d1 : l / 2 ^ (64 - n) < 2 ^ n := by
    apply Int.ediv_lt_of_lt_mul hq
    rw [hs]; exact hl.2
  have hu1 : (u + 1) * 2 ^ n ≤ y * 2 ^ n := Int.mul_le_mul_of_nonneg_right (by omega) (by omega)
  have hu0 : 0 ≤ u * 2 ^ n := Int.mul_nonneg hu.1 (by omega)
  rw [Int.add_mul, Int.one_mul] at hu1
  have em : u * 2 ^ n % 18446744073709551616 = u * 2 ^ n := by
    generalize u * 2 ^ n = t at *
    omega
  have e3 : l * 2 ^ n = l / 2 ^ (64 - n) * 18446744073709551616 + l % 2 ^ (64 - n) * 2 ^ n := by
    rw [← hs]
    have := Int.mul_ediv_add_emod l (2 ^ (64 - n))
    calc l * 2 ^ n = (2 ^ (64 - n) * (l / 2 ^ (64 - n)) + l % 2 ^ (64 - n)) * 2 ^ n := by rw [this]
      _ = _ := by rw [Int.add_mul]; congr 1; rw [Int.mul_comm (2 ^ (64 - n)), Int.mul_assoc, Int.mul_comm (2 ^ (64 - n))]
  have r0 : 0 ≤ l % 2 ^ (64 - n) := Int.emod_nonneg _ (by omega)
  have r1 : l % 2 ^ (64 - n) < 2 ^ (64 - n) := Int.emod_lt_of_pos _ hq
  have r2 : l % 2 ^ (64 - n) * 2 ^ n < 18446744073709551616 := by
    rw [← hs, Int.mul_comm (2 ^ n)]
    exact Int.mul_lt_mul_of_pos_right r1 hp
  have r3 : 0 ≤ l % 2 ^ (64 - n) * 2 ^ n := Int.mul_nonneg r0 (by omega)
  refine ⟨?_, ?_, ?_, ?_⟩
  · rw [em]
    exact or_add n hu.1 d0 d1 (by generalize u * 2 ^ n = t at *; omega)
  · generalize u * 2 ^ n = t at *; omega
  · omega
  · unfold wVal
    rw [Int.add_mul, e3, show u * 18446744073709551616 * 2 ^ n = u * 2 ^ n * 18446744073709551616 by rw [Int.mul_assoc, Int.mul_comm 18446744073709551616, Int.mul_assoc]]
    generalize l % 2 ^ (64 - n) * 2 ^ n = t at *
    generalize u * 2 ^ n = s at *
    generalize l / 2 ^ (64 - n) = m at *
    omega
/-- From the two digits to the quotient. -/
theorem div_end {N y : Int} {n : Nat} {X q1 q0 w0 x : Int} (hy : 0 < y) (hN : N * 2 ^ n = X * 4294967296 + w0) (k1 : x = X - q1 * (y * 2 ^ n)) (k0 : KQ (y * 2 ^ n) x w0 q0) :
    q1 * 4294967296 + q0 = N / y ∧ (x * 4294967296 + w0 - q0 * (y * 2 ^ n)) / 2 ^ n = N % y := by
  have hp : (0 : Int) < 2 ^ n := Int.pow_pos (by omega)
  obtain ⟨a, b, lo, up⟩ := k0
  have e : N * 2 ^ n = (q1 * 4294967296 + q0) * (y * 2 ^ n) + (x * 4294967296 + w0 - q0 * (y * 2 ^ n)) := by
    rw [hN, k1, Int.add_mul, Int.mul_right_comm q1]
    generalize q1 * (y * 2 ^ n) = s
    generalize q0 * (y * 2 ^ n) = t
    omega
  have r0 : 0 ≤ x * 4294967296 + w0 - q0 * (y * 2 ^ n) := by omega
  have r1 : x * 4294967296 + w0 - q0 * (y * 2 ^ n) < y * 2 ^ n := by omega
  generalize x * 4294967296 + w0 - q0 * (y * 2 ^ n) = r at *
  generalize q1 * 4294967296 + q0 = q at *
  have e1 : r = (N - q * y) * 2 ^ n := by rw [Int.sub_mul, e, Int.mul_assoc]; omega
  have e2 : r / 2 ^ n = N - q * y := by rw [e1]; exact Int.mul_ediv_cancel _ (by omega)
  have f0 : 0 ≤ N - q * y := by rw [← e2]; exact Int.ediv_nonneg r0 (by omega)
  have f1 : N - q * y < y := by rw [← e2]; exact Int.ediv_lt_of_lt_mul hp r1
  have g : N / y = q := by
    have : N = (N - q * y) + y * q := by rw [Int.mul_comm y]; omega
    rw [this, Int.add_mul_ediv_left _ _ (by omega), Int.ediv_eq_zero_of_lt f0 f1]; omega
  refine ⟨g.symm, ?_⟩
  rw [e2]
  have := Int.mul_ediv_add_emod N y
  rw [g] at this
  rw [Int.mul_comm q]; omega
end Go.Sy
