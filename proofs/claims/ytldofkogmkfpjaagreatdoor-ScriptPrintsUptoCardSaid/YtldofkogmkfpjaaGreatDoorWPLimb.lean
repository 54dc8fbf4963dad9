/-
  Numbers of 64 and 128 bits, in plain words.
-/
import Derived.IntWalk
import Derived.Test.YtldofkogmkfpjaaGreatDoorWSyA
import Derived.Lib.Mul64
namespace Go.Sy
set_option linter.unusedVariables false
def isW (x : Int) : Prop := 0 ≤ x ∧ x < 18446744073709551616
instance (x : Int) : Decidable (isW x) := inferInstanceAs (Decidable (0 ≤ x ∧ x < 18446744073709551616))
/-- The upper word of an int64. -/
def isH (x : Int) : Prop := -9223372036854775808 ≤ x ∧ x < 9223372036854775808
instance (x : Int) : Decidable (isH x) := inferInstanceAs (Decidable (-9223372036854775808 ≤ x ∧ x < 9223372036854775808))
/-- A number of two words: its value, and its words. -/
def wVal (h l : Int) : Int := h * 18446744073709551616 + l
def wHi (v : Int) : Int := v / 18446744073709551616
def wLo (v : Int) : Int := v % 18446744073709551616
theorem wVal_mk (v : Int) : wVal (wHi v) (wLo v) = v := by unfold wVal wHi wLo; omega
theorem wLo_in (v : Int) : isW (wLo v) := by unfold isW wLo; omega
theorem wHi_val {h l : Int} (hl : isW l) : wHi (wVal h l) = h := by unfold isW at hl; unfold wHi wVal; omega
theorem wLo_val {h l : Int} (hl : isW l) : wLo (wVal h l) = l := by unfold isW at hl; unfold wLo wVal; omega
theorem wHi_W {v : Int} (h : 0 ≤ v ∧ v < 340282366920938463463374607431768211456) : isW (wHi v) := by unfold isW wHi; omega
theorem wHi_H {v : Int} (h : -170141183460469231731687303715884105728 ≤ v ∧ v < 170141183460469231731687303715884105728) : isH (wHi v) := by unfold isH wHi; omega

theorem u64w (x : Int) : IntKind.u64.wrap x = x % 18446744073709551616 := by
  have : IntKind.signed .u64 = false := rfl
  unfold IntKind.wrap
  simp only [this, Bool.false_and, Bool.false_eq_true, if_false]
  rfl
theorem shr_n {k : IntKind} (x : Int) (n : Nat) (hn : n ≤ k.bits) : shrI k x (n : Int) = x / 2 ^ n := by
  unfold shrI
  rw [Int.toNat_natCast, Nat.min_eq_left hn, Int.fdiv_eq_ediv_of_nonneg]
  exact Int.pow_nonneg (by omega)
theorem shl_n {k : IntKind} (x : Int) (n : Nat) (hn : n ≤ k.bits) : shlI k x (n : Int) = k.wrap (x * 2 ^ n) := by
  unfold shlI
  rw [Int.toNat_natCast, Nat.min_eq_left hn]
theorem shr16 (x : Int) : shrI .u64 x 16 = x / 65536 := shr_n x 16 (by decide)
theorem shr32 (x : Int) : shrI .u64 x 32 = x / 4294967296 := shr_n x 32 (by decide)
theorem shr48 (x : Int) : shrI .u64 x 48 = x / 281474976710656 := shr_n x 48 (by decide)
theorem shr63 (x : Int) : shrI .u64 x 63 = x / 9223372036854775808 := shr_n x 63 (by decide)
theorem sar63 (x : Int) : shrI .i64 x 63 = x / 9223372036854775808 := shr_n x 63 (by decide)
theorem shl1 (x : Int) : shlI .u64 x 1 = x * 2 % 18446744073709551616 := by rw [show (1 : Int) = ((1 : Nat) : Int) from rfl, shl_n x 1 (by decide), u64w]; rfl
theorem nat_of_W {x : Int} (h : isW x) : ∃ n : Nat, x = n ∧ n < 18446744073709551616 := by unfold isW at h; exact ⟨x.toNat, by omega, by omega⟩
theorem wrapN {n : Nat} (h : n < 18446744073709551616) : IntKind.u64.wrap (n : Int) = n := by rw [u64w]; omega
theorem and_W {a b : Nat} (ha : a < 18446744073709551616) (hb : b < 18446744073709551616) : andI .u64 (a : Int) (b : Int) = ((a &&& b : Nat) : Int) := by
  unfold andI
  have e : (2 : Nat) ^ IntKind.bits .u64 = 18446744073709551616 := by decide
  have h (w n : Nat) : BitVec.ofInt w (n : Int) = BitVec.ofNat w n := by simp
  rw [h, h, BitVec.toNat_and, BitVec.toNat_ofNat, BitVec.toNat_ofNat, e, Nat.mod_eq_of_lt ha, Nat.mod_eq_of_lt hb, wrapN (Nat.lt_of_le_of_lt Nat.and_le_left ha)]
theorem or_W {a b : Nat} (ha : a < 18446744073709551616) (hb : b < 18446744073709551616) : orI .u64 (a : Int) (b : Int) = ((a ||| b : Nat) : Int) := by
  unfold orI
  have e : (2 : Nat) ^ IntKind.bits .u64 = 18446744073709551616 := by decide
  have h (w n : Nat) : BitVec.ofInt w (n : Int) = BitVec.ofNat w n := by simp
  rw [h, h, BitVec.toNat_or, BitVec.toNat_ofNat, BitVec.toNat_ofNat, e, Nat.mod_eq_of_lt ha, Nat.mod_eq_of_lt hb]
  exact wrapN (by rw [show (18446744073709551616 : Nat) = 2 ^ 64 from rfl] at *; exact Nat.or_lt_two_pow ha hb)
theorem and_mask {x : Int} (h : isW x) (n : Nat) (hn : n ≤ 64) : andI .u64 x ((2 ^ n - 1 : Nat) : Int) = x % 2 ^ n := by
  obtain ⟨m, rfl, hm⟩ := nat_of_W h
  have : 2 ^ n ≤ 2 ^ 64 := Nat.pow_le_pow_right (by omega) hn
  have h1 : 1 ≤ 2 ^ n := Nat.one_le_two_pow
  rw [and_W hm (by omega), Nat.and_two_pow_sub_one_eq_mod]
  simp
theorem and32 {x : Int} (h : isW x) : andI .u64 x 4294967295 = x % 4294967296 := and_mask h 32 (by omega)
theorem and16 {x : Int} (h : isW x) : andI .u64 x 65535 = x % 65536 := and_mask h 16 (by omega)
/-- A multiple of a power of two, and less than that power. -/
theorem or_add {q r : Int} (n : Nat) (hq : 0 ≤ q) (hr : 0 ≤ r) (hr2 : r < 2 ^ n) (h : q * 2 ^ n + r < 18446744073709551616) : orI .u64 (q * 2 ^ n) r = q * 2 ^ n + r := by
  obtain ⟨a, rfl⟩ := Int.eq_ofNat_of_zero_le hq
  obtain ⟨b, rfl⟩ := Int.eq_ofNat_of_zero_le hr
  have hb : b < 2 ^ n := by
    have : ((2 : Int) ^ n) = ((2 ^ n : Nat) : Int) := by simp
    rw [this] at hr2; exact Int.ofNat_lt.1 hr2
  have e : ((a : Int) * 2 ^ n) = ((2 ^ n * a : Nat) : Int) := by rw [Int.natCast_mul, Int.mul_comm, Int.natCast_pow]; rfl
  rw [e] at h ⊢
  have h' : 2 ^ n * a + b < 18446744073709551616 := by omega
  rw [or_W (by omega) (by omega), ← Nat.two_pow_add_eq_or_of_lt hb]
  rfl

/-! ### the product of two words -/
theorem mul_hi {x y : Int} (hx : isW x) (hy : isW y) :
    let v := IntKind.u64.wrap (IntKind.u64.wrap (shrI .u64 x 32 * andI .u64 y 4294967295) + shrI .u64 (IntKind.u64.wrap (andI .u64 x 4294967295 * andI .u64 y 4294967295)) 32)
    IntKind.u64.wrap (IntKind.u64.wrap (IntKind.u64.wrap (shrI .u64 x 32 * shrI .u64 y 32) + shrI .u64 v 32) + shrI .u64 (IntKind.u64.wrap (andI .u64 v 4294967295 + IntKind.u64.wrap (andI .u64 x 4294967295 * shrI .u64 y 32))) 32) = x * y / 18446744073709551616 := by
  intro v
  have hv : isW v := by
    have : v = (IntKind.u64.wrap (shrI .u64 x 32 * andI .u64 y 4294967295) + shrI .u64 (IntKind.u64.wrap (andI .u64 x 4294967295 * andI .u64 y 4294967295)) 32) % 18446744073709551616 := u64w _
    unfold isW; omega
  rw [and32 hv]
  rw [show v = IntKind.u64.wrap (IntKind.u64.wrap (shrI .u64 x 32 * andI .u64 y 4294967295) + shrI .u64 (IntKind.u64.wrap (andI .u64 x 4294967295 * andI .u64 y 4294967295)) 32) from rfl]
  simp only [shr32, and32 hx, and32 hy, u64w]
  obtain ⟨a, rfl, ha⟩ := nat_of_W hx
  obtain ⟨b, rfl, hb⟩ := nat_of_W hy
  obtain ⟨h1, h2, h3, h4⟩ := Lib.mul64_hi a b ha hb
  have c1 : ((a : Int) / 4294967296) = ((a / 4294967296 : Nat) : Int) := by simp
  have c2 : ((a : Int) % 4294967296) = ((a % 4294967296 : Nat) : Int) := by simp
  have c3 : ((b : Int) / 4294967296) = ((b / 4294967296 : Nat) : Int) := by simp
  have c4 : ((b : Int) % 4294967296) = ((b % 4294967296 : Nat) : Int) := by simp
  have c5 : ((a : Int) * b) / 18446744073709551616 = ((a * b / 18446744073709551616 : Nat) : Int) := by simp
  rw [c1, c2, c3, c4, c5, ← h4]
  have hd := Lib.half_mul_le (a := a / 4294967296) (b := b / 4294967296) (by omega) (by omega)
  have h5 : a * b / 18446744073709551616 < 18446744073709551616 := by
    have : a * b < 18446744073709551616 * 18446744073709551616 := Nat.mul_lt_mul'' ha hb
    exact Nat.div_lt_of_lt_mul this
  rw [← h4] at h5
  simp only [← Int.natCast_mul]
  generalize (a / 4294967296) * (b / 4294967296) = p at *
  generalize (a / 4294967296) * (b % 4294967296) = q at *
  generalize (a % 4294967296) * (b / 4294967296) = r at *
  generalize (a % 4294967296) * (b % 4294967296) = s at *
  omega
theorem cmp_val {a b c d : Int} (hb : isW b) (hd : isW d) : (wVal a b = wVal c d ↔ a = c ∧ b = d) ∧ (wVal a b < wVal c d ↔ a < c ∨ a = c ∧ b < d) := by
  unfold isW at hb hd; unfold wVal
  constructor <;> constructor <;> intro h <;> omega
def cmpV (u v : Int) : Int := if u = v then 0 else if u < v then -1 else 1
theorem or1 {x : Int} (h : isW x) (b : Int) (hb : b = 0 ∨ b = 1) : orI .u64 (x * 2 % 18446744073709551616) b = x * 2 % 18446744073709551616 + b := by
  unfold isW at h
  have e : x * 2 % 18446744073709551616 = (x % 9223372036854775808) * 2 ^ 1 := by omega
  rw [e]
  exact or_add 1 (by omega) (by omega) (by omega) (by omega)
theorem or63 {x y : Int} (h : isW x) (hy : isW y) : orI .u64 (x * 2 % 18446744073709551616) (y / 9223372036854775808) = x * 2 % 18446744073709551616 + y / 9223372036854775808 := by
  unfold isW at hy
  exact or1 h _ (by omega)
theorem mulW_bound {x y : Int} (hx : isW x) (hy : isW y) : 0 ≤ x * y ∧ x * y ≤ 340282366920938463426481119284349108225 := by
  unfold isW at hx hy
  refine ⟨Int.mul_nonneg hx.1 hy.1, ?_⟩
  have h1 : x * y ≤ 18446744073709551615 * y := Int.mul_le_mul_of_nonneg_right (by omega) hy.1
  omega
theorem condT {α : Type} {p : Prop} {i : Decidable p} {a b x : α} (h : p) (e : a = x) : (bif @decide p i then a else b) = x := by rw [decide_eq_true h]; exact e
theorem condF {α : Type} {p : Prop} {i : Decidable p} {a b x : α} (h : ¬ p) (e : b = x) : (bif @decide p i then a else b) = x := by rw [decide_eq_false h]; exact e
theorem condB {α : Type} {c : Bool} {a b x : α} (h : c = true) (e : a = x) : (bif c then a else b) = x := by rw [h]; exact e
theorem condN {α : Type} {c : Bool} {a b x : α} (h : c = false) (e : b = x) : (bif c then a else b) = x := by rw [h]; exact e
/-- Four words' number. -/
def val4 (a b c d : Int) : Int := a + b * 18446744073709551616 + c * 340282366920938463463374607431768211456 + d * 6277101735386680763835789423207666416102355444464034512896
theorem val4_digits (v : Int) : val4 (v % 18446744073709551616) (v / 18446744073709551616 % 18446744073709551616) (v / 340282366920938463463374607431768211456 % 18446744073709551616) (v / 6277101735386680763835789423207666416102355444464034512896 % 18446744073709551616) = v % 115792089237316195423570985008687907853269984665640564039457584007913129639936 := by
  unfold val4; omega
theorem wVal_mul (a b c d : Int) : wVal a b * wVal c d = a * c * 340282366920938463463374607431768211456 + (a * d + b * c) * 18446744073709551616 + b * d := by
  unfold wVal
  have e : a * 18446744073709551616 * (c * 18446744073709551616) = a * c * 340282366920938463463374607431768211456 := by
    rw [Int.mul_assoc a, ← Int.mul_assoc 18446744073709551616 c, Int.mul_comm 18446744073709551616 c, Int.mul_assoc c, ← Int.mul_assoc a c]; rfl
  rw [Int.add_mul, Int.mul_add, Int.mul_add, e, Int.mul_right_comm a _ d, ← Int.mul_assoc b c]
  generalize a * c = p; generalize a * d = q; generalize b * c = r; generalize b * d = s
  omega
/-! ### numbers of 128 bits with a sign -/
def isI (v : Int) : Prop := -170141183460469231731687303715884105728 ≤ v ∧ v < 170141183460469231731687303715884105728
instance (v : Int) : Decidable (isI v) := inferInstanceAs (Decidable (-170141183460469231731687303715884105728 ≤ v ∧ v < 170141183460469231731687303715884105728))
/-- What fits; else 0. -/
def clip (v : Int) : Int := if isI v then v else 0
def errV (v : Int) : Int := if isI v then 0 else 2
def absV (v : Int) : Int := if v < 0 then -v else v
theorem clip_in {v : Int} (h : isI v) : clip v = v := if_pos h
theorem errV_in {v : Int} (h : isI v) : errV v = 0 := if_pos h
theorem clip_out {v : Int} (h : ¬ isI v) : clip v = 0 := if_neg h
theorem errV_out {v : Int} (h : ¬ isI v) : errV v = 2 := if_neg h
theorem isI_val {a b : Int} (ha : isH a) (hb : isW b) : isI (wVal a b) := by unfold isH at ha; unfold isW at hb; unfold isI wVal; omega
theorem i64w (x : Int) : IntKind.i64.wrap x = (x + 9223372036854775808) % 18446744073709551616 - 9223372036854775808 := IntKind.wrap_i64 x
theorem absV_mul (u v : Int) : absV u * absV v = absV (u * v) := by
  unfold absV
  by_cases h1 : u < 0 <;> by_cases h2 : v < 0
  · rw [if_pos h1, if_pos h2, Int.neg_mul_neg, if_neg (by have := Int.mul_pos_of_neg_of_neg h1 h2; omega)]
  · rw [if_pos h1, if_neg h2, Int.neg_mul]
    have : u * v ≤ 0 := Int.mul_nonpos_of_nonpos_of_nonneg (by omega) (by omega)
    split <;> omega
  · rw [if_neg h1, if_pos h2, Int.mul_neg]
    have : u * v ≤ 0 := Int.mul_nonpos_of_nonneg_of_nonpos (by omega) (by omega)
    split <;> omega
  · rw [if_neg h1, if_neg h2, if_neg (by have := Int.mul_nonneg (show 0 ≤ u by omega) (show 0 ≤ v by omega); omega)]
theorem div_two {A d f K : Int} (hf : 0 < f) : ((A * K + d) / f = A / f * K + (A % f * K + d) / f) ∧ (A * K + d) % f = (A % f * K + d) % f := by
  have e : A * K + d = (A % f * K + d) + f * (A / f * K) := by
    have := Int.mul_ediv_add_emod A f
    calc A * K + d = (f * (A / f) + A % f) * K + d := by rw [this]
      _ = _ := by rw [Int.add_mul, Int.mul_assoc]; omega
  refine ⟨?_, ?_⟩
  · rw [e, Int.add_mul_ediv_left _ _ (by omega)]; omega
  · rw [e, Int.add_mul_emod_self_left]
theorem cmpV_le (u v : Int) : cmpV u v ≤ 0 ↔ u ≤ v := by unfold cmpV; split <;> (try split) <;> omega
theorem cmpV_lt (u v : Int) : cmpV u v < 0 ↔ u < v := by unfold cmpV; split <;> (try split) <;> omega
theorem cmpV_ge (u v : Int) : 0 ≤ cmpV u v ↔ v ≤ u := by unfold cmpV; split <;> (try split) <;> omega
theorem cmpV_gt (u v : Int) : 0 < cmpV u v ↔ v < u := by unfold cmpV; split <;> (try split) <;> omega
theorem wVal_M {a b : Int} (ha : isW a) (hb : isW b) : 0 ≤ wVal a b ∧ wVal a b < 340282366920938463463374607431768211456 := by unfold isW at ha hb; unfold wVal; omega
theorem wVal_neg {a b : Int} (hb : isW b) : wVal a b < 0 ↔ a < 0 := by unfold isW at hb; unfold wVal; omega
theorem quo_uniq {N D Q R : Int} (hD : 0 < D) (h : Q * D + R = N) (r0 : 0 ≤ R) (r1 : R < D) : N / D = Q ∧ N % D = R := by
  have e : N = R + D * Q := by rw [Int.mul_comm D]; omega
  refine ⟨?_, ?_⟩
  · rw [e, Int.add_mul_ediv_left _ _ (by omega), Int.ediv_eq_zero_of_lt r0 r1]; omega
  · rw [e, Int.add_mul_emod_self_left]; exact Int.emod_eq_of_lt r0 r1
/-- One step of the long division. -/
theorem ldiv_step {N D Q R m T S : Int} (hD : 0 < D) (hT : 0 < T) (hS : 0 < S) (hTS : T * S = 170141183460469231731687303715884105728) (m0 : 0 ≤ m) (m1 : m < 2 * T) (r0 : 0 ≤ R) (r1 : R < D) (hN : (Q * D + R) * (2 * T) + m = N) :
    ∃ bit m', (bit = 0 ∨ bit = 1) ∧ 0 ≤ m' ∧ m' < T ∧ m * S / 170141183460469231731687303715884105728 = bit ∧ 2 * (m * S) % 340282366920938463463374607431768211456 = m' * (2 * S) ∧ 0 ≤ m * S ∧ m * S < 340282366920938463463374607431768211456 ∧
      ∀ c : Int, ((2 * Q + c) * D + (2 * R + bit - c * D)) * T + m' = N := by
  have hx : (Q * D + R) * (2 * T) = 2 * ((Q * D + R) * T) := by rw [Int.mul_left_comm]
  have hms : 0 ≤ m * S := Int.mul_nonneg m0 (by omega)
  have key : ∀ bit c : Int, ((2 * Q + c) * D + (2 * R + bit - c * D)) * T = 2 * ((Q * D + R) * T) + bit * T := by
    intro bit c
    have : (2 * Q + c) * D + (2 * R + bit - c * D) = 2 * (Q * D + R) + bit := by
      rw [Int.add_mul, Int.mul_assoc]; omega
    rw [this, Int.add_mul, Int.mul_assoc]
  by_cases h : m < T
  · have h1 : m * S < T * S := Int.mul_lt_mul_of_pos_right h hS
    refine ⟨0, m, .inl rfl, m0, h, by omega, ?_, hms, by omega, fun c => ?_⟩
    · have := Int.mul_left_comm m 2 S; omega
    · rw [key]; omega
  · have h1 : T * S ≤ m * S := Int.mul_le_mul_of_nonneg_right (by omega) (by omega)
    have h2 : m * S < 2 * T * S := Int.mul_lt_mul_of_pos_right m1 hS
    rw [Int.mul_assoc, hTS] at h2
    refine ⟨1, m - T, .inr rfl, by omega, by omega, by omega, ?_, hms, by omega, fun c => ?_⟩
    · have h3 := Int.mul_left_comm (m - T) 2 S
      rw [Int.sub_mul m T S] at h3; omega
    · rw [key]; omega
theorem or_lowQ {Q : Int} : orI .u64 (wLo (2 * Q)) 1 = wLo (2 * Q + 1) := by
  have e : wLo (2 * Q) = (Q % 9223372036854775808) * 2 % 18446744073709551616 := by unfold wLo; omega
  have h : isW (Q % 9223372036854775808) := ⟨by omega, by omega⟩
  rw [e, or1 h 1 (.inr rfl)]
  unfold wLo; omega
theorem wHi_2 (Q : Int) : wHi (2 * Q) = wHi (2 * Q + 1) := by unfold wHi; omega
/-- What a division answers: rounded down; 3: by what is not above 0; 2: too great. -/
def qV (P D : Int) : Int := if 0 < D then clip (P / D) else 0
def rV (P D : Int) : Int := if 0 < D ∧ isI (P / D) then P % D else 0
def eV (P D : Int) : Int := if 0 < D then errV (P / D) else 3
theorem divV_ok {P D Q R : Int} (hD : 0 < D) (h : Q * D + R = P) (r0 : 0 ≤ R) (r1 : R < D) (hi : isI Q) : qV P D = Q ∧ rV P D = R ∧ eV P D = 0 := by
  obtain ⟨e1, e2⟩ := quo_uniq hD h r0 r1
  unfold qV rV eV
  rw [if_pos hD, e1, if_pos ⟨hD, hi⟩, e2, if_pos hD, clip_in hi, errV_in hi]
  exact ⟨rfl, rfl, rfl⟩
theorem divV_no {P D Q R : Int} (hD : 0 < D) (h : Q * D + R = P) (r0 : 0 ≤ R) (r1 : R < D) (hi : ¬ isI Q) : qV P D = 0 ∧ rV P D = 0 ∧ eV P D = 2 := by
  obtain ⟨e1, e2⟩ := quo_uniq hD h r0 r1
  unfold qV rV eV
  rw [if_pos hD, e1, if_neg (fun x => hi x.2), if_pos hD, clip_out hi, errV_out hi]
  exact ⟨rfl, rfl, rfl⟩
theorem sign_mul {a c u v : Int} (n1 : u < 0 ↔ a < 0) (n2 : v < 0 ↔ c < 0) :
    ((decide (a < 0) != decide (c < 0)) = true ∧ u * v ≤ 0 ∧ absV (u * v) = - (u * v)) ∨ ((decide (a < 0) != decide (c < 0)) = false ∧ 0 ≤ u * v ∧ absV (u * v) = u * v) := by
  have s1 : u < 0 → v < 0 → 0 < u * v := Int.mul_pos_of_neg_of_neg
  have s2 : u < 0 → 0 ≤ v → u * v ≤ 0 := fun h h' => Int.mul_nonpos_of_nonpos_of_nonneg (by omega) h'
  have s3 : 0 ≤ u → v < 0 → u * v ≤ 0 := fun h h' => Int.mul_nonpos_of_nonneg_of_nonpos h (by omega)
  have s4 : 0 ≤ u → 0 ≤ v → 0 ≤ u * v := Int.mul_nonneg
  unfold absV
  generalize u * v = t at *
  by_cases q1 : a < 0 <;> by_cases q2 : c < 0 <;> simp [q1, q2] <;> (try split) <;> omega
theorem absV_big {u v : Int} (h1 : isI u) (h2 : isI v) : 0 ≤ absV (u * v) ∧ absV (u * v) ≤ 28948022309329048855892746252171976963317496166410141009864396001978282409984 := by
  rw [← absV_mul]
  have a1 : 0 ≤ absV u ∧ absV u ≤ 170141183460469231731687303715884105728 := by unfold isI at h1; unfold absV; split <;> omega
  have a2 : 0 ≤ absV v ∧ absV v ≤ 170141183460469231731687303715884105728 := by unfold isI at h2; unfold absV; split <;> omega
  refine ⟨Int.mul_nonneg a1.1 a2.1, ?_⟩
  have : absV u * absV v ≤ 170141183460469231731687303715884105728 * absV v := Int.mul_le_mul_of_nonneg_right a1.2 a2.1
  omega
theorem wH0 : wHi 0 = 0 := rfl
theorem wL0 : wLo 0 = 0 := rfl
end Go.Sy
