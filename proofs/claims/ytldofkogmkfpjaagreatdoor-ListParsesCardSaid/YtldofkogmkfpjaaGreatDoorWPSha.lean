/-
  The sum of bytes, as plain functions.
-/
import Derived.Test.YtldofkogmkfpjaaGreatDoorWPBits
namespace Go.Sy.Sh
open Go.Ev Go.Sy
def rotN (x k : Nat) : Nat := x * 2 ^ k % 4294967296 + x / 2 ^ (32 - k)
def fN (t b c d : Nat) : Nat := if t / 20 = 0 then (b &&& c) ||| ((4294967295 - b) &&& d) else if t / 20 = 2 then (b &&& c) ||| (b &&& d) ||| (c &&& d) else b ^^^ c ^^^ d
def kN (t : Nat) : Nat := if t / 20 = 0 then 1518500249 else if t / 20 = 1 then 1859775393 else if t / 20 = 2 then 2400959708 else 3395469782
def wordN (b : List Nat) (i : Nat) : Nat := nthN b i * 16777216 + nthN b (i + 1) * 65536 + nthN b (i + 2) * 256 + nthN b (i + 3)
/-- The first t words that come of a block. -/
def sp (b : List Nat) : Nat → List Nat
  | 0 => []
  | t + 1 => sp b t ++ [if t < 16 then wordN b (4 * t) else rotN (nthN (sp b t) (t - 3) ^^^ nthN (sp b t) (t - 8) ^^^ nthN (sp b t) (t - 14) ^^^ nthN (sp b t) (t - 16)) 1]
def stepN (t : Nat) (x : List Nat) (w : Nat) : List Nat :=
  [(rotN (nthN x 0) 5 + fN t (nthN x 1) (nthN x 2) (nthN x 3) + nthN x 4 + kN t + w) % 4294967296, nthN x 0, rotN (nthN x 1) 30, nthN x 2, nthN x 3]
def xs (s w : List Nat) : Nat → List Nat
  | 0 => s
  | t + 1 => stepN t (xs s w t) (nthN w t)
/-- All words of a block; the words behind all rounds: behind names that nothing unfolds. -/
theorem w80_ex (b : List Nat) : ∃ l, l = sp b 80 := ⟨_, rfl⟩
noncomputable def w80 (b : List Nat) : List Nat := Classical.choose (w80_ex b)
theorem w80_eq (b : List Nat) : w80 b = sp b 80 := Classical.choose_spec (w80_ex b)
theorem x80_ex (s b : List Nat) : ∃ l, l = xs s (w80 b) 80 := ⟨_, rfl⟩
noncomputable def x80 (s b : List Nat) : List Nat := Classical.choose (x80_ex s b)
theorem x80_eq (s b : List Nat) : x80 s b = xs s (w80 b) 80 := Classical.choose_spec (x80_ex s b)
noncomputable def compN (s b : List Nat) : List Nat :=
  let x := x80 s b
  [(nthN s 0 + nthN x 0) % 4294967296, (nthN s 1 + nthN x 1) % 4294967296, (nthN s 2 + nthN x 2) % 4294967296, (nthN s 3 + nthN x 3) % 4294967296, (nthN s 4 + nthN x 4) % 4294967296]
def begN : List Nat := [1732584193, 4023233417, 2562383102, 271733878, 3285377520]
def zpad (n : Nat) : Nat := (119 - n % 64) % 64
def lenB (n i : Nat) : Nat := n * 8 / 2 ^ (56 - 8 * i) % 256
def padL (l : List Nat) : List Nat := l ++ [128] ++ List.replicate (zpad l.length) 0 ++ (List.range 8).map (lenB l.length)
/-- The words behind the first i blocks. -/
noncomputable def stN (m : List Nat) : Nat → List Nat
  | 0 => begN
  | i + 1 => compN (stN m i) ((m.drop (64 * i)).take 64)
noncomputable def wordsN (l : List Nat) : List Nat := stN (padL l) ((padL l).length / 64)

theorem padL_len (l : List Nat) : (padL l).length = l.length + 1 + zpad l.length + 8 := by simp [padL]; omega
theorem padL_64 (l : List Nat) : (padL l).length = 64 * ((padL l).length / 64) := by rw [padL_len]; unfold zpad; omega
theorem padL_lt {l : List Nat} (h : ∀ x ∈ l, x < 256) : ∀ x ∈ padL l, x < 256 := by
  intro x hx
  simp only [padL, List.mem_append, List.mem_singleton, List.mem_map, List.mem_range] at hx
  rcases hx with ((hx | hx) | hx) | ⟨i, _, rfl⟩
  · exact h x hx
  · omega
  · have := (List.mem_replicate.1 hx).2; omega
  · unfold lenB; omega
theorem sp_len (b : List Nat) (t : Nat) : (sp b t).length = t := by
  induction t with
  | zero => rfl
  | succ t ih => simp [sp, ih]
theorem xs_len {s w : List Nat} (h : s.length = 5) (t : Nat) : (xs s w t).length = 5 := by
  cases t with
  | zero => exact h
  | succ t => rfl
theorem p32 {k : Nat} (hk : k ≤ 32) : 2 ^ k * 2 ^ (32 - k) = 4294967296 := by
  rw [← Nat.pow_add, show k + (32 - k) = 32 by omega]
theorem rot_hi {x k : Nat} (hk : k ≤ 32) : x * 2 ^ k % 4294967296 = 2 ^ k * (x % 2 ^ (32 - k)) := by
  rw [← p32 hk, Nat.mul_comm x, Nat.mul_mod_mul_left]
theorem rot_lo {x k : Nat} (h : x < 4294967296) (hk : k ≤ 32) : x / 2 ^ (32 - k) < 2 ^ k := by
  rw [Nat.div_lt_iff_lt_mul (Nat.two_pow_pos _), p32 hk]; exact h
theorem rotN_lt {x k : Nat} (h : x < 4294967296) (hk : k ≤ 32) : rotN x k < 4294967296 := by
  unfold rotN
  have h1 := rot_lo h hk
  have h2 : x % 2 ^ (32 - k) < 2 ^ (32 - k) := Nat.mod_lt _ (Nat.two_pow_pos _)
  have h3 : 2 ^ k * (x % 2 ^ (32 - k)) + 2 ^ k ≤ 2 ^ k * 2 ^ (32 - k) := by
    rw [← Nat.mul_succ]; exact Nat.mul_le_mul_left _ h2
  rw [p32 hk, ← rot_hi hk] at h3
  omega
theorem rot_or {x k : Nat} (h : x < 4294967296) (hk : k ≤ 32) : (x * 2 ^ k % 4294967296) ||| (x / 2 ^ (32 - k)) = rotN x k := by
  unfold rotN
  rw [rot_hi hk, Nat.two_pow_add_eq_or_of_lt (rot_lo h hk)]
theorem sp_lt {b : List Nat} (h : ∀ x ∈ b, x < 256) (t : Nat) : ∀ x ∈ sp b t, x < 4294967296 := by
  induction t with
  | zero => intro x hx; cases hx
  | succ t ih =>
    intro x hx
    simp only [sp, List.mem_append, List.mem_singleton] at hx
    rcases hx with hx | rfl
    · exact ih x hx
    · have g := fun i => nthN_all ih (by omega) i
      have gb := fun i => nthN_all h (by omega) i
      split
      · unfold wordN
        have := gb (4 * t); have := gb (4 * t + 1); have := gb (4 * t + 2); have := gb (4 * t + 3)
        omega
      · refine rotN_lt ?_ (by omega)
        have e : (4294967296 : Nat) = 2 ^ 32 := by decide
        rw [e] at g ⊢
        exact xor_lt (xor_lt (xor_lt (g _) (g _)) (g _)) (g _)
theorem xs_lt {s w : List Nat} (h : ∀ x ∈ s, x < 4294967296) (t : Nat) : ∀ x ∈ xs s w t, x < 4294967296 := by
  induction t with
  | zero => exact h
  | succ t ih =>
    intro x hx
    have g := fun i => nthN_all ih (by omega) i
    simp only [xs, stepN, List.mem_cons, List.not_mem_nil, or_false] at hx
    rcases hx with rfl | rfl | rfl | rfl | rfl
    · omega
    · exact g _
    · exact rotN_lt (g _) (by omega)
    · exact g _
    · exact g _
theorem w80_len (b : List Nat) : (w80 b).length = 80 := by rw [w80_eq, sp_len]
theorem x80_len {s : List Nat} (h : s.length = 5) (b : List Nat) : (x80 s b).length = 5 := by rw [x80_eq, xs_len h]
theorem compN_lt (s b : List Nat) : ∀ x ∈ compN s b, x < 4294967296 := by
  intro x hx
  simp only [compN, List.mem_cons, List.not_mem_nil, or_false] at hx
  omega
/-- A block's words so far, as the second sum builds them. -/
noncomputable def bkN (l : List Nat) (i : Nat) : List Nat := ((padL l).drop (64 * i)).take 64
noncomputable def rowN (b : List Nat) (t : Nat) : List Nat := (w80 b).take t ++ (List.replicate 80 0).drop t
def pwN (b : List Nat) (t : Nat) : Nat → Nat
  | 0 => 0
  | k + 1 => pwN b t k * 256 + nthN b (4 * t + k)
theorem rowN_len {b : List Nat} {t : Nat} (h : t ≤ 80) : (rowN b t).length = 80 := by
  unfold rowN
  simp [w80_len]; omega
theorem row0 (b : List Nat) : rowN b 0 = List.replicate 80 0 := rfl
theorem rowN_80 (b : List Nat) : rowN b 80 = w80 b := by
  unfold rowN
  rw [List.take_of_length_le (by rw [w80_len]; omega), List.drop_eq_nil_of_le (by simp), List.append_nil]
theorem rowN_lo {b : List Nat} {t j : Nat} (h : j < t) (ht : t ≤ 80) : nthN (rowN b t) j = nthN (w80 b) j := by
  unfold rowN
  rw [nthN_append_left (by rw [List.length_take, w80_len]; omega), nthN_take h]
theorem rowN_at {b : List Nat} {t : Nat} (ht : t ≤ 80) : nthN (rowN b t) t = 0 := by
  unfold rowN
  rw [nthN_mid (by rw [w80_len]; omega) _ (Nat.le_refl _), nthN_replicate]
theorem set_nth (l : List Nat) (t : Nat) : l.set t (nthN l t) = l := by
  rcases Nat.lt_or_ge t l.length with h | h
  · rw [nthN_lt h, List.set_getElem_self]
  · rw [List.set_eq_of_length_le h]
theorem rowN_set0 {b : List Nat} {t : Nat} (ht : t ≤ 80) : (rowN b t).set t 0 = rowN b t := by
  have := set_nth (rowN b t) t
  rwa [rowN_at ht] at this
theorem rowN_next {b : List Nat} {t : Nat} (ht : t < 80) : (rowN b t).set t (nthN (w80 b) t) = rowN b (t + 1) :=
  set_mid (c := w80 b) (s := List.replicate 80 0) (n := t) (by rw [w80_len]; omega) (by simp; omega)
theorem sp_take {b : List Nat} {t n : Nat} (h : t ≤ n) : (sp b n).take t = sp b t := by
  induction n with
  | zero => obtain rfl : t = 0 := by omega
            rfl
  | succ n ih =>
    rcases Nat.lt_or_ge n t with g | g
    · obtain rfl : t = n + 1 := by omega
      exact List.take_of_length_le (by rw [sp_len]; omega)
    · rw [sp, List.take_append_of_le_length (by rw [sp_len]; omega)]; exact ih g
theorem w80_nth {b : List Nat} {t : Nat} (h : t < 80) : nthN (w80 b) t = nthN (sp b (t + 1)) t := by
  rw [← sp_take (show t + 1 ≤ 80 by omega), nthN_take (by omega), w80_eq]
theorem sp_last (b : List Nat) (t x : Nat) : nthN (sp b t ++ [x]) t = x := by
  rw [nthN_append_right (by rw [sp_len]; omega), sp_len, Nat.sub_self]; rfl
theorem w80_lo {b : List Nat} {t : Nat} (h : t < 16) : nthN (w80 b) t = wordN b (4 * t) := by
  rw [w80_nth (by omega), sp, if_pos h, sp_last]
theorem w80_at {b : List Nat} {t j : Nat} (h : j < t) (ht : t ≤ 80) : nthN (sp b t) j = nthN (w80 b) j := by
  rw [← sp_take ht, nthN_take h, w80_eq]
theorem w80_hi {b : List Nat} {t : Nat} (h : 16 ≤ t) (ht : t < 80) : nthN (w80 b) t = rotN (nthN (w80 b) (t - 3) ^^^ nthN (w80 b) (t - 8) ^^^ nthN (w80 b) (t - 14) ^^^ nthN (w80 b) (t - 16)) 1 := by
  rw [w80_nth ht, sp, if_neg (by omega), sp_last, w80_at (by omega) (by omega), w80_at (by omega) (by omega), w80_at (by omega) (by omega), w80_at (by omega) (by omega)]
theorem w80_lt {b : List Nat} (h : ∀ x ∈ b, x < 256) : ∀ x ∈ w80 b, x < 4294967296 := by rw [w80_eq]; exact sp_lt h 80
theorem pwN_lt {b : List Nat} (h : ∀ x ∈ b, x < 256) (t : Nat) : ∀ k, pwN b t k < 256 ^ k := by
  intro k
  induction k with
  | zero => simp [pwN]
  | succ k ih =>
    have := nthN_all (p := fun x => x < 256) h (by omega) (4 * t + k)
    simp only [pwN, Nat.pow_succ]
    omega
theorem pwN_4 (b : List Nat) (t : Nat) : pwN b t 4 = wordN b (4 * t) := by simp only [pwN, wordN, Nat.add_zero]; omega
theorem bkN_lt {l : List Nat} (h : ∀ x ∈ l, x < 256) (i : Nat) : ∀ x ∈ bkN l i, x < 256 := fun x hx => padL_lt h x (List.mem_of_mem_drop (List.mem_of_mem_take hx))
theorem bkN_nth {l : List Nat} {i j : Nat} (h : j < 64) : nthN (bkN l i) j = nthN (padL l) (64 * i + j) := by
  unfold bkN
  rw [nthN_take h, nthN_drop]
/-- The words behind t rounds of block i. -/
noncomputable def xN (l : List Nat) (i t : Nat) : List Nat := xs (stN (padL l) i) (w80 (bkN l i)) t
theorem xN_lt (l : List Nat) (i t : Nat) : ∀ x ∈ xN l i t, x < 4294967296 := xs_lt (by
  intro x hx
  revert x
  cases i with
  | zero => intro x hx; simp only [stN, begN, List.mem_cons, List.not_mem_nil, or_false] at hx; omega
  | succ i => exact compN_lt _ _) t
theorem xN_0 (l : List Nat) (i : Nat) : xN l i 0 = stN (padL l) i := rfl
theorem step0 (l : List Nat) (i t : Nat) : nthN (xN l i (t + 1)) 0 = (rotN (nthN (xN l i t) 0) 5 + fN t (nthN (xN l i t) 1) (nthN (xN l i t) 2) (nthN (xN l i t) 3) + nthN (xN l i t) 4 + kN t + nthN (w80 (bkN l i)) t) % 4294967296 := rfl
theorem xN_next (l : List Nat) (i t : Nat) : xN l i (t + 1) = stepN t (xN l i t) (nthN (w80 (bkN l i)) t) := rfl
theorem stN_next (l : List Nat) (i : Nat) : stN (padL l) (i + 1) = compN (stN (padL l) i) (bkN l i) := rfl
theorem xN_80 (l : List Nat) (i : Nat) : x80 (stN (padL l) i) (bkN l i) = xN l i 80 := x80_eq _ _
theorem and_or_disj {b c d : Nat} (hb : b < 4294967296) (hd : d < 4294967296) : (b &&& c) + ((4294967295 - b) &&& d) = (b &&& c) ||| ((4294967295 - b) &&& d) := by
  have h1 : b &&& c < 2 ^ 32 := and_lt (w := 32) hb
  have key : ∀ x y : Nat, x < 2 ^ 32 → y < 2 ^ 32 → x &&& y = 0 → x + y = x ||| y := fun x y hx hy h => by
    have h2 := BitVec.add_eq_or_of_and_eq_zero (BitVec.ofNat 33 x) (BitVec.ofNat 33 y) (by
      apply BitVec.eq_of_toNat_eq
      rw [BitVec.toNat_and, BitVec.toNat_ofNat, BitVec.toNat_ofNat, Nat.mod_eq_of_lt (by omega), Nat.mod_eq_of_lt (by omega), h]; rfl)
    have h3 := congrArg BitVec.toNat h2
    rw [BitVec.toNat_add, BitVec.toNat_or, BitVec.toNat_ofNat, BitVec.toNat_ofNat, Nat.mod_eq_of_lt (show x < 2 ^ 33 by omega), Nat.mod_eq_of_lt (show y < 2 ^ 33 by omega), Nat.mod_eq_of_lt (by omega)] at h3
    exact h3
  apply key _ _ h1 (Nat.lt_of_le_of_lt Nat.and_le_right hd)
  apply Nat.eq_of_testBit_eq
  intro i
  have e : 4294967295 - b = 2 ^ 32 - (b + 1) := by omega
  rw [Nat.testBit_and, Nat.testBit_and, Nat.testBit_and, e, Nat.testBit_two_pow_sub_succ hb]
  cases b.testBit i <;> simp
theorem stN_lt (m : List Nat) (i : Nat) : ∀ x ∈ stN m i, x < 4294967296 := by
  cases i with
  | zero => intro x hx; simp only [stN, begN, List.mem_cons, List.not_mem_nil, or_false] at hx; omega
  | succ i => exact compN_lt _ _
theorem begN_len : begN.length = 5 := rfl
theorem stN_len (m : List Nat) (i : Nat) : (stN m i).length = 5 := by cases i <;> rfl
theorem wordsN_lt (l : List Nat) : ∀ x ∈ wordsN l, x < 4294967296 := stN_lt _ _
/-- The sum's bytes. -/
noncomputable def sumN (l : List Nat) : List Nat := (List.range 20).map fun j => nthN (wordsN l) (j / 4) / 2 ^ (24 - 8 * (j % 4)) % 256
theorem sumN_len (l : List Nat) : (sumN l).length = 20 := by simp [sumN]
theorem nthN_map_range (f : Nat → Nat) (n i : Nat) (h : i < n) : nthN ((List.range n).map f) i = f i := by
  simp [nthN, List.getD_eq_getElem?_getD, h]
theorem sumN_at (l : List Nat) (n k : Nat) (hn : n < 5) (hk : k < 4) : nthN (sumN l) (4 * n + k) = nthN (wordsN l) n / 2 ^ (24 - 8 * k) % 256 := by
  rw [sumN, nthN_map_range _ _ _ (by omega), show (4 * n + k) / 4 = n by omega, show (4 * n + k) % 4 = k by omega]
theorem sumN_lt (l : List Nat) : ∀ x ∈ sumN l, x < 256 := by
  intro x hx
  simp only [sumN, List.mem_map] at hx
  obtain ⟨j, _, rfl⟩ := hx
  exact Nat.mod_lt _ (by decide)
theorem wordsN_len (l : List Nat) : (wordsN l).length = 5 := stN_len _ _
theorem fN_lt {t b c d : Nat} (hb : b < 4294967296) (hc : c < 4294967296) (hd : d < 4294967296) : fN t b c d < 4294967296 := by
  have e : (4294967296 : Nat) = 2 ^ 32 := by decide
  unfold fN
  rw [e] at *
  split
  · exact or_lt (and_lt hb) (Nat.lt_of_le_of_lt Nat.and_le_right hd)
  · split
    · exact or_lt (or_lt (and_lt hb) (and_lt hb)) (and_lt hc)
    · exact xor_lt (xor_lt hb hc) hd
theorem kN_lt (t : Nat) : kN t < 4294967296 := by unfold kN; repeat' split
                                                  all_goals omega
end Go.Sy.Sh
