/-
  The sum of given bytes, for the kernel to work out.
-/
import Derived.Test.YtldofkogmkfpjaaGreatDoorWPSha
namespace Go.Sy.Sh
open Go.Ev Go.Sy
set_option maxRecDepth 10000
/-- Forces a number before it is used. -/
def force {α : Type} (n : Nat) (k : Nat → α) : α := Nat.rec (k 0) (fun m _ => k (m + 1)) n
theorem force_eq {α : Type} (n : Nat) (k : Nat → α) : force n k = k n := by cases n <;> rfl
def valR (b : List Nat) (t : Nat) (acc : List Nat) : Nat :=
  if t < 16 then wordN b (4 * t) else rotN (nthN acc 2 ^^^ nthN acc 7 ^^^ nthN acc 13 ^^^ nthN acc 15) 1
def extR (b : List Nat) : Nat → Nat → List Nat → List Nat
  | 0, _, acc => acc
  | n + 1, t, acc => force (valR b t acc) fun v => extR b n (t + 1) (v :: acc)
theorem nthN_rev {acc : List Nat} {t j : Nat} (hl : acc.length = t) (hj : j < t) : nthN acc.reverse (t - 1 - j) = nthN acc j := by
  rw [nthN_lt (show t - 1 - j < acc.reverse.length by simp; omega), nthN_lt (by omega), List.getElem_reverse]
  congr 1; omega
theorem extR_eq (b : List Nat) : ∀ n t acc, acc.reverse = sp b t → (extR b n t acc).reverse = sp b (t + n) := by
  intro n
  induction n with
  | zero => intro t acc h; exact h
  | succ n ih =>
    intro t acc h
    have hl : acc.length = t := by have := congrArg List.length h; rwa [List.length_reverse, sp_len] at this
    rw [extR, force_eq, ih (t + 1) _ ?_, Nat.add_right_comm]; · rfl
    rw [List.reverse_cons, h, sp, valR]
    congr 2
    split
    · rfl
    · rw [← h, show t - 3 = t - 1 - 2 by omega, show t - 8 = t - 1 - 7 by omega, show t - 14 = t - 1 - 13 by omega, show t - 16 = t - 1 - 15 by omega,
        nthN_rev hl (by omega), nthN_rev hl (by omega), nthN_rev hl (by omega), nthN_rev hl (by omega)]
def xsF : List Nat → Nat → Nat → Nat → Nat → Nat → Nat → List Nat
  | [], _, a, b, c, d, e => [a, b, c, d, e]
  | w :: ws, t, a, b, c, d, e => force ((rotN a 5 + fN t b c d + e + kN t + w) % 4294967296) fun v => force (rotN b 30) fun u => xsF ws (t + 1) v a u c d
theorem xsF_eq (s w : List Nat) : ∀ (ws : List Nat) t a b c d e, w.drop t = ws → xs s w t = [a, b, c, d, e] → xsF ws t a b c d e = xs s w (t + ws.length) := by
  intro ws
  induction ws with
  | nil => intro t a b c d e _ h; exact h.symm
  | cons x ws ih =>
    intro t a b c d e hd h
    rw [xsF, force_eq, force_eq, List.length_cons, show t + (ws.length + 1) = t + 1 + ws.length by omega]
    refine ih (t + 1) _ _ _ _ _ ?_ ?_
    · rw [← List.drop_drop, hd]; rfl
    · have hx : nthN w t = x := by
        have := congrArg (fun l => nthN l 0) hd
        simp only [nthN_drop, Nat.add_zero] at this
        exact this
      rw [xs, h, hx]; rfl
def compF (s b : List Nat) : List Nat :=
  let x := xsF (extR b 80 0 []).reverse 0 (nthN s 0) (nthN s 1) (nthN s 2) (nthN s 3) (nthN s 4)
  [(nthN s 0 + nthN x 0) % 4294967296, (nthN s 1 + nthN x 1) % 4294967296, (nthN s 2 + nthN x 2) % 4294967296, (nthN s 3 + nthN x 3) % 4294967296, (nthN s 4 + nthN x 4) % 4294967296]
theorem compF_eq {s : List Nat} (b : List Nat) (h : s = [nthN s 0, nthN s 1, nthN s 2, nthN s 3, nthN s 4]) : compN s b = compF s b := by
  have e1 : (extR b 80 0 []).reverse = w80 b := by rw [extR_eq b 80 0 [] rfl, Nat.zero_add, w80_eq]
  have e2 := xsF_eq s (w80 b) (w80 b) 0 _ _ _ _ _ rfl h
  unfold compF
  rw [e1, e2, w80_len, Nat.zero_add, ← x80_eq]; rfl
theorem words_one {l : List Nat} (h : l.length < 56) : wordsN l = compF begN ((padL l).take 64) := by
  have : (padL l).length / 64 = 1 := by rw [padL_len]; unfold zpad; omega
  rw [wordsN, this, stN, stN, List.drop_zero]
  exact compF_eq _ rfl
theorem w_0 : nthN (wordsN []) 0 = 3661210606 := by
  rw [words_one (by decide)]; decide +kernel
theorem w_4 : nthN (wordsN []) 4 = 2950170377 := by
  rw [words_one (by decide)]; decide +kernel
theorem s_0 : nthN (sumN [97, 98, 99]) 0 = 169 := by
  rw [sumN, words_one (by decide)]; decide +kernel
theorem s_19 : nthN (sumN [97, 98, 99]) 19 = 157 := by
  rw [sumN, words_one (by decide)]; decide +kernel
theorem sum_back {w : Nat} (h : w < 4294967296) : w / 2 ^ 24 % 256 * 16777216 + w / 2 ^ 16 % 256 * 65536 + w / 2 ^ 8 % 256 * 256 + w / 2 ^ 0 % 256 = w := by omega
theorem sum_word (l : List Nat) (i : Nat) : nthN (sumN l) (4 * i) * 16777216 + nthN (sumN l) (4 * i + 1) * 65536 + nthN (sumN l) (4 * i + 2) * 256 + nthN (sumN l) (4 * i + 3) = nthN (wordsN l) i := by
  rcases Nat.lt_or_ge i 5 with h | h
  · have e := sumN_at l i 0 h (by omega)
    rw [Nat.add_zero] at e
    rw [e, sumN_at l i 1 h (by omega), sumN_at l i 2 h (by omega), sumN_at l i 3 h (by omega)]
    exact sum_back (nthN_all (p := fun x => x < 4294967296) (wordsN_lt l) (by decide) i)
  · have z : ∀ j, 20 ≤ j → nthN (sumN l) j = 0 := fun j hj => by simp [nthN, List.getD_eq_getElem?_getD, List.getElem?_eq_none (show (sumN l).length ≤ j by rw [sumN_len]; exact hj)]
    have z2 : nthN (wordsN l) i = 0 := by simp [nthN, List.getD_eq_getElem?_getD, List.getElem?_eq_none (show (wordsN l).length ≤ i by rw [wordsN_len]; exact h)]
    rw [z _ (by omega), z _ (by omega), z _ (by omega), z _ (by omega), z2]
end Go.Sy.Sh
