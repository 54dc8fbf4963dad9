/-
  The contracts of the functions of layer 9 (sha).
-/
import Derived.Test.YtnhdfmnmciminaaShT5
import Derived.Test.YtnhdfmnmciminaaShT6
import Derived.Test.YtnhdfmnmciminaaShNum
import Derived.Test.YtnhdfmnmciminaaShSpec
namespace Go.Proofs.Ytnhdfmnmciminaa.Sh
open Go Go.Ev
set_option linter.unusedSimpArgs false
set_option linter.unusedVariables false
set_option maxRecDepth 10000
set_option maxHeartbeats 4000000
theorem addIn {a b : Nat} (h : a + b < 9223372036854775808) : IntKind.i64.wrap ((a : Int) + (b : Int)) = ((a + b : Nat) : Int) := i64n (a + b) h
theorem shlN {a n m : Nat} (hm : m = 2 ^ n) (hn : n ≤ 64) (h : a * m < 9223372036854775808) : wShl .i64 (a : Int) (OfNat.ofNat n) = ((a * m : Nat) : Int) := by
  subst hm; exact wShl_i a n hn h
theorem bytes4 {a b c d : Nat} (ha : a < 256) (hb : b < 256) (hc : c < 256) (hd : d < 256) :
    IntKind.i64.wrap (a : Int) = (a : Int) ∧ IntKind.i64.wrap (b : Int) = (b : Int) ∧ IntKind.i64.wrap (c : Int) = (c : Int) ∧ IntKind.i64.wrap (d : Int) = (d : Int) ∧
    wShl .i64 (a : Int) 24 = ((a * 16777216 : Nat) : Int) ∧ wShl .i64 (b : Int) 16 = ((b * 65536 : Nat) : Int) ∧ wShl .i64 (c : Int) 8 = ((c * 256 : Nat) : Int) ∧
    IntKind.i64.wrap (((a * 16777216 : Nat) : Int) + ((b * 65536 : Nat) : Int)) = ((a * 16777216 + b * 65536 : Nat) : Int) ∧
    IntKind.i64.wrap (((a * 16777216 + b * 65536 : Nat) : Int) + ((c * 256 : Nat) : Int)) = ((a * 16777216 + b * 65536 + c * 256 : Nat) : Int) ∧
    IntKind.i64.wrap (((a * 16777216 + b * 65536 + c * 256 : Nat) : Int) + (d : Int)) = ((a * 16777216 + b * 65536 + c * 256 + d : Nat) : Int) :=
  ⟨i64n _ (by omega), i64n _ (by omega), i64n _ (by omega), i64n _ (by omega), shlN (n := 24) rfl (by decide) (by omega), shlN (n := 16) rfl (by decide) (by omega), shlN (n := 8) rfl (by decide) (by omega),
   addIn (by omega), addIn (by omega), addIn (by omega)⟩
theorem is_ok (l : List Nat) (hp : l.length ≤ 140737488355328 ∧ ∀ x ∈ l, x < 256) : FnOk cfg 15 [BL l] (B true) := by
  have hwl := wordsN_len l
  have hsl := sumN_len l
  refine fnOk_eval [(20, plain refG), (19, plain wordsG), (16, plain sumG)] (good_cons ref_good (good_cons words_good (good_cons sum_good good_nil))) mixed Try.func15 rfl rfl Try.ntmps15 (congrArg Array.toList Try.results15) (by simp) (by simp only [go_sem, Nat.reduceAdd, Nat.reduceLT, Nat.reduceBEq, Nat.reduceEqDiff, reduceIte, reduceCtorEq, Nat.reduceLeDiff, Int.reduceEq, Int.reduceLT, Int.reduceLE, Int.reduceSub, Int.reduceAdd, Int.reduceMul, Int.reduceNeg, Int.reduceToNat, Nat.reduceMul, Nat.reduceSub, Nat.reduceDiv, Int.reduceMod, Int.reduceDiv, Int.reduceTDiv, Int.reduceTMod]) (by simp only [go_sem, Nat.reduceAdd, Nat.reduceLT, Nat.reduceBEq, Nat.reduceEqDiff, reduceIte, reduceCtorEq, Nat.reduceLeDiff, Int.reduceEq, Int.reduceLT, Int.reduceLE, Int.reduceSub, Int.reduceAdd, Int.reduceMul, Int.reduceNeg, Int.reduceToNat, Nat.reduceMul, Nat.reduceSub, Nat.reduceDiv, Int.reduceMod, Int.reduceDiv, Int.reduceTDiv, Int.reduceTMod]) ?_
  simp only [wordsG_eq l hp, sumG_eq l hp, refG_eq l hp, hwl, hsl, go_sem, Nat.reduceAdd, Nat.reduceLT, Nat.reduceBEq, Nat.reduceEqDiff, reduceIte, reduceCtorEq, Nat.reduceLeDiff, Int.reduceEq, Int.reduceLT, Int.reduceLE, Int.reduceSub, Int.reduceAdd, Int.reduceMul, Int.reduceNeg, Int.reduceToNat, Nat.reduceMul, Nat.reduceSub, Nat.reduceDiv, Int.reduceMod, Int.reduceDiv, Int.reduceTDiv, Int.reduceTMod]
  repeat' (first
    | ((with_reducible refine split_guard ?_ ?_) <;> intro hb <;> simp only [hb, wordsG_eq l hp, sumG_eq l hp, refG_eq l hp, hwl, hsl, go_sem, Nat.reduceAdd, Nat.reduceLT, Nat.reduceBEq, Nat.reduceEqDiff, reduceIte, reduceCtorEq, Nat.reduceLeDiff, Int.reduceEq, Int.reduceLT, Int.reduceLE, Int.reduceSub, Int.reduceAdd, Int.reduceMul, Int.reduceNeg, Int.reduceToNat, Nat.reduceMul, Nat.reduceSub, Nat.reduceDiv, Int.reduceMod, Int.reduceDiv, Int.reduceTDiv, Int.reduceTMod])
    | ((with_reducible refine split_cond ?_ ?_) <;> intro hb <;> simp only [hb, wordsG_eq l hp, sumG_eq l hp, refG_eq l hp, hwl, hsl, go_sem, Nat.reduceAdd, Nat.reduceLT, Nat.reduceBEq, Nat.reduceEqDiff, reduceIte, reduceCtorEq, Nat.reduceLeDiff, Int.reduceEq, Int.reduceLT, Int.reduceLE, Int.reduceSub, Int.reduceAdd, Int.reduceMul, Int.reduceNeg, Int.reduceToNat, Nat.reduceMul, Nat.reduceSub, Nat.reduceDiv, Int.reduceMod, Int.reduceDiv, Int.reduceTDiv, Int.reduceTMod])
    | ((with_reducible refine split_guardY ?_ ?_) <;> intro hb <;> simp only [hb, wordsG_eq l hp, sumG_eq l hp, refG_eq l hp, hwl, hsl, go_sem, Nat.reduceAdd, Nat.reduceLT, Nat.reduceBEq, Nat.reduceEqDiff, reduceIte, reduceCtorEq, Nat.reduceLeDiff, Int.reduceEq, Int.reduceLT, Int.reduceLE, Int.reduceSub, Int.reduceAdd, Int.reduceMul, Int.reduceNeg, Int.reduceToNat, Nat.reduceMul, Nat.reduceSub, Nat.reduceDiv, Int.reduceMod, Int.reduceDiv, Int.reduceTDiv, Int.reduceTMod])
    | ((with_reducible refine and_orderN (by kernel_rfl) ?_ ?_) <;> (try simp only [wordsG_eq l hp, sumG_eq l hp, refG_eq l hp, hwl, hsl, go_sem, Nat.reduceAdd, Nat.reduceLT, Nat.reduceBEq, Nat.reduceEqDiff, reduceIte, reduceCtorEq, Nat.reduceLeDiff, Int.reduceEq, Int.reduceLT, Int.reduceLE, Int.reduceSub, Int.reduceAdd, Int.reduceMul, Int.reduceNeg, Int.reduceToNat, Nat.reduceMul, Nat.reduceSub, Nat.reduceDiv, Int.reduceMod, Int.reduceDiv, Int.reduceTDiv, Int.reduceTMod]))
    | ((with_reducible refine (and_orderN (A := True) (by kernel_rfl) ?_ trivial).1) <;> (try simp only [wordsG_eq l hp, sumG_eq l hp, refG_eq l hp, hwl, hsl, go_sem, Nat.reduceAdd, Nat.reduceLT, Nat.reduceBEq, Nat.reduceEqDiff, reduceIte, reduceCtorEq, Nat.reduceLeDiff, Int.reduceEq, Int.reduceLT, Int.reduceLE, Int.reduceSub, Int.reduceAdd, Int.reduceMul, Int.reduceNeg, Int.reduceToNat, Nat.reduceMul, Nat.reduceSub, Nat.reduceDiv, Int.reduceMod, Int.reduceDiv, Int.reduceTDiv, Int.reduceTMod]))
    | (with_reducible exact (show bitOf _ _ _ = true by decide +kernel))
    | (with_reducible refine and_nomen ?_ ?_)
    | (with_reducible refine nomen_p (by first | rfl | simp only [go_sem, Nat.reduceBEq, Nat.reduceLeDiff, Nat.reduceEqDiff, reduceCtorEq, reduceIte]) ?_)
    | (with_reducible refine nomen_s (by first | rfl | simp only [go_sem, Nat.reduceBEq, Nat.reduceLeDiff, Nat.reduceEqDiff, reduceCtorEq, reduceIte]) ?_)
    | (with_reducible refine nomen_setB0 _ _ _ ?_)
    | (with_reducible refine nomen_p0 (by first | rfl | simp only [go_sem, Nat.reduceBEq, Nat.reduceLeDiff, Nat.reduceEqDiff, reduceCtorEq, reduceIte]) ?_)
    | (with_reducible refine nomen_j ?_)
    | (with_reducible exact nomen_i (by first | rfl | simp only [go_sem, Nat.reduceBEq, Nat.reduceLeDiff, Nat.reduceEqDiff, reduceCtorEq, reduceIte]))
    | (with_reducible exact nomen_iB (by first | rfl | simp only [go_sem, Nat.reduceBEq, Nat.reduceLeDiff, Nat.reduceEqDiff, reduceCtorEq, reduceIte]) (by first | rfl | simp only [go_sem, Nat.reduceBEq, Nat.reduceLeDiff, Nat.reduceEqDiff, reduceCtorEq, reduceIte]) (by decide))
    | (with_reducible exact nomen_b)
    | (with_reducible refine leX_nil (by simp only [go_sem, Nat.reduceBEq, Nat.reduceLeDiff, Nat.reduceEqDiff, reduceCtorEq, reduceIte]) ?_)
    | ((with_reducible refine leX_put ?_ ?_) <;> (try simp only [wordsG_eq l hp, sumG_eq l hp, refG_eq l hp, hwl, hsl, go_sem, Nat.reduceAdd, Nat.reduceLT, Nat.reduceBEq, Nat.reduceEqDiff, reduceIte, reduceCtorEq, Nat.reduceLeDiff, Int.reduceEq, Int.reduceLT, Int.reduceLE, Int.reduceSub, Int.reduceAdd, Int.reduceMul, Int.reduceNeg, Int.reduceToNat, Nat.reduceMul, Nat.reduceSub, Nat.reduceDiv, Int.reduceMod, Int.reduceDiv, Int.reduceTDiv, Int.reduceTMod]))
    | (with_reducible refine leX_boxnil ?_)
    | ((with_reducible refine leX_box ?_ ?_) <;> (try simp only [wordsG_eq l hp, sumG_eq l hp, refG_eq l hp, hwl, hsl, go_sem, Nat.reduceAdd, Nat.reduceLT, Nat.reduceBEq, Nat.reduceEqDiff, reduceIte, reduceCtorEq, Nat.reduceLeDiff, Int.reduceEq, Int.reduceLT, Int.reduceLE, Int.reduceSub, Int.reduceAdd, Int.reduceMul, Int.reduceNeg, Int.reduceToNat, Nat.reduceMul, Nat.reduceSub, Nat.reduceDiv, Int.reduceMod, Int.reduceDiv, Int.reduceTDiv, Int.reduceTMod]))
    | (with_reducible refine leX_boxnone ?_)
    | (with_reducible exact leX_base rfl)
    | (with_reducible refine leX_junkF ?_)
    | (with_reducible exact kp_refl)
    | (with_reducible refine kp_fx rfl (by first | exact Or.inl rfl | (refine Or.inr ?_; simp only [go_sem, Nat.reduceBEq, Nat.reduceLeDiff, Nat.reduceEqDiff, reduceCtorEq, reduceIte])) ?_)
    | (with_reducible refine kp_put rfl ?_)
    | (with_reducible refine kp_setB (by first | exact Or.inl rfl | (refine Or.inr ?_; simp only [go_sem, Nat.reduceBEq, Nat.reduceLeDiff, Nat.reduceEqDiff, reduceCtorEq, reduceIte])) ?_)
    | (with_reducible refine kp_junkF (by decide) ?_)
    | (with_reducible refine fx_put (by first | rfl | simp only [go_sem, Nat.reduceBEq, Nat.reduceLeDiff, Nat.reduceEqDiff, reduceCtorEq, reduceIte]) ?_)
    | (with_reducible refine fx_setB (by first | rfl | simp only [go_sem, Nat.reduceBEq, Nat.reduceLeDiff, Nat.reduceEqDiff, reduceCtorEq, reduceIte]) ?_)
    | (with_reducible refine fx_setN ?_)
    | (with_reducible refine fx_junkF ?_)
    | (with_reducible exact fx_init (by first | rfl | simp only [go_sem, Nat.reduceBEq, Nat.reduceLeDiff, Nat.reduceEqDiff, reduceCtorEq, reduceIte]))
    | (with_reducible exact fx_initB (by first | rfl | simp only [go_sem, Nat.reduceBEq, Nat.reduceLeDiff, Nat.reduceEqDiff, reduceCtorEq, reduceIte]) (by first | rfl | simp only [go_sem, Nat.reduceBEq, Nat.reduceLeDiff, Nat.reduceEqDiff, reduceCtorEq, reduceIte]) rfl (by decide) (by decide))
    | (with_reducible exact fx_base)
    | (with_reducible refine And.intro ?_ ?_))
  all_goals (try simp only [Bool.not_eq_true', Bool.not_eq_false', Bool.and_eq_true, Bool.and_eq_false_iff, decide_eq_true_eq, decide_eq_false_iff_not, Bool.or_eq_true, Bool.or_eq_false_iff, Bool.not_true, Bool.not_false, Bool.false_eq_true, false_iff, true_iff, bne_iff_ne, beq_iff_eq, ne_eq, iff_true, iff_false, not_and, not_or, List.length_append, List.length_drop, List.length_take, List.length_replicate, List.length_range] at *)
  all_goals (try omega)
  refine loop_at (α := Nat) 6 (fun i => [(6, I i)]) (fun i => [(3, some ⟨IL .i64 (castL (wordsN l)), 0, false, false⟩), (4, some ⟨IL .u32 (castL (wordsN l)), 0, false, false⟩), (5, some ⟨IL .u8 (castL (sumN l)), 0, false, false⟩)]) (fun i => i ≤ 5) (fun i => 5 - i) 0 (le_sw [] rfl rfl ?_) ?_ ?_
  · (try dsimp only)
    simp only [go_sem, Nat.reduceAdd, Nat.reduceLT, Nat.reduceBEq, Nat.reduceEqDiff, reduceIte, reduceCtorEq, Nat.reduceLeDiff, Int.reduceEq, Int.reduceLT, Int.reduceLE, Int.reduceSub, Int.reduceAdd, Int.reduceMul, Int.reduceNeg, Int.reduceToNat, Nat.reduceMul, Nat.reduceSub, Nat.reduceDiv, Int.reduceMod, Int.reduceDiv, Int.reduceTDiv, Int.reduceTMod]
    repeat' (first
      | ((with_reducible refine split_guard ?_ ?_) <;> intro hb <;> simp only [hb, go_sem, Nat.reduceAdd, Nat.reduceLT, Nat.reduceBEq, Nat.reduceEqDiff, reduceIte, reduceCtorEq, Nat.reduceLeDiff, Int.reduceEq, Int.reduceLT, Int.reduceLE, Int.reduceSub, Int.reduceAdd, Int.reduceMul, Int.reduceNeg, Int.reduceToNat, Nat.reduceMul, Nat.reduceSub, Nat.reduceDiv, Int.reduceMod, Int.reduceDiv, Int.reduceTDiv, Int.reduceTMod])
      | ((with_reducible refine split_cond ?_ ?_) <;> intro hb <;> simp only [hb, go_sem, Nat.reduceAdd, Nat.reduceLT, Nat.reduceBEq, Nat.reduceEqDiff, reduceIte, reduceCtorEq, Nat.reduceLeDiff, Int.reduceEq, Int.reduceLT, Int.reduceLE, Int.reduceSub, Int.reduceAdd, Int.reduceMul, Int.reduceNeg, Int.reduceToNat, Nat.reduceMul, Nat.reduceSub, Nat.reduceDiv, Int.reduceMod, Int.reduceDiv, Int.reduceTDiv, Int.reduceTMod])
      | ((with_reducible refine split_guardY ?_ ?_) <;> intro hb <;> simp only [hb, go_sem, Nat.reduceAdd, Nat.reduceLT, Nat.reduceBEq, Nat.reduceEqDiff, reduceIte, reduceCtorEq, Nat.reduceLeDiff, Int.reduceEq, Int.reduceLT, Int.reduceLE, Int.reduceSub, Int.reduceAdd, Int.reduceMul, Int.reduceNeg, Int.reduceToNat, Nat.reduceMul, Nat.reduceSub, Nat.reduceDiv, Int.reduceMod, Int.reduceDiv, Int.reduceTDiv, Int.reduceTMod])
      | ((with_reducible refine and_orderN (by kernel_rfl) ?_ ?_) <;> (try simp only [go_sem, Nat.reduceAdd, Nat.reduceLT, Nat.reduceBEq, Nat.reduceEqDiff, reduceIte, reduceCtorEq, Nat.reduceLeDiff, Int.reduceEq, Int.reduceLT, Int.reduceLE, Int.reduceSub, Int.reduceAdd, Int.reduceMul, Int.reduceNeg, Int.reduceToNat, Nat.reduceMul, Nat.reduceSub, Nat.reduceDiv, Int.reduceMod, Int.reduceDiv, Int.reduceTDiv, Int.reduceTMod]))
      | ((with_reducible refine (and_orderN (A := True) (by kernel_rfl) ?_ trivial).1) <;> (try simp only [go_sem, Nat.reduceAdd, Nat.reduceLT, Nat.reduceBEq, Nat.reduceEqDiff, reduceIte, reduceCtorEq, Nat.reduceLeDiff, Int.reduceEq, Int.reduceLT, Int.reduceLE, Int.reduceSub, Int.reduceAdd, Int.reduceMul, Int.reduceNeg, Int.reduceToNat, Nat.reduceMul, Nat.reduceSub, Nat.reduceDiv, Int.reduceMod, Int.reduceDiv, Int.reduceTDiv, Int.reduceTMod]))
      | (with_reducible exact (show bitOf _ _ _ = true by decide +kernel))
      | (with_reducible refine and_nomen ?_ ?_)
      | (with_reducible refine nomen_p (by first | rfl | simp only [go_sem, Nat.reduceBEq, Nat.reduceLeDiff, Nat.reduceEqDiff, reduceCtorEq, reduceIte]) ?_)
      | (with_reducible refine nomen_s (by first | rfl | simp only [go_sem, Nat.reduceBEq, Nat.reduceLeDiff, Nat.reduceEqDiff, reduceCtorEq, reduceIte]) ?_)
      | (with_reducible refine nomen_setB0 _ _ _ ?_)
      | (with_reducible refine nomen_p0 (by first | rfl | simp only [go_sem, Nat.reduceBEq, Nat.reduceLeDiff, Nat.reduceEqDiff, reduceCtorEq, reduceIte]) ?_)
      | (with_reducible refine nomen_j ?_)
      | (with_reducible exact nomen_i (by first | rfl | simp only [go_sem, Nat.reduceBEq, Nat.reduceLeDiff, Nat.reduceEqDiff, reduceCtorEq, reduceIte]))
      | (with_reducible exact nomen_iB (by first | rfl | simp only [go_sem, Nat.reduceBEq, Nat.reduceLeDiff, Nat.reduceEqDiff, reduceCtorEq, reduceIte]) (by first | rfl | simp only [go_sem, Nat.reduceBEq, Nat.reduceLeDiff, Nat.reduceEqDiff, reduceCtorEq, reduceIte]) (by decide))
      | (with_reducible exact nomen_b)
      | (with_reducible refine leX_nil (by simp only [go_sem, Nat.reduceBEq, Nat.reduceLeDiff, Nat.reduceEqDiff, reduceCtorEq, reduceIte]) ?_)
      | ((with_reducible refine leX_put ?_ ?_) <;> (try simp only [go_sem, Nat.reduceAdd, Nat.reduceLT, Nat.reduceBEq, Nat.reduceEqDiff, reduceIte, reduceCtorEq, Nat.reduceLeDiff, Int.reduceEq, Int.reduceLT, Int.reduceLE, Int.reduceSub, Int.reduceAdd, Int.reduceMul, Int.reduceNeg, Int.reduceToNat, Nat.reduceMul, Nat.reduceSub, Nat.reduceDiv, Int.reduceMod, Int.reduceDiv, Int.reduceTDiv, Int.reduceTMod]))
      | (with_reducible refine leX_boxnil ?_)
      | ((with_reducible refine leX_box ?_ ?_) <;> (try simp only [go_sem, Nat.reduceAdd, Nat.reduceLT, Nat.reduceBEq, Nat.reduceEqDiff, reduceIte, reduceCtorEq, Nat.reduceLeDiff, Int.reduceEq, Int.reduceLT, Int.reduceLE, Int.reduceSub, Int.reduceAdd, Int.reduceMul, Int.reduceNeg, Int.reduceToNat, Nat.reduceMul, Nat.reduceSub, Nat.reduceDiv, Int.reduceMod, Int.reduceDiv, Int.reduceTDiv, Int.reduceTMod]))
      | (with_reducible refine leX_boxnone ?_)
      | (with_reducible exact leX_base rfl)
      | (with_reducible refine leX_junkF ?_)
      | (with_reducible exact kp_refl)
      | (with_reducible refine kp_fx rfl (by first | exact Or.inl rfl | (refine Or.inr ?_; simp only [go_sem, Nat.reduceBEq, Nat.reduceLeDiff, Nat.reduceEqDiff, reduceCtorEq, reduceIte])) ?_)
      | (with_reducible refine kp_put rfl ?_)
      | (with_reducible refine kp_setB (by first | exact Or.inl rfl | (refine Or.inr ?_; simp only [go_sem, Nat.reduceBEq, Nat.reduceLeDiff, Nat.reduceEqDiff, reduceCtorEq, reduceIte])) ?_)
      | (with_reducible refine kp_junkF (by decide) ?_)
      | (with_reducible refine fx_put (by first | rfl | simp only [go_sem, Nat.reduceBEq, Nat.reduceLeDiff, Nat.reduceEqDiff, reduceCtorEq, reduceIte]) ?_)
      | (with_reducible refine fx_setB (by first | rfl | simp only [go_sem, Nat.reduceBEq, Nat.reduceLeDiff, Nat.reduceEqDiff, reduceCtorEq, reduceIte]) ?_)
      | (with_reducible refine fx_setN ?_)
      | (with_reducible refine fx_junkF ?_)
      | (with_reducible exact fx_init (by first | rfl | simp only [go_sem, Nat.reduceBEq, Nat.reduceLeDiff, Nat.reduceEqDiff, reduceCtorEq, reduceIte]))
      | (with_reducible exact fx_initB (by first | rfl | simp only [go_sem, Nat.reduceBEq, Nat.reduceLeDiff, Nat.reduceEqDiff, reduceCtorEq, reduceIte]) (by first | rfl | simp only [go_sem, Nat.reduceBEq, Nat.reduceLeDiff, Nat.reduceEqDiff, reduceCtorEq, reduceIte]) rfl (by decide) (by decide))
      | (with_reducible exact fx_base)
      | (with_reducible refine And.intro ?_ ?_))
    all_goals (try simp only [Bool.not_eq_true', Bool.not_eq_false', Bool.and_eq_true, Bool.and_eq_false_iff, decide_eq_true_eq, decide_eq_false_iff_not, Bool.or_eq_true, Bool.or_eq_false_iff, Bool.not_true, Bool.not_false, Bool.false_eq_true, false_iff, true_iff, bne_iff_ne, beq_iff_eq, ne_eq, iff_true, iff_false, not_and, not_or, List.length_append, List.length_drop, List.length_take, List.length_replicate, List.length_range] at *)
    all_goals (try omega)
    all_goals (rw [layL_full (by simp [castL_length, hwl, hsl])])
  · (try dsimp only)
    first | omega | exact ⟨by omega, by omega⟩ | skip
  · intro i hk
    try dsimp only at hk
    have hwl := wordsN_len l
    have hsl := sumN_len l
    have gd : ∀ j, nthN (sumN l) j < 256 := fun j => nthN_all (sumN_lt l) (by decide) j
    have gw : nthN (wordsN l) i < 4294967296 := nthN_all (p := fun x => x < 4294967296) (wordsN_lt l) (by decide) i
    have q9 : IntKind.i64.wrap ((i : Int) + 1) = ((i + 1 : Nat) : Int) := i64n (i + 1) (by omega)
    have q1 : IntKind.i64.wrap (4 * (i : Int)) = ((4 * i : Nat) : Int) := i64n (4 * i) (by omega)
    have p1 : IntKind.i64.wrap (((4 * i : Nat) : Int) + 1) = ((4 * i + 1 : Nat) : Int) := i64n (4 * i + 1) (by omega)
    have p2 : IntKind.i64.wrap (((4 * i : Nat) : Int) + 2) = ((4 * i + 2 : Nat) : Int) := i64n (4 * i + 2) (by omega)
    have p3 : IntKind.i64.wrap (((4 * i : Nat) : Int) + 3) = ((4 * i + 3 : Nat) : Int) := i64n (4 * i + 3) (by omega)
    obtain ⟨c0, c1, c2, c3, s0, s1, s2, a1, a2, a3⟩ := bytes4 (gd (4 * i)) (gd (4 * i + 1)) (gd (4 * i + 2)) (gd (4 * i + 3))
    have hX := sum_word l i
    have cw : IntKind.i64.wrap ((nthN (wordsN l) i : Nat) : Int) = ((nthN (wordsN l) i : Nat) : Int) := i64n _ (Nat.lt_trans gw (by decide))
    try dsimp only
    simp only [hwl, hsl, q9, q1, p1, p2, p3, c0, c1, c2, c3, s0, s1, s2, a1, a2, a3, hX, cw, List.take_of_length_le, go_sem, Nat.reduceAdd, Nat.reduceLT, Nat.reduceBEq, Nat.reduceEqDiff, reduceIte, reduceCtorEq, Nat.reduceLeDiff, Int.reduceEq, Int.reduceLT, Int.reduceLE, Int.reduceSub, Int.reduceAdd, Int.reduceMul, Int.reduceNeg, Int.reduceToNat, Nat.reduceMul, Nat.reduceSub, Nat.reduceDiv, Int.reduceMod, Int.reduceDiv, Int.reduceTDiv, Int.reduceTMod]
    repeat' (first
      | ((with_reducible refine split_guard ?_ ?_) <;> intro hb <;> simp only [hb, hwl, hsl, q9, q1, p1, p2, p3, c0, c1, c2, c3, s0, s1, s2, a1, a2, a3, hX, cw, List.take_of_length_le, go_sem, Nat.reduceAdd, Nat.reduceLT, Nat.reduceBEq, Nat.reduceEqDiff, reduceIte, reduceCtorEq, Nat.reduceLeDiff, Int.reduceEq, Int.reduceLT, Int.reduceLE, Int.reduceSub, Int.reduceAdd, Int.reduceMul, Int.reduceNeg, Int.reduceToNat, Nat.reduceMul, Nat.reduceSub, Nat.reduceDiv, Int.reduceMod, Int.reduceDiv, Int.reduceTDiv, Int.reduceTMod])
      | ((with_reducible refine split_cond ?_ ?_) <;> intro hb <;> simp only [hb, hwl, hsl, q9, q1, p1, p2, p3, c0, c1, c2, c3, s0, s1, s2, a1, a2, a3, hX, cw, List.take_of_length_le, go_sem, Nat.reduceAdd, Nat.reduceLT, Nat.reduceBEq, Nat.reduceEqDiff, reduceIte, reduceCtorEq, Nat.reduceLeDiff, Int.reduceEq, Int.reduceLT, Int.reduceLE, Int.reduceSub, Int.reduceAdd, Int.reduceMul, Int.reduceNeg, Int.reduceToNat, Nat.reduceMul, Nat.reduceSub, Nat.reduceDiv, Int.reduceMod, Int.reduceDiv, Int.reduceTDiv, Int.reduceTMod])
      | ((with_reducible refine split_guardY ?_ ?_) <;> intro hb <;> simp only [hb, hwl, hsl, q9, q1, p1, p2, p3, c0, c1, c2, c3, s0, s1, s2, a1, a2, a3, hX, cw, List.take_of_length_le, go_sem, Nat.reduceAdd, Nat.reduceLT, Nat.reduceBEq, Nat.reduceEqDiff, reduceIte, reduceCtorEq, Nat.reduceLeDiff, Int.reduceEq, Int.reduceLT, Int.reduceLE, Int.reduceSub, Int.reduceAdd, Int.reduceMul, Int.reduceNeg, Int.reduceToNat, Nat.reduceMul, Nat.reduceSub, Nat.reduceDiv, Int.reduceMod, Int.reduceDiv, Int.reduceTDiv, Int.reduceTMod])
      | ((with_reducible refine and_orderN (by kernel_rfl) ?_ ?_) <;> (try simp only [hwl, hsl, q9, q1, p1, p2, p3, c0, c1, c2, c3, s0, s1, s2, a1, a2, a3, hX, cw, List.take_of_length_le, go_sem, Nat.reduceAdd, Nat.reduceLT, Nat.reduceBEq, Nat.reduceEqDiff, reduceIte, reduceCtorEq, Nat.reduceLeDiff, Int.reduceEq, Int.reduceLT, Int.reduceLE, Int.reduceSub, Int.reduceAdd, Int.reduceMul, Int.reduceNeg, Int.reduceToNat, Nat.reduceMul, Nat.reduceSub, Nat.reduceDiv, Int.reduceMod, Int.reduceDiv, Int.reduceTDiv, Int.reduceTMod]))
      | ((with_reducible refine (and_orderN (A := True) (by kernel_rfl) ?_ trivial).1) <;> (try simp only [hwl, hsl, q9, q1, p1, p2, p3, c0, c1, c2, c3, s0, s1, s2, a1, a2, a3, hX, cw, List.take_of_length_le, go_sem, Nat.reduceAdd, Nat.reduceLT, Nat.reduceBEq, Nat.reduceEqDiff, reduceIte, reduceCtorEq, Nat.reduceLeDiff, Int.reduceEq, Int.reduceLT, Int.reduceLE, Int.reduceSub, Int.reduceAdd, Int.reduceMul, Int.reduceNeg, Int.reduceToNat, Nat.reduceMul, Nat.reduceSub, Nat.reduceDiv, Int.reduceMod, Int.reduceDiv, Int.reduceTDiv, Int.reduceTMod]))
      | (with_reducible exact (show bitOf _ _ _ = true by decide +kernel))
      | (with_reducible refine and_nomen ?_ ?_)
      | (with_reducible refine nomen_p (by first | rfl | simp only [go_sem, Nat.reduceBEq, Nat.reduceLeDiff, Nat.reduceEqDiff, reduceCtorEq, reduceIte]) ?_)
      | (with_reducible refine nomen_s (by first | rfl | simp only [go_sem, Nat.reduceBEq, Nat.reduceLeDiff, Nat.reduceEqDiff, reduceCtorEq, reduceIte]) ?_)
      | (with_reducible refine nomen_setB0 _ _ _ ?_)
      | (with_reducible refine nomen_p0 (by first | rfl | simp only [go_sem, Nat.reduceBEq, Nat.reduceLeDiff, Nat.reduceEqDiff, reduceCtorEq, reduceIte]) ?_)
      | (with_reducible refine nomen_j ?_)
      | (with_reducible exact nomen_i (by first | rfl | simp only [go_sem, Nat.reduceBEq, Nat.reduceLeDiff, Nat.reduceEqDiff, reduceCtorEq, reduceIte]))
      | (with_reducible exact nomen_iB (by first | rfl | simp only [go_sem, Nat.reduceBEq, Nat.reduceLeDiff, Nat.reduceEqDiff, reduceCtorEq, reduceIte]) (by first | rfl | simp only [go_sem, Nat.reduceBEq, Nat.reduceLeDiff, Nat.reduceEqDiff, reduceCtorEq, reduceIte]) (by decide))
      | (with_reducible exact nomen_b)
      | (with_reducible refine leX_nil (by simp only [go_sem, Nat.reduceBEq, Nat.reduceLeDiff, Nat.reduceEqDiff, reduceCtorEq, reduceIte]) ?_)
      | ((with_reducible refine leX_put ?_ ?_) <;> (try simp only [hwl, hsl, q9, q1, p1, p2, p3, c0, c1, c2, c3, s0, s1, s2, a1, a2, a3, hX, cw, List.take_of_length_le, go_sem, Nat.reduceAdd, Nat.reduceLT, Nat.reduceBEq, Nat.reduceEqDiff, reduceIte, reduceCtorEq, Nat.reduceLeDiff, Int.reduceEq, Int.reduceLT, Int.reduceLE, Int.reduceSub, Int.reduceAdd, Int.reduceMul, Int.reduceNeg, Int.reduceToNat, Nat.reduceMul, Nat.reduceSub, Nat.reduceDiv, Int.reduceMod, Int.reduceDiv, Int.reduceTDiv, Int.reduceTMod]))
      | (with_reducible refine leX_boxnil ?_)
      | ((with_reducible refine leX_box ?_ ?_) <;> (try simp only [hwl, hsl, q9, q1, p1, p2, p3, c0, c1, c2, c3, s0, s1, s2, a1, a2, a3, hX, cw, List.take_of_length_le, go_sem, Nat.reduceAdd, Nat.reduceLT, Nat.reduceBEq, Nat.reduceEqDiff, reduceIte, reduceCtorEq, Nat.reduceLeDiff, Int.reduceEq, Int.reduceLT, Int.reduceLE, Int.reduceSub, Int.reduceAdd, Int.reduceMul, Int.reduceNeg, Int.reduceToNat, Nat.reduceMul, Nat.reduceSub, Nat.reduceDiv, Int.reduceMod, Int.reduceDiv, Int.reduceTDiv, Int.reduceTMod]))
      | (with_reducible refine leX_boxnone ?_)
      | (with_reducible exact leX_base rfl)
      | (with_reducible refine leX_junkF ?_)
      | (with_reducible exact kp_refl)
      | (with_reducible refine kp_fx rfl (by first | exact Or.inl rfl | (refine Or.inr ?_; simp only [go_sem, Nat.reduceBEq, Nat.reduceLeDiff, Nat.reduceEqDiff, reduceCtorEq, reduceIte])) ?_)
      | (with_reducible refine kp_put rfl ?_)
      | (with_reducible refine kp_setB (by first | exact Or.inl rfl | (refine Or.inr ?_; simp only [go_sem, Nat.reduceBEq, Nat.reduceLeDiff, Nat.reduceEqDiff, reduceCtorEq, reduceIte])) ?_)
      | (with_reducible refine kp_junkF (by decide) ?_)
      | (with_reducible refine fx_put (by first | rfl | simp only [go_sem, Nat.reduceBEq, Nat.reduceLeDiff, Nat.reduceEqDiff, reduceCtorEq, reduceIte]) ?_)
      | (with_reducible refine fx_setB (by first | rfl | simp only [go_sem, Nat.reduceBEq, Nat.reduceLeDiff, Nat.reduceEqDiff, reduceCtorEq, reduceIte]) ?_)
      | (with_reducible refine fx_setN ?_)
      | (with_reducible refine fx_junkF ?_)
      | (with_reducible exact fx_init (by first | rfl | simp only [go_sem, Nat.reduceBEq, Nat.reduceLeDiff, Nat.reduceEqDiff, reduceCtorEq, reduceIte]))
      | (with_reducible exact fx_initB (by first | rfl | simp only [go_sem, Nat.reduceBEq, Nat.reduceLeDiff, Nat.reduceEqDiff, reduceCtorEq, reduceIte]) (by first | rfl | simp only [go_sem, Nat.reduceBEq, Nat.reduceLeDiff, Nat.reduceEqDiff, reduceCtorEq, reduceIte]) rfl (by decide) (by decide))
      | (with_reducible exact fx_base)
      | ((with_reducible refine again_of (i + 1) (le_sw [] rfl rfl ?_) ?_ ?_) <;> (try dsimp only) <;> (try simp only [go_sem, Nat.reduceAdd, Nat.reduceLT, Nat.reduceBEq, Nat.reduceEqDiff, reduceIte, reduceCtorEq, Nat.reduceLeDiff, Int.reduceEq, Int.reduceLT, Int.reduceLE, Int.reduceSub, Int.reduceAdd, Int.reduceMul, Int.reduceNeg, Int.reduceToNat, Nat.reduceMul, Nat.reduceSub, Nat.reduceDiv, Int.reduceMod, Int.reduceDiv, Int.reduceTDiv, Int.reduceTMod]))
      | (with_reducible refine And.intro ?_ ?_))
    all_goals (clear gd gw cw c0 c1 c2 c3 s0 s1 s2 a1 a2 a3 hX p1 p2 p3 q1)
    all_goals (try simp only [Bool.not_eq_true', Bool.not_eq_false', Bool.and_eq_true, Bool.and_eq_false_iff, decide_eq_true_eq, decide_eq_false_iff_not, Bool.or_eq_true, Bool.or_eq_false_iff, Bool.not_true, Bool.not_false, Bool.false_eq_true, false_iff, true_iff, bne_iff_ne, beq_iff_eq, ne_eq, iff_true, iff_false, not_and, not_or, List.length_append, List.length_drop, List.length_take, List.length_replicate, List.length_range] at *)
    all_goals (try omega)
noncomputable def isG : List AV → Option AV := ofRel fun args r => ∃ (l : List Nat), args = [BL l] ∧ (l.length ≤ 140737488355328 ∧ ∀ x ∈ l, x < 256) ∧ r = B true
@[go_sem] theorem isG_eq (l : List Nat) (hp : l.length ≤ 140737488355328 ∧ ∀ x ∈ l, x < 256) : isG [BL l] = some (B true) :=
  ofRel_eq ⟨l, rfl, hp, rfl⟩ (by rintro _ ⟨l', e, _, rfl⟩; simp [IL_injEq, castL_inj, Int.ofNat_inj] at e; first | (obtain ⟨rfl⟩ := e; rfl) | (obtain ⟨rfl⟩ := e; exact ⟨rfl, rfl⟩) | (simp [e]) | (simp_all))
theorem is_good : Good cfg 15 isG := fun args r h => by
  obtain ⟨_, rfl, hp, rfl⟩ := ofRel_some h; exact ⟨is_ok _ hp, rfl⟩

theorem ans_ok : FnOk cfg 14 [] (B true) := by
  have h1 : wordsG [.c (.list 0 [])] = some (.agg (IL .u32 (castL (wordsN [])))) := wordsG_eq [] ⟨by decide, by decide⟩
  have h2 : sumG [.c (.list 3 [.lit (.int .u8 97), .lit (.int .u8 98), .lit (.int .u8 99)])] = some (.agg (IL .u8 (castL (sumN [97, 98, 99])))) := sumG_eq [97, 98, 99] ⟨by decide, by decide⟩
  have hwl := wordsN_len []
  have hsl := sumN_len [97, 98, 99]
  have f1 : layL (List.replicate 5 0) (castL (wordsN [])) 0 = castL (wordsN []) := layL_full (by rw [castL_length, hwl]; simp)
  have f2 : layL (List.replicate 20 0) (castL (sumN [97, 98, 99])) 0 = castL (sumN [97, 98, 99]) := layL_full (by rw [castL_length, hsl]; simp)
  refine fnOk_eval [(19, plain wordsG), (16, plain sumG)] (good_cons words_good (good_cons sum_good good_nil)) mixed Try.func14 rfl rfl Try.ntmps14 (congrArg Array.toList Try.results14) (by simp) (by simp only [f1, f2, h1, h2, hwl, hsl, w_0, w_4, s_0, s_19, go_sem, Nat.reduceAdd, Nat.reduceLT, Nat.reduceBEq, Nat.reduceEqDiff, reduceIte, reduceCtorEq, Nat.reduceLeDiff, Int.reduceEq, Int.reduceLT, Int.reduceLE, Int.reduceSub, Int.reduceAdd, Int.reduceMul, Int.reduceNeg, Int.reduceToNat, Nat.reduceMul, Nat.reduceSub, Nat.reduceDiv, Int.reduceMod, Int.reduceDiv, Int.reduceTDiv, Int.reduceTMod]) (by simp only [f1, f2, h1, h2, hwl, hsl, w_0, w_4, s_0, s_19, go_sem, Nat.reduceAdd, Nat.reduceLT, Nat.reduceBEq, Nat.reduceEqDiff, reduceIte, reduceCtorEq, Nat.reduceLeDiff, Int.reduceEq, Int.reduceLT, Int.reduceLE, Int.reduceSub, Int.reduceAdd, Int.reduceMul, Int.reduceNeg, Int.reduceToNat, Nat.reduceMul, Nat.reduceSub, Nat.reduceDiv, Int.reduceMod, Int.reduceDiv, Int.reduceTDiv, Int.reduceTMod]) ?_
  simp only [f1, f2, h1, h2, hwl, hsl, w_0, w_4, s_0, s_19, go_sem, Nat.reduceAdd, Nat.reduceLT, Nat.reduceBEq, Nat.reduceEqDiff, reduceIte, reduceCtorEq, Nat.reduceLeDiff, Int.reduceEq, Int.reduceLT, Int.reduceLE, Int.reduceSub, Int.reduceAdd, Int.reduceMul, Int.reduceNeg, Int.reduceToNat, Nat.reduceMul, Nat.reduceSub, Nat.reduceDiv, Int.reduceMod, Int.reduceDiv, Int.reduceTDiv, Int.reduceTMod]
  repeat' (first
    | ((with_reducible refine split_guard ?_ ?_) <;> intro hb <;> simp only [hb, f1, f2, h1, h2, hwl, hsl, w_0, w_4, s_0, s_19, go_sem, Nat.reduceAdd, Nat.reduceLT, Nat.reduceBEq, Nat.reduceEqDiff, reduceIte, reduceCtorEq, Nat.reduceLeDiff, Int.reduceEq, Int.reduceLT, Int.reduceLE, Int.reduceSub, Int.reduceAdd, Int.reduceMul, Int.reduceNeg, Int.reduceToNat, Nat.reduceMul, Nat.reduceSub, Nat.reduceDiv, Int.reduceMod, Int.reduceDiv, Int.reduceTDiv, Int.reduceTMod])
    | ((with_reducible refine split_cond ?_ ?_) <;> intro hb <;> simp only [hb, f1, f2, h1, h2, hwl, hsl, w_0, w_4, s_0, s_19, go_sem, Nat.reduceAdd, Nat.reduceLT, Nat.reduceBEq, Nat.reduceEqDiff, reduceIte, reduceCtorEq, Nat.reduceLeDiff, Int.reduceEq, Int.reduceLT, Int.reduceLE, Int.reduceSub, Int.reduceAdd, Int.reduceMul, Int.reduceNeg, Int.reduceToNat, Nat.reduceMul, Nat.reduceSub, Nat.reduceDiv, Int.reduceMod, Int.reduceDiv, Int.reduceTDiv, Int.reduceTMod])
    | ((with_reducible refine split_guardY ?_ ?_) <;> intro hb <;> simp only [hb, f1, f2, h1, h2, hwl, hsl, w_0, w_4, s_0, s_19, go_sem, Nat.reduceAdd, Nat.reduceLT, Nat.reduceBEq, Nat.reduceEqDiff, reduceIte, reduceCtorEq, Nat.reduceLeDiff, Int.reduceEq, Int.reduceLT, Int.reduceLE, Int.reduceSub, Int.reduceAdd, Int.reduceMul, Int.reduceNeg, Int.reduceToNat, Nat.reduceMul, Nat.reduceSub, Nat.reduceDiv, Int.reduceMod, Int.reduceDiv, Int.reduceTDiv, Int.reduceTMod])
    | ((with_reducible refine and_orderN (by kernel_rfl) ?_ ?_) <;> (try simp only [f1, f2, h1, h2, hwl, hsl, w_0, w_4, s_0, s_19, go_sem, Nat.reduceAdd, Nat.reduceLT, Nat.reduceBEq, Nat.reduceEqDiff, reduceIte, reduceCtorEq, Nat.reduceLeDiff, Int.reduceEq, Int.reduceLT, Int.reduceLE, Int.reduceSub, Int.reduceAdd, Int.reduceMul, Int.reduceNeg, Int.reduceToNat, Nat.reduceMul, Nat.reduceSub, Nat.reduceDiv, Int.reduceMod, Int.reduceDiv, Int.reduceTDiv, Int.reduceTMod]))
    | ((with_reducible refine (and_orderN (A := True) (by kernel_rfl) ?_ trivial).1) <;> (try simp only [f1, f2, h1, h2, hwl, hsl, w_0, w_4, s_0, s_19, go_sem, Nat.reduceAdd, Nat.reduceLT, Nat.reduceBEq, Nat.reduceEqDiff, reduceIte, reduceCtorEq, Nat.reduceLeDiff, Int.reduceEq, Int.reduceLT, Int.reduceLE, Int.reduceSub, Int.reduceAdd, Int.reduceMul, Int.reduceNeg, Int.reduceToNat, Nat.reduceMul, Nat.reduceSub, Nat.reduceDiv, Int.reduceMod, Int.reduceDiv, Int.reduceTDiv, Int.reduceTMod]))
    | (with_reducible exact (show bitOf _ _ _ = true by decide +kernel))
    | (with_reducible refine and_nomen ?_ ?_)
    | (with_reducible refine nomen_p (by first | rfl | simp only [go_sem, Nat.reduceBEq, Nat.reduceLeDiff, Nat.reduceEqDiff, reduceCtorEq, reduceIte]) ?_)
    | (with_reducible refine nomen_s (by first | rfl | simp only [go_sem, Nat.reduceBEq, Nat.reduceLeDiff, Nat.reduceEqDiff, reduceCtorEq, reduceIte]) ?_)
    | (with_reducible refine nomen_setB0 _ _ _ ?_)
    | (with_reducible refine nomen_p0 (by first | rfl | simp only [go_sem, Nat.reduceBEq, Nat.reduceLeDiff, Nat.reduceEqDiff, reduceCtorEq, reduceIte]) ?_)
    | (with_reducible refine nomen_j ?_)
    | (with_reducible exact nomen_i (by first | rfl | simp only [go_sem, Nat.reduceBEq, Nat.reduceLeDiff, Nat.reduceEqDiff, reduceCtorEq, reduceIte]))
    | (with_reducible exact nomen_iB (by first | rfl | simp only [go_sem, Nat.reduceBEq, Nat.reduceLeDiff, Nat.reduceEqDiff, reduceCtorEq, reduceIte]) (by first | rfl | simp only [go_sem, Nat.reduceBEq, Nat.reduceLeDiff, Nat.reduceEqDiff, reduceCtorEq, reduceIte]) (by decide))
    | (with_reducible exact nomen_b)
    | (with_reducible refine leX_nil (by simp only [go_sem, Nat.reduceBEq, Nat.reduceLeDiff, Nat.reduceEqDiff, reduceCtorEq, reduceIte]) ?_)
    | ((with_reducible refine leX_put ?_ ?_) <;> (try simp only [f1, f2, h1, h2, hwl, hsl, w_0, w_4, s_0, s_19, go_sem, Nat.reduceAdd, Nat.reduceLT, Nat.reduceBEq, Nat.reduceEqDiff, reduceIte, reduceCtorEq, Nat.reduceLeDiff, Int.reduceEq, Int.reduceLT, Int.reduceLE, Int.reduceSub, Int.reduceAdd, Int.reduceMul, Int.reduceNeg, Int.reduceToNat, Nat.reduceMul, Nat.reduceSub, Nat.reduceDiv, Int.reduceMod, Int.reduceDiv, Int.reduceTDiv, Int.reduceTMod]))
    | (with_reducible refine leX_boxnil ?_)
    | ((with_reducible refine leX_box ?_ ?_) <;> (try simp only [f1, f2, h1, h2, hwl, hsl, w_0, w_4, s_0, s_19, go_sem, Nat.reduceAdd, Nat.reduceLT, Nat.reduceBEq, Nat.reduceEqDiff, reduceIte, reduceCtorEq, Nat.reduceLeDiff, Int.reduceEq, Int.reduceLT, Int.reduceLE, Int.reduceSub, Int.reduceAdd, Int.reduceMul, Int.reduceNeg, Int.reduceToNat, Nat.reduceMul, Nat.reduceSub, Nat.reduceDiv, Int.reduceMod, Int.reduceDiv, Int.reduceTDiv, Int.reduceTMod]))
    | (with_reducible refine leX_boxnone ?_)
    | (with_reducible exact leX_base rfl)
    | (with_reducible refine leX_junkF ?_)
    | (with_reducible exact kp_refl)
    | (with_reducible refine kp_fx rfl (by first | exact Or.inl rfl | (refine Or.inr ?_; simp only [go_sem, Nat.reduceBEq, Nat.reduceLeDiff, Nat.reduceEqDiff, reduceCtorEq, reduceIte])) ?_)
    | (with_reducible refine kp_put rfl ?_)
    | (with_reducible refine kp_setB (by first | exact Or.inl rfl | (refine Or.inr ?_; simp only [go_sem, Nat.reduceBEq, Nat.reduceLeDiff, Nat.reduceEqDiff, reduceCtorEq, reduceIte])) ?_)
    | (with_reducible refine kp_junkF (by decide) ?_)
    | (with_reducible refine fx_put (by first | rfl | simp only [go_sem, Nat.reduceBEq, Nat.reduceLeDiff, Nat.reduceEqDiff, reduceCtorEq, reduceIte]) ?_)
    | (with_reducible refine fx_setB (by first | rfl | simp only [go_sem, Nat.reduceBEq, Nat.reduceLeDiff, Nat.reduceEqDiff, reduceCtorEq, reduceIte]) ?_)
    | (with_reducible refine fx_setN ?_)
    | (with_reducible refine fx_junkF ?_)
    | (with_reducible exact fx_init (by first | rfl | simp only [go_sem, Nat.reduceBEq, Nat.reduceLeDiff, Nat.reduceEqDiff, reduceCtorEq, reduceIte]))
    | (with_reducible exact fx_initB (by first | rfl | simp only [go_sem, Nat.reduceBEq, Nat.reduceLeDiff, Nat.reduceEqDiff, reduceCtorEq, reduceIte]) (by first | rfl | simp only [go_sem, Nat.reduceBEq, Nat.reduceLeDiff, Nat.reduceEqDiff, reduceCtorEq, reduceIte]) rfl (by decide) (by decide))
    | (with_reducible exact fx_base)
    | (with_reducible refine And.intro ?_ ?_))
noncomputable def ansG : List AV → Option AV := ofRel fun args r => args = [] ∧ r = B true
@[go_sem] theorem ansG_eq : ansG [] = some (B true) :=
  ofRel_eq ⟨rfl, rfl⟩ (by rintro _ ⟨e, rfl⟩; rfl)
theorem ans_good : Good cfg 14 ansG := fun args r h => by
  obtain ⟨rfl, rfl⟩ := ofRel_some h; exact ⟨ans_ok , rfl⟩

end Go.Proofs.Ytnhdfmnmciminaa.Sh
