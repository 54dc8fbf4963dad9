/-
  The contracts of the functions of layer 9 (sha).
-/
import Derived.Test.YtnhdfmnmciminaaShTy
import Derived.Test.YtnhdfmnmciminaaShSpec
namespace Go.Proofs.Ytnhdfmnmciminaa.Sh
open Go Go.Ev
set_option linter.unusedSimpArgs false
set_option linter.unusedVariables false
set_option maxRecDepth 10000
set_option maxHeartbeats 4000000
theorem i64n (n : Nat) (h : n < 9223372036854775808) : IntKind.i64.wrap (n : Int) = (n : Int) := wrap_i64 n h
/-- The length is filled up so far. -/
theorem zp (n j : Nat) (hj : j ≤ zpad n) : ((n + 1 + j : Nat) : Int).tmod 64 = 56 ↔ j = zpad n := by
  rw [Int.tmod_eq_emod_of_nonneg (Int.natCast_nonneg _)]
  unfold zpad at *
  omega
theorem lenB_eq (n i : Nat) (hn : n ≤ 140737488355328) (hi : i < 8) : IntKind.u8.wrap (wShr .u64 ((n * 8 : Nat) : Int) (56 - 8 * (i : Int))) = ((lenB n i : Nat) : Int) := by
  rw [show (56 : Int) - 8 * (i : Int) = ((56 - 8 * i : Nat) : Int) by omega, wShr_u .u64 _ _ (show 56 - 8 * i ≤ 64 by omega), wrap_u8]; rfl
theorem padded_ok (l : List Nat) (hp : l.length ≤ 140737488355328 ∧ ∀ x ∈ l, x < 256) : FnOk cfg 22 [BL l] (BL (padL l)) := by
  refine fnOk_eval [] good_nil mixed Try.func22 rfl rfl Try.ntmps22 (congrArg Array.toList Try.results22) (by simp) (by simp only [go_sem, Nat.reduceAdd, Nat.reduceLT, Nat.reduceBEq, Nat.reduceEqDiff, reduceIte, reduceCtorEq, Nat.reduceLeDiff, Int.reduceEq, Int.reduceLT, Int.reduceLE, Int.reduceSub, Int.reduceAdd, Int.reduceMul, Int.reduceNeg, Int.reduceToNat, Nat.reduceMul, Nat.reduceSub, Nat.reduceDiv, Int.reduceMod, Int.reduceDiv, Int.reduceTDiv, Int.reduceTMod]) (by simp only [go_sem, Nat.reduceAdd, Nat.reduceLT, Nat.reduceBEq, Nat.reduceEqDiff, reduceIte, reduceCtorEq, Nat.reduceLeDiff, Int.reduceEq, Int.reduceLT, Int.reduceLE, Int.reduceSub, Int.reduceAdd, Int.reduceMul, Int.reduceNeg, Int.reduceToNat, Nat.reduceMul, Nat.reduceSub, Nat.reduceDiv, Int.reduceMod, Int.reduceDiv, Int.reduceTDiv, Int.reduceTMod]) ?_
  simp only [go_sem, Nat.reduceAdd, Nat.reduceLT, Nat.reduceBEq, Nat.reduceEqDiff, reduceIte, reduceCtorEq, Nat.reduceLeDiff, Int.reduceEq, Int.reduceLT, Int.reduceLE, Int.reduceSub, Int.reduceAdd, Int.reduceMul, Int.reduceNeg, Int.reduceToNat, Nat.reduceMul, Nat.reduceSub, Nat.reduceDiv, Int.reduceMod, Int.reduceDiv, Int.reduceTDiv, Int.reduceTMod]
  repeat' (first
    | ((with_reducible refine split_guard ?_ ?_) <;> intro hb <;> simp only [hb, go_sem, Nat.reduceAdd, Nat.reduceLT, Nat.reduceBEq, Nat.reduceEqDiff, reduceIte, reduceCtorEq, Nat.reduceLeDiff, Int.reduceEq, Int.reduceLT, Int.reduceLE, Int.reduceSub, Int.reduceAdd, Int.reduceMul, Int.reduceNeg, Int.reduceToNat, Nat.reduceMul, Nat.reduceSub, Nat.reduceDiv, Int.reduceMod, Int.reduceDiv, Int.reduceTDiv, Int.reduceTMod])
    | ((with_reducible refine split_cond ?_ ?_) <;> intro hb <;> simp only [hb, go_sem, Nat.reduceAdd, Nat.reduceLT, Nat.reduceBEq, Nat.reduceEqDiff, reduceIte, reduceCtorEq, Nat.reduceLeDiff, Int.reduceEq, Int.reduceLT, Int.reduceLE, Int.reduceSub, Int.reduceAdd, Int.reduceMul, Int.reduceNeg, Int.reduceToNat, Nat.reduceMul, Nat.reduceSub, Nat.reduceDiv, Int.reduceMod, Int.reduceDiv, Int.reduceTDiv, Int.reduceTMod])
    | ((with_reducible refine split_guardY ?_ ?_) <;> intro hb <;> simp only [hb, go_sem, Nat.reduceAdd, Nat.reduceLT, Nat.reduceBEq, Nat.reduceEqDiff, reduceIte, reduceCtorEq, Nat.reduceLeDiff, Int.reduceEq, Int.reduceLT, Int.reduceLE, Int.reduceSub, Int.reduceAdd, Int.reduceMul, Int.reduceNeg, Int.reduceToNat, Nat.reduceMul, Nat.reduceSub, Nat.reduceDiv, Int.reduceMod, Int.reduceDiv, Int.reduceTDiv, Int.reduceTMod])
    | ((with_reducible refine and_orderN (by kernel_rfl) ?_ ?_) <;> (try simp only [go_sem, Nat.reduceAdd, Nat.reduceLT, Nat.reduceBEq, Nat.reduceEqDiff, reduceIte, reduceCtorEq, Nat.reduceLeDiff, Int.reduceEq, Int.reduceLT, Int.reduceLE, Int.reduceSub, Int.reduceAdd, Int.reduceMul, Int.reduceNeg, Int.reduceToNat, Nat.reduceMul, Nat.reduceSub, Nat.reduceDiv, Int.reduceMod, Int.reduceDiv, Int.reduceTDiv, Int.reduceTMod]))
    | ((with_reducible refine (and_orderN (A := True) (by kernel_rfl) ?_ trivial).1) <;> (try simp only [go_sem, Nat.reduceAdd, Nat.reduceLT, Nat.reduceBEq, Nat.reduceEqDiff, reduceIte, reduceCtorEq, Nat.reduceLeDiff, Int.reduceEq, Int.reduceLT, Int.reduceLE, Int.reduceSub, Int.reduceAdd, Int.reduceMul, Int.reduceNeg, Int.reduceToNat, Nat.reduceMul, Nat.reduceSub, Nat.reduceDiv, Int.reduceMod, Int.reduceDiv, Int.reduceTDiv, Int.reduceTMod]))
    | (with_reducible exact (show bitOf _ _ _ = true by decide +kernel))
    | (with_reducible refine and_nomen ?_ ?_)
    | (with_reducible refine nomen_p (by first | rfl | simp only [go_sem, Nat.reduceBEq, Nat.reduceLeDiff, Nat.reduceEqDiff, reduceCtorEq, reduceIte]) ?_)
    | (with_reducible refine nomen_s (by first | rfl | simp only [go_sem, Nat.reduceBEq, Nat.reduceLeDiff, Nat.reduceEqDiff, reduceCtorEq, reduceIte]) ?_)
    | (with_reducible refine nomen_setB0 _ _ _ ?_)
    | (with_reducible refine nomen_p0 (by first | rfl | simp only [go_sem, Nat.reduceBEq, Nat.reduceLeDiff, Nat.reduceEqDiff, reduceCtorEq, reduceIte]) ?_)
    | (with_reducible refine nomen_j ?_)
    | (with_reducible exact nomen_i (by first | rfl | simp only [go_sem, Nat.reduceBEq, Nat.reduceLeDiff, Nat.reduceEqDiff, reduceCtorEq, reduceIte]))
    | (with_reducible exact nomen_iB (by first | rfl | simp only [go_sem, Nat.reduceBEq, Nat.reduceLeDiff, Nat.reduceEqDiff, reduceCtorEq, reduceIte]) (by first | rfl | simp only [go_sem, Nat.reduceBEq, Nat.reduceLeDiff, Nat.reduceEqDiff, reduceCtorEq, reduceIte]) (by decide))
    | (with_reducible exact nomen_b)
    | (with_reducible refine leX_nil (by simp only [go_sem, Nat.reduceBEq, Nat.reduceLeDiff, Nat.reduceEqDiff, reduceCtorEq, reduceIte]) ?_)
    | ((with_reducible refine leX_put ?_ ?_) <;> (try simp only [go_sem, Nat.reduceAdd, Nat.reduceLT, Nat.reduceBEq, Nat.reduceEqDiff, reduceIte, reduceCtorEq, Nat.reduceLeDiff, Int.reduceEq, Int.reduceLT, Int.reduceLE, Int.reduceSub, Int.reduceAdd, Int.reduceMul, Int.reduceNeg, Int.reduceToNat, Nat.reduceMul, Nat.reduceSub, Nat.reduceDiv, Int.reduceMod, Int.reduceDiv, Int.reduceTDiv, Int.reduceTMod]))
    | (with_reducible refine leX_boxnil ?_)
    | ((with_reducible refine leX_box ?_ ?_) <;> (try simp only [go_sem, Nat.reduceAdd, Nat.reduceLT, Nat.reduceBEq, Nat.reduceEqDiff, reduceIte, reduceCtorEq, Nat.reduceLeDiff, Int.reduceEq, Int.reduceLT, Int.reduceLE, Int.reduceSub, Int.reduceAdd, Int.reduceMul, Int.reduceNeg, Int.reduceToNat, Nat.reduceMul, Nat.reduceSub, Nat.reduceDiv, Int.reduceMod, Int.reduceDiv, Int.reduceTDiv, Int.reduceTMod]))
    | (with_reducible refine leX_boxnone ?_)
    | (with_reducible exact leX_base rfl)
    | (with_reducible refine leX_junkF ?_)
    | (with_reducible exact kp_refl)
    | (with_reducible refine kp_fx rfl (by first | exact Or.inl rfl | (refine Or.inr ?_; simp only [go_sem, Nat.reduceBEq, Nat.reduceLeDiff, Nat.reduceEqDiff, reduceCtorEq, reduceIte])) ?_)
    | (with_reducible refine kp_put rfl ?_)
    | (with_reducible refine kp_setB (by first | exact Or.inl rfl | (refine Or.inr ?_; simp only [go_sem, Nat.reduceBEq, Nat.reduceLeDiff, Nat.reduceEqDiff, reduceCtorEq, reduceIte])) ?_)
    | (with_reducible refine kp_junkF (by decide) ?_)
    | (with_reducible refine fx_put (by first | rfl | simp only [go_sem, Nat.reduceBEq, Nat.reduceLeDiff, Nat.reduceEqDiff, reduceCtorEq, reduceIte]) ?_)
    | (with_reducible refine fx_setB (by first | rfl | simp only [go_sem, Nat.reduceBEq, Nat.reduceLeDiff, Nat.reduceEqDiff, reduceCtorEq, reduceIte]) ?_)
    | (with_reducible refine fx_setN ?_)
    | (with_reducible refine fx_junkF ?_)
    | (with_reducible exact fx_init (by first | rfl | simp only [go_sem, Nat.reduceBEq, Nat.reduceLeDiff, Nat.reduceEqDiff, reduceCtorEq, reduceIte]))
    | (with_reducible exact fx_initB (by first | rfl | simp only [go_sem, Nat.reduceBEq, Nat.reduceLeDiff, Nat.reduceEqDiff, reduceCtorEq, reduceIte]) (by first | rfl | simp only [go_sem, Nat.reduceBEq, Nat.reduceLeDiff, Nat.reduceEqDiff, reduceCtorEq, reduceIte]) rfl (by decide) (by decide))
    | (with_reducible exact fx_base)
    | (with_reducible refine And.intro ?_ ?_))
  all_goals (try simp only [Bool.not_eq_true', Bool.not_eq_false', Bool.and_eq_true, Bool.and_eq_false_iff, decide_eq_true_eq, decide_eq_false_iff_not, Bool.or_eq_true, Bool.or_eq_false_iff, Bool.not_true, Bool.not_false, Bool.false_eq_true, false_iff, true_iff, bne_iff_ne, beq_iff_eq, ne_eq, iff_true, iff_false, not_and, not_or, List.length_append, List.length_drop, List.length_take, List.length_replicate, List.length_range] at *)
  all_goals (try omega)
  refine loop_at (α := Nat) 3 (fun j => [(3, .c (.sl 3 (l.length + 1 + j) 1 false))]) (fun j => [(3, some ⟨IL .u8 (castL (l ++ [128] ++ List.replicate j 0)), 0, false, false⟩), (11, none)]) (fun j => j ≤ zpad l.length) (fun j => zpad l.length - j) 0 (le_sw [(3, 11)] rfl rfl ?_) ?_ ?_
  · (try dsimp only)
    simp only [go_sem, Nat.reduceAdd, Nat.reduceLT, Nat.reduceBEq, Nat.reduceEqDiff, reduceIte, reduceCtorEq, Nat.reduceLeDiff, Int.reduceEq, Int.reduceLT, Int.reduceLE, Int.reduceSub, Int.reduceAdd, Int.reduceMul, Int.reduceNeg, Int.reduceToNat, Nat.reduceMul, Nat.reduceSub, Nat.reduceDiv, Int.reduceMod, Int.reduceDiv, Int.reduceTDiv, Int.reduceTMod]
    repeat' (first
      | ((with_reducible refine split_guard ?_ ?_) <;> intro hb <;> simp only [hb, go_sem, Nat.reduceAdd, Nat.reduceLT, Nat.reduceBEq, Nat.reduceEqDiff, reduceIte, reduceCtorEq, Nat.reduceLeDiff, Int.reduceEq, Int.reduceLT, Int.reduceLE, Int.reduceSub, Int.reduceAdd, Int.reduceMul, Int.reduceNeg, Int.reduceToNat, Nat.reduceMul, Nat.reduceSub, Nat.reduceDiv, Int.reduceMod, Int.reduceDiv, Int.reduceTDiv, Int.reduceTMod])
      | ((with_reducible refine split_cond ?_ ?_) <;> intro hb <;> simp only [hb, go_sem, Nat.reduceAdd, Nat.reduceLT, Nat.reduceBEq, Nat.reduceEqDiff, reduceIte, reduceCtorEq, Nat.reduceLeDiff, Int.reduceEq, Int.reduceLT, Int.reduceLE, Int.reduceSub, Int.reduceAdd, Int.reduceMul, Int.reduceNeg, Int.reduceToNat, Nat.reduceMul, Nat.reduceSub, Nat.reduceDiv, Int.reduceMod, Int.reduceDiv, Int.reduceTDiv, Int.reduceTMod])
      | ((with_reducible refine split_guardY ?_ ?_) <;> intro hb <;> simp only [hb, go_sem, Nat.reduceAdd, Nat.reduceLT, Nat.reduceBEq, Nat.reduceEqDiff, reduceIte, reduceCtorEq, Nat.reduceLeDiff, Int.reduceEq, Int.reduceLT, Int.reduceLE, Int.reduceSub, Int.reduceAdd, Int.reduceMul, Int.reduceNeg, Int.reduceToNat, Nat.reduceMul, Nat.reduceSub, Nat.reduceDiv, Int.reduceMod, Int.reduceDiv, Int.reduceTDiv, Int.reduceTMod])
      | ((with_reducible refine and_orderN (by kernel_rfl) ?_ ?_) <;> (try simp only [go_sem, Nat.reduceAdd, Nat.reduceLT, Nat.reduceBEq, Nat.reduceEqDiff, reduceIte, reduceCtorEq, Nat.reduceLeDiff, Int.reduceEq, Int.reduceLT, Int.reduceLE, Int.reduceSub, Int.reduceAdd, Int.reduceMul, Int.reduceNeg, Int.reduceToNat, Nat.reduceMul, Nat.reduceSub, Nat.reduceDiv, Int.reduceMod, Int.reduceDiv, Int.reduceTDiv, Int.reduceTMod]))
      | ((with_reducible refine (and_orderN (A := True) (by kernel_rfl) ?_ trivial).1) <;> (try simp only [go_sem, Nat.reduceAdd, Nat.reduceLT, Nat.reduceBEq, Nat.reduceEqDiff, reduceIte, reduceCtorEq, Nat.reduceLeDiff, Int.reduceEq, Int.reduceLT, Int.reduceLE, Int.reduceSub, Int.reduceAdd, Int.reduceMul, Int.reduceNeg, Int.reduceToNat, Nat.reduceMul, Nat.reduceSub, Nat.reduceDiv, Int.reduceMod, Int.reduceDiv, Int.reduceTDiv, Int.reduceTMod]))
      | (with_reducible exact (show bitOf _ _ _ = true by decide +kernel))
      | (with_reducible refine and_nomen ?_ ?_)
      | (with_reducible refine nomen_p (by first | rfl | simp only [go_sem, Nat.reduceBEq, Nat.reduceLeDiff, Nat.reduceEqDiff, reduceCtorEq, reduceIte]) ?_)
      | (with_reducible refine nomen_s (by first | rfl | simp only [go_sem, Nat.reduceBEq, Nat.reduceLeDiff, Nat.reduceEqDiff, reduceCtorEq, reduceIte]) ?_)
      | (with_reducible refine nomen_setB0 _ _ _ ?_)
      | (with_reducible refine nomen_p0 (by first | rfl | simp only [go_sem, Nat.reduceBEq, Nat.reduceLeDiff, Nat.reduceEqDiff, reduceCtorEq, reduceIte]) ?_)
      | (with_reducible refine nomen_j ?_)
      | (with_reducible exact nomen_i (by first | rfl | simp only [go_sem, Nat.reduceBEq, Nat.reduceLeDiff, Nat.reduceEqDiff, reduceCtorEq, reduceIte]))
      | (with_reducible exact nomen_iB (by first | rfl | simp only [go_sem, Nat.reduceBEq, Nat.reduceLeDiff, Nat.reduceEqDiff, reduceCtorEq, reduceIte]) (by first | rfl | simp only [go_sem, Nat.reduceBEq, Nat.reduceLeDiff, Nat.reduceEqDiff, reduceCtorEq, reduceIte]) (by decide))
      | (with_reducible exact nomen_b)
      | (with_reducible refine leX_nil (by simp only [go_sem, Nat.reduceBEq, Nat.reduceLeDiff, Nat.reduceEqDiff, reduceCtorEq, reduceIte]) ?_)
      | ((with_reducible refine leX_put ?_ ?_) <;> (try simp only [go_sem, Nat.reduceAdd, Nat.reduceLT, Nat.reduceBEq, Nat.reduceEqDiff, reduceIte, reduceCtorEq, Nat.reduceLeDiff, Int.reduceEq, Int.reduceLT, Int.reduceLE, Int.reduceSub, Int.reduceAdd, Int.reduceMul, Int.reduceNeg, Int.reduceToNat, Nat.reduceMul, Nat.reduceSub, Nat.reduceDiv, Int.reduceMod, Int.reduceDiv, Int.reduceTDiv, Int.reduceTMod]))
      | (with_reducible refine leX_boxnil ?_)
      | ((with_reducible refine leX_box ?_ ?_) <;> (try simp only [go_sem, Nat.reduceAdd, Nat.reduceLT, Nat.reduceBEq, Nat.reduceEqDiff, reduceIte, reduceCtorEq, Nat.reduceLeDiff, Int.reduceEq, Int.reduceLT, Int.reduceLE, Int.reduceSub, Int.reduceAdd, Int.reduceMul, Int.reduceNeg, Int.reduceToNat, Nat.reduceMul, Nat.reduceSub, Nat.reduceDiv, Int.reduceMod, Int.reduceDiv, Int.reduceTDiv, Int.reduceTMod]))
      | (with_reducible refine leX_boxnone ?_)
      | (with_reducible exact leX_base rfl)
      | (with_reducible refine leX_junkF ?_)
      | (with_reducible exact kp_refl)
      | (with_reducible refine kp_fx rfl (by first | exact Or.inl rfl | (refine Or.inr ?_; simp only [go_sem, Nat.reduceBEq, Nat.reduceLeDiff, Nat.reduceEqDiff, reduceCtorEq, reduceIte])) ?_)
      | (with_reducible refine kp_put rfl ?_)
      | (with_reducible refine kp_setB (by first | exact Or.inl rfl | (refine Or.inr ?_; simp only [go_sem, Nat.reduceBEq, Nat.reduceLeDiff, Nat.reduceEqDiff, reduceCtorEq, reduceIte])) ?_)
      | (with_reducible refine kp_junkF (by decide) ?_)
      | (with_reducible refine fx_put (by first | rfl | simp only [go_sem, Nat.reduceBEq, Nat.reduceLeDiff, Nat.reduceEqDiff, reduceCtorEq, reduceIte]) ?_)
      | (with_reducible refine fx_setB (by first | rfl | simp only [go_sem, Nat.reduceBEq, Nat.reduceLeDiff, Nat.reduceEqDiff, reduceCtorEq, reduceIte]) ?_)
      | (with_reducible refine fx_setN ?_)
      | (with_reducible refine fx_junkF ?_)
      | (with_reducible exact fx_init (by first | rfl | simp only [go_sem, Nat.reduceBEq, Nat.reduceLeDiff, Nat.reduceEqDiff, reduceCtorEq, reduceIte]))
      | (with_reducible exact fx_initB (by first | rfl | simp only [go_sem, Nat.reduceBEq, Nat.reduceLeDiff, Nat.reduceEqDiff, reduceCtorEq, reduceIte]) (by first | rfl | simp only [go_sem, Nat.reduceBEq, Nat.reduceLeDiff, Nat.reduceEqDiff, reduceCtorEq, reduceIte]) rfl (by decide) (by decide))
      | (with_reducible exact fx_base)
      | (with_reducible refine And.intro ?_ ?_))
    all_goals first
      | omega
      | (simp [castL]; done)
      | skip
  · (try dsimp only)
    first | omega | exact ⟨by omega, by omega⟩ | skip
  · intro j hk
    try dsimp only at hk
    have hz := zp l.length j hk
    have hn : zpad l.length < 64 := by unfold zpad; omega
    have w0 : IntKind.u64.wrap (l.length : Int) = (l.length : Int) := by rw [wrap_u64, Nat.mod_eq_of_lt (by omega)]
    have w1 : IntKind.u64.wrap ((l.length : Int) * 8) = ((l.length * 8 : Nat) : Int) := by
      rw [show (l.length : Int) * 8 = ((l.length * 8 : Nat) : Int) by omega, wrap_u64, Nat.mod_eq_of_lt (by omega)]
    try dsimp only
    simp only [w0, w1, go_sem, Nat.reduceAdd, Nat.reduceLT, Nat.reduceBEq, Nat.reduceEqDiff, reduceIte, reduceCtorEq, Nat.reduceLeDiff, Int.reduceEq, Int.reduceLT, Int.reduceLE, Int.reduceSub, Int.reduceAdd, Int.reduceMul, Int.reduceNeg, Int.reduceToNat, Nat.reduceMul, Nat.reduceSub, Nat.reduceDiv, Int.reduceMod, Int.reduceDiv, Int.reduceTDiv, Int.reduceTMod]
    repeat' (first
      | ((with_reducible refine split_guard ?_ ?_) <;> intro hb <;> simp only [hb, w0, w1, go_sem, Nat.reduceAdd, Nat.reduceLT, Nat.reduceBEq, Nat.reduceEqDiff, reduceIte, reduceCtorEq, Nat.reduceLeDiff, Int.reduceEq, Int.reduceLT, Int.reduceLE, Int.reduceSub, Int.reduceAdd, Int.reduceMul, Int.reduceNeg, Int.reduceToNat, Nat.reduceMul, Nat.reduceSub, Nat.reduceDiv, Int.reduceMod, Int.reduceDiv, Int.reduceTDiv, Int.reduceTMod])
      | ((with_reducible refine split_cond ?_ ?_) <;> intro hb <;> simp only [hb, w0, w1, go_sem, Nat.reduceAdd, Nat.reduceLT, Nat.reduceBEq, Nat.reduceEqDiff, reduceIte, reduceCtorEq, Nat.reduceLeDiff, Int.reduceEq, Int.reduceLT, Int.reduceLE, Int.reduceSub, Int.reduceAdd, Int.reduceMul, Int.reduceNeg, Int.reduceToNat, Nat.reduceMul, Nat.reduceSub, Nat.reduceDiv, Int.reduceMod, Int.reduceDiv, Int.reduceTDiv, Int.reduceTMod])
      | ((with_reducible refine split_guardY ?_ ?_) <;> intro hb <;> simp only [hb, w0, w1, go_sem, Nat.reduceAdd, Nat.reduceLT, Nat.reduceBEq, Nat.reduceEqDiff, reduceIte, reduceCtorEq, Nat.reduceLeDiff, Int.reduceEq, Int.reduceLT, Int.reduceLE, Int.reduceSub, Int.reduceAdd, Int.reduceMul, Int.reduceNeg, Int.reduceToNat, Nat.reduceMul, Nat.reduceSub, Nat.reduceDiv, Int.reduceMod, Int.reduceDiv, Int.reduceTDiv, Int.reduceTMod])
      | ((with_reducible refine and_orderN (by kernel_rfl) ?_ ?_) <;> (try simp only [w0, w1, go_sem, Nat.reduceAdd, Nat.reduceLT, Nat.reduceBEq, Nat.reduceEqDiff, reduceIte, reduceCtorEq, Nat.reduceLeDiff, Int.reduceEq, Int.reduceLT, Int.reduceLE, Int.reduceSub, Int.reduceAdd, Int.reduceMul, Int.reduceNeg, Int.reduceToNat, Nat.reduceMul, Nat.reduceSub, Nat.reduceDiv, Int.reduceMod, Int.reduceDiv, Int.reduceTDiv, Int.reduceTMod]))
      | ((with_reducible refine (and_orderN (A := True) (by kernel_rfl) ?_ trivial).1) <;> (try simp only [w0, w1, go_sem, Nat.reduceAdd, Nat.reduceLT, Nat.reduceBEq, Nat.reduceEqDiff, reduceIte, reduceCtorEq, Nat.reduceLeDiff, Int.reduceEq, Int.reduceLT, Int.reduceLE, Int.reduceSub, Int.reduceAdd, Int.reduceMul, Int.reduceNeg, Int.reduceToNat, Nat.reduceMul, Nat.reduceSub, Nat.reduceDiv, Int.reduceMod, Int.reduceDiv, Int.reduceTDiv, Int.reduceTMod]))
      | (with_reducible exact (show bitOf _ _ _ = true by decide +kernel))
      | (with_reducible refine and_nomen ?_ ?_)
      | (with_reducible refine nomen_p (by first | rfl | simp only [go_sem, Nat.reduceBEq, Nat.reduceLeDiff, Nat.reduceEqDiff, reduceCtorEq, reduceIte]) ?_)
      | (with_reducible refine nomen_s (by first | rfl | simp only [go_sem, Nat.reduceBEq, Nat.reduceLeDiff, Nat.reduceEqDiff, reduceCtorEq, reduceIte]) ?_)
      | (with_reducible refine nomen_setB0 _ _ _ ?_)
      | (with_reducible refine nomen_p0 (by first | rfl | simp only [go_sem, Nat.reduceBEq, Nat.reduceLeDiff, Nat.reduceEqDiff, reduceCtorEq, reduceIte]) ?_)
      | (with_reducible refine nomen_j ?_)
      | (with_reducible exact nomen_i (by first | rfl | simp only [go_sem, Nat.reduceBEq, Nat.reduceLeDiff, Nat.reduceEqDiff, reduceCtorEq, reduceIte]))
      | (with_reducible exact nomen_iB (by first | rfl | simp only [go_sem, Nat.reduceBEq, Nat.reduceLeDiff, Nat.reduceEqDiff, reduceCtorEq, reduceIte]) (by first | rfl | simp only [go_sem, Nat.reduceBEq, Nat.reduceLeDiff, Nat.reduceEqDiff, reduceCtorEq, reduceIte]) (by decide))
      | (with_reducible exact nomen_b)
      | (with_reducible refine leX_nil (by simp only [go_sem, Nat.reduceBEq, Nat.reduceLeDiff, Nat.reduceEqDiff, reduceCtorEq, reduceIte]) ?_)
      | ((with_reducible refine leX_put ?_ ?_) <;> (try simp only [w0, w1, go_sem, Nat.reduceAdd, Nat.reduceLT, Nat.reduceBEq, Nat.reduceEqDiff, reduceIte, reduceCtorEq, Nat.reduceLeDiff, Int.reduceEq, Int.reduceLT, Int.reduceLE, Int.reduceSub, Int.reduceAdd, Int.reduceMul, Int.reduceNeg, Int.reduceToNat, Nat.reduceMul, Nat.reduceSub, Nat.reduceDiv, Int.reduceMod, Int.reduceDiv, Int.reduceTDiv, Int.reduceTMod]))
      | (with_reducible refine leX_boxnil ?_)
      | ((with_reducible refine leX_box ?_ ?_) <;> (try simp only [w0, w1, go_sem, Nat.reduceAdd, Nat.reduceLT, Nat.reduceBEq, Nat.reduceEqDiff, reduceIte, reduceCtorEq, Nat.reduceLeDiff, Int.reduceEq, Int.reduceLT, Int.reduceLE, Int.reduceSub, Int.reduceAdd, Int.reduceMul, Int.reduceNeg, Int.reduceToNat, Nat.reduceMul, Nat.reduceSub, Nat.reduceDiv, Int.reduceMod, Int.reduceDiv, Int.reduceTDiv, Int.reduceTMod]))
      | (with_reducible refine leX_boxnone ?_)
      | (with_reducible exact leX_base rfl)
      | (with_reducible refine leX_junkF ?_)
      | (with_reducible exact kp_refl)
      | (with_reducible refine kp_fx rfl (by first | exact Or.inl rfl | (refine Or.inr ?_; simp only [go_sem, Nat.reduceBEq, Nat.reduceLeDiff, Nat.reduceEqDiff, reduceCtorEq, reduceIte])) ?_)
      | (with_reducible refine kp_put rfl ?_)
      | (with_reducible refine kp_setB (by first | exact Or.inl rfl | (refine Or.inr ?_; simp only [go_sem, Nat.reduceBEq, Nat.reduceLeDiff, Nat.reduceEqDiff, reduceCtorEq, reduceIte])) ?_)
      | (with_reducible refine kp_junkF (by decide) ?_)
      | (with_reducible refine fx_put (by first | rfl | simp only [go_sem, Nat.reduceBEq, Nat.reduceLeDiff, Nat.reduceEqDiff, reduceCtorEq, reduceIte]) ?_)
      | (with_reducible refine fx_setB (by first | rfl | simp only [go_sem, Nat.reduceBEq, Nat.reduceLeDiff, Nat.reduceEqDiff, reduceCtorEq, reduceIte]) ?_)
      | (with_reducible refine fx_setN ?_)
      | (with_reducible refine fx_junkF ?_)
      | (with_reducible exact fx_init (by first | rfl | simp only [go_sem, Nat.reduceBEq, Nat.reduceLeDiff, Nat.reduceEqDiff, reduceCtorEq, reduceIte]))
      | (with_reducible exact fx_initB (by first | rfl | simp only [go_sem, Nat.reduceBEq, Nat.reduceLeDiff, Nat.reduceEqDiff, reduceCtorEq, reduceIte]) (by first | rfl | simp only [go_sem, Nat.reduceBEq, Nat.reduceLeDiff, Nat.reduceEqDiff, reduceCtorEq, reduceIte]) rfl (by decide) (by decide))
      | (with_reducible exact fx_base)
      | ((with_reducible refine again_of (j + 1) (le_sw [(3, 18)] rfl rfl ?_) ?_ ?_) <;> (try dsimp only) <;> (try simp only [go_sem, Nat.reduceAdd, Nat.reduceLT, Nat.reduceBEq, Nat.reduceEqDiff, reduceIte, reduceCtorEq, Nat.reduceLeDiff, Int.reduceEq, Int.reduceLT, Int.reduceLE, Int.reduceSub, Int.reduceAdd, Int.reduceMul, Int.reduceNeg, Int.reduceToNat, Nat.reduceMul, Nat.reduceSub, Nat.reduceDiv, Int.reduceMod, Int.reduceDiv, Int.reduceTDiv, Int.reduceTMod]))
      | (with_reducible refine And.intro ?_ ?_))
    all_goals (try simp only [Bool.not_eq_true', Bool.not_eq_false', Bool.and_eq_true, Bool.and_eq_false_iff, decide_eq_true_eq, decide_eq_false_iff_not, Bool.or_eq_true, Bool.or_eq_false_iff, Bool.not_true, Bool.not_false, Bool.false_eq_true, false_iff, true_iff, bne_iff_ne, beq_iff_eq, ne_eq, iff_true, iff_false, not_and, not_or] at *)
    all_goals first
      | omega
      | (have hj : ¬ j = zpad l.length := fun e => hb (hz.2 e)
         clear hz hb
         omega)
      | (refine leafSl ?_; omega)
      | (rw [List.take_of_length_le (by simp <;> omega), show (0 : Int) = ((0 : Nat) : Int) from rfl, castL_snoc, List.append_assoc _ (List.replicate j 0), ← List.replicate_succ']; done)
      | skip
    have hj : j = zpad l.length := hz.1 hb
    subst hj
    refine loop_at (α := Nat) 3 (fun i => [(3, .c (.sl 3 (l.length + 1 + zpad l.length + i) 1 false)), (4, .c (.lit (.int .u64 ((l.length * 8 : Nat) : Int)))), (5, I (56 - 8 * (i : Int)))]) (fun i => [(3, some ⟨IL .u8 (castL (l ++ [128] ++ List.replicate (zpad l.length) 0 ++ (List.range i).map (lenB l.length))), 0, false, false⟩), (11, none)]) (fun i => i ≤ 8) (fun i => 8 - i) 0 (le_sw [] rfl rfl ?_) ?_ ?_
    · (try dsimp only)
      simp only [go_sem, Nat.reduceAdd, Nat.reduceLT, Nat.reduceBEq, Nat.reduceEqDiff, reduceIte, reduceCtorEq, Nat.reduceLeDiff, Int.reduceEq, Int.reduceLT, Int.reduceLE, Int.reduceSub, Int.reduceAdd, Int.reduceMul, Int.reduceNeg, Int.reduceToNat, Nat.reduceMul, Nat.reduceSub, Nat.reduceDiv, Int.reduceMod, Int.reduceDiv, Int.reduceTDiv, Int.reduceTMod]
      repeat' (first
        | ((with_reducible refine split_guard ?_ ?_) <;> intro hb <;> simp only [hb, go_sem, Nat.reduceAdd, Nat.reduceLT, Nat.reduceBEq, Nat.reduceEqDiff, reduceIte, reduceCtorEq, Nat.reduceLeDiff, Int.reduceEq, Int.reduceLT, Int.reduceLE, Int.reduceSub, Int.reduceAdd, Int.reduceMul, Int.reduceNeg, Int.reduceToNat, Nat.reduceMul, Nat.reduceSub, Nat.reduceDiv, Int.reduceMod, Int.reduceDiv, Int.reduceTDiv, Int.reduceTMod])
        | ((with_reducible refine split_cond ?_ ?_) <;> intro hb <;> simp only [hb, go_sem, Nat.reduceAdd, Nat.reduceLT, Nat.reduceBEq, Nat.reduceEqDiff, reduceIte, reduceCtorEq, Nat.reduceLeDiff, Int.reduceEq, Int.reduceLT, Int.reduceLE, Int.reduceSub, Int.reduceAdd, Int.reduceMul, Int.reduceNeg, Int.reduceToNat, Nat.reduceMul, Nat.reduceSub, Nat.reduceDiv, Int.reduceMod, Int.reduceDiv, Int.reduceTDiv, Int.reduceTMod])
        | ((with_reducible refine split_guardY ?_ ?_) <;> intro hb <;> simp only [hb, go_sem, Nat.reduceAdd, Nat.reduceLT, Nat.reduceBEq, Nat.reduceEqDiff, reduceIte, reduceCtorEq, Nat.reduceLeDiff, Int.reduceEq, Int.reduceLT, Int.reduceLE, Int.reduceSub, Int.reduceAdd, Int.reduceMul, Int.reduceNeg, Int.reduceToNat, Nat.reduceMul, Nat.reduceSub, Nat.reduceDiv, Int.reduceMod, Int.reduceDiv, Int.reduceTDiv, Int.reduceTMod])
        | ((with_reducible refine and_orderN (by kernel_rfl) ?_ ?_) <;> (try simp only [go_sem, Nat.reduceAdd, Nat.reduceLT, Nat.reduceBEq, Nat.reduceEqDiff, reduceIte, reduceCtorEq, Nat.reduceLeDiff, Int.reduceEq, Int.reduceLT, Int.reduceLE, Int.reduceSub, Int.reduceAdd, Int.reduceMul, Int.reduceNeg, Int.reduceToNat, Nat.reduceMul, Nat.reduceSub, Nat.reduceDiv, Int.reduceMod, Int.reduceDiv, Int.reduceTDiv, Int.reduceTMod]))
        | ((with_reducible refine (and_orderN (A := True) (by kernel_rfl) ?_ trivial).1) <;> (try simp only [go_sem, Nat.reduceAdd, Nat.reduceLT, Nat.reduceBEq, Nat.reduceEqDiff, reduceIte, reduceCtorEq, Nat.reduceLeDiff, Int.reduceEq, Int.reduceLT, Int.reduceLE, Int.reduceSub, Int.reduceAdd, Int.reduceMul, Int.reduceNeg, Int.reduceToNat, Nat.reduceMul, Nat.reduceSub, Nat.reduceDiv, Int.reduceMod, Int.reduceDiv, Int.reduceTDiv, Int.reduceTMod]))
        | (with_reducible exact (show bitOf _ _ _ = true by decide +kernel))
        | (with_reducible refine and_nomen ?_ ?_)
        | (with_reducible refine nomen_p (by first | rfl | simp only [go_sem, Nat.reduceBEq, Nat.reduceLeDiff, Nat.reduceEqDiff, reduceCtorEq, reduceIte]) ?_)
        | (with_reducible refine nomen_s (by first | rfl | simp only [go_sem, Nat.reduceBEq, Nat.reduceLeDiff, Nat.reduceEqDiff, reduceCtorEq, reduceIte]) ?_)
        | (with_reducible refine nomen_setB0 _ _ _ ?_)
        | (with_reducible refine nomen_p0 (by first | rfl | simp only [go_sem, Nat.reduceBEq, Nat.reduceLeDiff, Nat.reduceEqDiff, reduceCtorEq, reduceIte]) ?_)
        | (with_reducible refine nomen_j ?_)
        | (with_reducible exact nomen_i (by first | rfl | simp only [go_sem, Nat.reduceBEq, Nat.reduceLeDiff, Nat.reduceEqDiff, reduceCtorEq, reduceIte]))
        | (with_reducible exact nomen_iB (by first | rfl | simp only [go_sem, Nat.reduceBEq, Nat.reduceLeDiff, Nat.reduceEqDiff, reduceCtorEq, reduceIte]) (by first | rfl | simp only [go_sem, Nat.reduceBEq, Nat.reduceLeDiff, Nat.reduceEqDiff, reduceCtorEq, reduceIte]) (by decide))
        | (with_reducible exact nomen_b)
        | (with_reducible refine leX_nil (by simp only [go_sem, Nat.reduceBEq, Nat.reduceLeDiff, Nat.reduceEqDiff, reduceCtorEq, reduceIte]) ?_)
        | ((with_reducible refine leX_put ?_ ?_) <;> (try simp only [go_sem, Nat.reduceAdd, Nat.reduceLT, Nat.reduceBEq, Nat.reduceEqDiff, reduceIte, reduceCtorEq, Nat.reduceLeDiff, Int.reduceEq, Int.reduceLT, Int.reduceLE, Int.reduceSub, Int.reduceAdd, Int.reduceMul, Int.reduceNeg, Int.reduceToNat, Nat.reduceMul, Nat.reduceSub, Nat.reduceDiv, Int.reduceMod, Int.reduceDiv, Int.reduceTDiv, Int.reduceTMod]))
        | (with_reducible refine leX_boxnil ?_)
        | ((with_reducible refine leX_box ?_ ?_) <;> (try simp only [go_sem, Nat.reduceAdd, Nat.reduceLT, Nat.reduceBEq, Nat.reduceEqDiff, reduceIte, reduceCtorEq, Nat.reduceLeDiff, Int.reduceEq, Int.reduceLT, Int.reduceLE, Int.reduceSub, Int.reduceAdd, Int.reduceMul, Int.reduceNeg, Int.reduceToNat, Nat.reduceMul, Nat.reduceSub, Nat.reduceDiv, Int.reduceMod, Int.reduceDiv, Int.reduceTDiv, Int.reduceTMod]))
        | (with_reducible refine leX_boxnone ?_)
        | (with_reducible exact leX_base rfl)
        | (with_reducible refine leX_junkF ?_)
        | (with_reducible exact kp_refl)
        | (with_reducible refine kp_fx rfl (by first | exact Or.inl rfl | (refine Or.inr ?_; simp only [go_sem, Nat.reduceBEq, Nat.reduceLeDiff, Nat.reduceEqDiff, reduceCtorEq, reduceIte])) ?_)
        | (with_reducible refine kp_put rfl ?_)
        | (with_reducible refine kp_setB (by first | exact Or.inl rfl | (refine Or.inr ?_; simp only [go_sem, Nat.reduceBEq, Nat.reduceLeDiff, Nat.reduceEqDiff, reduceCtorEq, reduceIte])) ?_)
        | (with_reducible refine kp_junkF (by decide) ?_)
        | (with_reducible refine fx_put (by first | rfl | simp only [go_sem, Nat.reduceBEq, Nat.reduceLeDiff, Nat.reduceEqDiff, reduceCtorEq, reduceIte]) ?_)
        | (with_reducible refine fx_setB (by first | rfl | simp only [go_sem, Nat.reduceBEq, Nat.reduceLeDiff, Nat.reduceEqDiff, reduceCtorEq, reduceIte]) ?_)
        | (with_reducible refine fx_setN ?_)
        | (with_reducible refine fx_junkF ?_)
        | (with_reducible exact fx_init (by first | rfl | simp only [go_sem, Nat.reduceBEq, Nat.reduceLeDiff, Nat.reduceEqDiff, reduceCtorEq, reduceIte]))
        | (with_reducible exact fx_initB (by first | rfl | simp only [go_sem, Nat.reduceBEq, Nat.reduceLeDiff, Nat.reduceEqDiff, reduceCtorEq, reduceIte]) (by first | rfl | simp only [go_sem, Nat.reduceBEq, Nat.reduceLeDiff, Nat.reduceEqDiff, reduceCtorEq, reduceIte]) rfl (by decide) (by decide))
        | (with_reducible exact fx_base)
        | (with_reducible refine And.intro ?_ ?_))
      all_goals (try simp only [Bool.not_eq_true', Bool.not_eq_false', Bool.and_eq_true, Bool.and_eq_false_iff, decide_eq_true_eq, decide_eq_false_iff_not, Bool.or_eq_true, Bool.or_eq_false_iff, Bool.not_true, Bool.not_false, Bool.false_eq_true, false_iff, true_iff, bne_iff_ne, beq_iff_eq, ne_eq, iff_true, iff_false, not_and, not_or] at *)
      all_goals first
        | omega
        | rfl
        | (simp; done)
        | skip
    · (try dsimp only)
      first | omega | exact ⟨by omega, by omega⟩ | skip
    · intro i hk
      try dsimp only at hk
      have hn : zpad l.length < 64 := by unfold zpad; omega
      have w5 : IntKind.i64.wrap (56 - 8 * (i : Int) - 8) = 56 - 8 * ((i + 1 : Nat) : Int) := by
        rw [IntWalk.i64_in _ (by omega)]
        omega
      try dsimp only
      simp only [w5, go_sem, Nat.reduceAdd, Nat.reduceLT, Nat.reduceBEq, Nat.reduceEqDiff, reduceIte, reduceCtorEq, Nat.reduceLeDiff, Int.reduceEq, Int.reduceLT, Int.reduceLE, Int.reduceSub, Int.reduceAdd, Int.reduceMul, Int.reduceNeg, Int.reduceToNat, Nat.reduceMul, Nat.reduceSub, Nat.reduceDiv, Int.reduceMod, Int.reduceDiv, Int.reduceTDiv, Int.reduceTMod]
      repeat' (first
        | ((with_reducible refine split_guard ?_ ?_) <;> intro hb <;> simp only [hb, w5, go_sem, Nat.reduceAdd, Nat.reduceLT, Nat.reduceBEq, Nat.reduceEqDiff, reduceIte, reduceCtorEq, Nat.reduceLeDiff, Int.reduceEq, Int.reduceLT, Int.reduceLE, Int.reduceSub, Int.reduceAdd, Int.reduceMul, Int.reduceNeg, Int.reduceToNat, Nat.reduceMul, Nat.reduceSub, Nat.reduceDiv, Int.reduceMod, Int.reduceDiv, Int.reduceTDiv, Int.reduceTMod])
        | ((with_reducible refine split_cond ?_ ?_) <;> intro hb <;> simp only [hb, w5, go_sem, Nat.reduceAdd, Nat.reduceLT, Nat.reduceBEq, Nat.reduceEqDiff, reduceIte, reduceCtorEq, Nat.reduceLeDiff, Int.reduceEq, Int.reduceLT, Int.reduceLE, Int.reduceSub, Int.reduceAdd, Int.reduceMul, Int.reduceNeg, Int.reduceToNat, Nat.reduceMul, Nat.reduceSub, Nat.reduceDiv, Int.reduceMod, Int.reduceDiv, Int.reduceTDiv, Int.reduceTMod])
        | ((with_reducible refine split_guardY ?_ ?_) <;> intro hb <;> simp only [hb, w5, go_sem, Nat.reduceAdd, Nat.reduceLT, Nat.reduceBEq, Nat.reduceEqDiff, reduceIte, reduceCtorEq, Nat.reduceLeDiff, Int.reduceEq, Int.reduceLT, Int.reduceLE, Int.reduceSub, Int.reduceAdd, Int.reduceMul, Int.reduceNeg, Int.reduceToNat, Nat.reduceMul, Nat.reduceSub, Nat.reduceDiv, Int.reduceMod, Int.reduceDiv, Int.reduceTDiv, Int.reduceTMod])
        | ((with_reducible refine and_orderN (by kernel_rfl) ?_ ?_) <;> (try simp only [w5, go_sem, Nat.reduceAdd, Nat.reduceLT, Nat.reduceBEq, Nat.reduceEqDiff, reduceIte, reduceCtorEq, Nat.reduceLeDiff, Int.reduceEq, Int.reduceLT, Int.reduceLE, Int.reduceSub, Int.reduceAdd, Int.reduceMul, Int.reduceNeg, Int.reduceToNat, Nat.reduceMul, Nat.reduceSub, Nat.reduceDiv, Int.reduceMod, Int.reduceDiv, Int.reduceTDiv, Int.reduceTMod]))
        | ((with_reducible refine (and_orderN (A := True) (by kernel_rfl) ?_ trivial).1) <;> (try simp only [w5, go_sem, Nat.reduceAdd, Nat.reduceLT, Nat.reduceBEq, Nat.reduceEqDiff, reduceIte, reduceCtorEq, Nat.reduceLeDiff, Int.reduceEq, Int.reduceLT, Int.reduceLE, Int.reduceSub, Int.reduceAdd, Int.reduceMul, Int.reduceNeg, Int.reduceToNat, Nat.reduceMul, Nat.reduceSub, Nat.reduceDiv, Int.reduceMod, Int.reduceDiv, Int.reduceTDiv, Int.reduceTMod]))
        | (with_reducible exact (show bitOf _ _ _ = true by decide +kernel))
        | (with_reducible refine and_nomen ?_ ?_)
        | (with_reducible refine nomen_p (by first | rfl | simp only [go_sem, Nat.reduceBEq, Nat.reduceLeDiff, Nat.reduceEqDiff, reduceCtorEq, reduceIte]) ?_)
        | (with_reducible refine nomen_s (by first | rfl | simp only [go_sem, Nat.reduceBEq, Nat.reduceLeDiff, Nat.reduceEqDiff, reduceCtorEq, reduceIte]) ?_)
        | (with_reducible refine nomen_setB0 _ _ _ ?_)
        | (with_reducible refine nomen_p0 (by first | rfl | simp only [go_sem, Nat.reduceBEq, Nat.reduceLeDiff, Nat.reduceEqDiff, reduceCtorEq, reduceIte]) ?_)
        | (with_reducible refine nomen_j ?_)
        | (with_reducible exact nomen_i (by first | rfl | simp only [go_sem, Nat.reduceBEq, Nat.reduceLeDiff, Nat.reduceEqDiff, reduceCtorEq, reduceIte]))
        | (with_reducible exact nomen_iB (by first | rfl | simp only [go_sem, Nat.reduceBEq, Nat.reduceLeDiff, Nat.reduceEqDiff, reduceCtorEq, reduceIte]) (by first | rfl | simp only [go_sem, Nat.reduceBEq, Nat.reduceLeDiff, Nat.reduceEqDiff, reduceCtorEq, reduceIte]) (by decide))
        | (with_reducible exact nomen_b)
        | (with_reducible refine leX_nil (by simp only [go_sem, Nat.reduceBEq, Nat.reduceLeDiff, Nat.reduceEqDiff, reduceCtorEq, reduceIte]) ?_)
        | ((with_reducible refine leX_put ?_ ?_) <;> (try simp only [w5, go_sem, Nat.reduceAdd, Nat.reduceLT, Nat.reduceBEq, Nat.reduceEqDiff, reduceIte, reduceCtorEq, Nat.reduceLeDiff, Int.reduceEq, Int.reduceLT, Int.reduceLE, Int.reduceSub, Int.reduceAdd, Int.reduceMul, Int.reduceNeg, Int.reduceToNat, Nat.reduceMul, Nat.reduceSub, Nat.reduceDiv, Int.reduceMod, Int.reduceDiv, Int.reduceTDiv, Int.reduceTMod]))
        | (with_reducible refine leX_boxnil ?_)
        | ((with_reducible refine leX_box ?_ ?_) <;> (try simp only [w5, go_sem, Nat.reduceAdd, Nat.reduceLT, Nat.reduceBEq, Nat.reduceEqDiff, reduceIte, reduceCtorEq, Nat.reduceLeDiff, Int.reduceEq, Int.reduceLT, Int.reduceLE, Int.reduceSub, Int.reduceAdd, Int.reduceMul, Int.reduceNeg, Int.reduceToNat, Nat.reduceMul, Nat.reduceSub, Nat.reduceDiv, Int.reduceMod, Int.reduceDiv, Int.reduceTDiv, Int.reduceTMod]))
        | (with_reducible refine leX_boxnone ?_)
        | (with_reducible exact leX_base rfl)
        | (with_reducible refine leX_junkF ?_)
        | (with_reducible exact kp_refl)
        | (with_reducible refine kp_fx rfl (by first | exact Or.inl rfl | (refine Or.inr ?_; simp only [go_sem, Nat.reduceBEq, Nat.reduceLeDiff, Nat.reduceEqDiff, reduceCtorEq, reduceIte])) ?_)
        | (with_reducible refine kp_put rfl ?_)
        | (with_reducible refine kp_setB (by first | exact Or.inl rfl | (refine Or.inr ?_; simp only [go_sem, Nat.reduceBEq, Nat.reduceLeDiff, Nat.reduceEqDiff, reduceCtorEq, reduceIte])) ?_)
        | (with_reducible refine kp_junkF (by decide) ?_)
        | (with_reducible refine fx_put (by first | rfl | simp only [go_sem, Nat.reduceBEq, Nat.reduceLeDiff, Nat.reduceEqDiff, reduceCtorEq, reduceIte]) ?_)
        | (with_reducible refine fx_setB (by first | rfl | simp only [go_sem, Nat.reduceBEq, Nat.reduceLeDiff, Nat.reduceEqDiff, reduceCtorEq, reduceIte]) ?_)
        | (with_reducible refine fx_setN ?_)
        | (with_reducible refine fx_junkF ?_)
        | (with_reducible exact fx_init (by first | rfl | simp only [go_sem, Nat.reduceBEq, Nat.reduceLeDiff, Nat.reduceEqDiff, reduceCtorEq, reduceIte]))
        | (with_reducible exact fx_initB (by first | rfl | simp only [go_sem, Nat.reduceBEq, Nat.reduceLeDiff, Nat.reduceEqDiff, reduceCtorEq, reduceIte]) (by first | rfl | simp only [go_sem, Nat.reduceBEq, Nat.reduceLeDiff, Nat.reduceEqDiff, reduceCtorEq, reduceIte]) rfl (by decide) (by decide))
        | (with_reducible exact fx_base)
        | ((with_reducible refine again_of (i + 1) (le_sw [(3, 33)] rfl rfl ?_) ?_ ?_) <;> (try dsimp only) <;> (try simp only [go_sem, Nat.reduceAdd, Nat.reduceLT, Nat.reduceBEq, Nat.reduceEqDiff, reduceIte, reduceCtorEq, Nat.reduceLeDiff, Int.reduceEq, Int.reduceLT, Int.reduceLE, Int.reduceSub, Int.reduceAdd, Int.reduceMul, Int.reduceNeg, Int.reduceToNat, Nat.reduceMul, Nat.reduceSub, Nat.reduceDiv, Int.reduceMod, Int.reduceDiv, Int.reduceTDiv, Int.reduceTMod]))
        | (with_reducible refine And.intro ?_ ?_))
      all_goals (try simp only [Bool.not_eq_true', Bool.not_eq_false', Bool.and_eq_true, Bool.and_eq_false_iff, decide_eq_true_eq, decide_eq_false_iff_not, Bool.or_eq_true, Bool.or_eq_false_iff, Bool.not_true, Bool.not_false, Bool.false_eq_true, false_iff, true_iff, bne_iff_ne, beq_iff_eq, ne_eq, iff_true, iff_false, not_and, not_or] at *)
      all_goals first
        | omega
        | (refine leafSl ?_; omega)
        | (rw [lenB_eq _ _ hp.1 (by omega)]
           have e : List.take (l.length + 1 + zpad l.length + i) (l ++ [128] ++ List.replicate (zpad l.length) 0 ++ (List.range i).map (lenB l.length)) = l ++ [128] ++ List.replicate (zpad l.length) 0 ++ (List.range i).map (lenB l.length) := List.take_of_length_le (by simp <;> omega)
           rw [e, castL_snoc]
           first | rw [List.range_succ] | skip
           rw [List.map_append, ← List.append_assoc]; rfl)
        | (obtain rfl : i = 8 := by omega
           rw [List.take_of_length_le (by simp <;> omega)]
           unfold padL
           refine leafLi ?_
           simp <;> omega)
        | skip
noncomputable def paddedG : List AV → Option AV := ofRel fun args r => ∃ (l : List Nat), args = [BL l] ∧ (l.length ≤ 140737488355328 ∧ ∀ x ∈ l, x < 256) ∧ r = BL (padL l)
@[go_sem] theorem paddedG_eq (l : List Nat) (hp : l.length ≤ 140737488355328 ∧ ∀ x ∈ l, x < 256) : paddedG [BL l] = some (BL (padL l)) :=
  ofRel_eq ⟨l, rfl, hp, rfl⟩ (by rintro _ ⟨l', e, _, rfl⟩; simp [IL_injEq, castL_inj, Int.ofNat_inj] at e; first | (obtain ⟨rfl⟩ := e; rfl) | (obtain ⟨rfl⟩ := e; exact ⟨rfl, rfl⟩) | (simp [e]) | (simp_all))
theorem padded_good : Good cfg 22 paddedG := fun args r h => by
  obtain ⟨_, rfl, hp, rfl⟩ := ofRel_some h; exact ⟨padded_ok _ hp, rfl⟩

end Go.Proofs.Ytnhdfmnmciminaa.Sh
