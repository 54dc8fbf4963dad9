/-
  The contracts of the functions of layer 9 (sha).
-/
import Derived.Test.YtnhdfmnmciminaaShT7
import Derived.Test.YtnhdfmnmciminaaShSpec
namespace Go.Proofs.Ytnhdfmnmciminaa.Sh
open Go Go.Ev
set_option linter.unusedSimpArgs false
set_option linter.unusedVariables false
set_option maxRecDepth 10000
set_option maxHeartbeats 4000000
def padsN (n a b : Nat) : List Nat := (List.range n).map fun j => (a + j % 256 * b % 256) % 256
theorem padsN_len (n a b : Nat) : (padsN n a b).length = n := by simp [padsN]
theorem padsN_lt (n a b : Nat) : ∀ x ∈ padsN n a b, x < 256 := by
  intro x hx
  simp only [padsN, List.mem_map] at hx
  obtain ⟨j, _, rfl⟩ := hx
  exact Nat.mod_lt _ (by decide)
theorem padsN_at {n a b j : Nat} (h : j < n) : nthN (padsN n a b) j = (a + j % 256 * b % 256) % 256 := nthN_map_range _ _ _ h
@[go_sem] abbrev U8 (n : Nat) : AV := .c (.lit (.int .u8 (n : Int)))
theorem shaPads_ok (n : Nat) (a : Nat) (b : Nat) (hp : n < 256 ∧ a < 256 ∧ b < 256) : FnOk cfg 7 [U8 n, U8 a, U8 b] (B true) := by
  have w0 : IntKind.i64.wrap (n : Int) = (n : Int) := i64n n (by omega)
  refine fnOk_eval [(14, plain ansG), (15, plain isG)] (good_cons ans_good (good_cons is_good good_nil)) mixed Try.func7 rfl rfl Try.ntmps7 (congrArg Array.toList Try.results7) (by simp) (by simp only [go_sem, Nat.reduceAdd, Nat.reduceLT, Nat.reduceBEq, Nat.reduceEqDiff, reduceIte, reduceCtorEq, Nat.reduceLeDiff, Int.reduceEq, Int.reduceLT, Int.reduceLE, Int.reduceSub, Int.reduceAdd, Int.reduceMul, Int.reduceNeg, Int.reduceToNat, Nat.reduceMul, Nat.reduceSub, Nat.reduceDiv, Int.reduceMod, Int.reduceDiv, Int.reduceTDiv, Int.reduceTMod]) (by simp only [go_sem, Nat.reduceAdd, Nat.reduceLT, Nat.reduceBEq, Nat.reduceEqDiff, reduceIte, reduceCtorEq, Nat.reduceLeDiff, Int.reduceEq, Int.reduceLT, Int.reduceLE, Int.reduceSub, Int.reduceAdd, Int.reduceMul, Int.reduceNeg, Int.reduceToNat, Nat.reduceMul, Nat.reduceSub, Nat.reduceDiv, Int.reduceMod, Int.reduceDiv, Int.reduceTDiv, Int.reduceTMod]) ?_
  simp only [w0, Int.natCast_nonneg, go_sem, Nat.reduceAdd, Nat.reduceLT, Nat.reduceBEq, Nat.reduceEqDiff, reduceIte, reduceCtorEq, Nat.reduceLeDiff, Int.reduceEq, Int.reduceLT, Int.reduceLE, Int.reduceSub, Int.reduceAdd, Int.reduceMul, Int.reduceNeg, Int.reduceToNat, Nat.reduceMul, Nat.reduceSub, Nat.reduceDiv, Int.reduceMod, Int.reduceDiv, Int.reduceTDiv, Int.reduceTMod]
  repeat' (first
    | ((with_reducible refine split_guard ?_ ?_) <;> intro hb <;> simp only [hb, w0, Int.natCast_nonneg, go_sem, Nat.reduceAdd, Nat.reduceLT, Nat.reduceBEq, Nat.reduceEqDiff, reduceIte, reduceCtorEq, Nat.reduceLeDiff, Int.reduceEq, Int.reduceLT, Int.reduceLE, Int.reduceSub, Int.reduceAdd, Int.reduceMul, Int.reduceNeg, Int.reduceToNat, Nat.reduceMul, Nat.reduceSub, Nat.reduceDiv, Int.reduceMod, Int.reduceDiv, Int.reduceTDiv, Int.reduceTMod])
    | ((with_reducible refine split_cond ?_ ?_) <;> intro hb <;> simp only [hb, w0, Int.natCast_nonneg, go_sem, Nat.reduceAdd, Nat.reduceLT, Nat.reduceBEq, Nat.reduceEqDiff, reduceIte, reduceCtorEq, Nat.reduceLeDiff, Int.reduceEq, Int.reduceLT, Int.reduceLE, Int.reduceSub, Int.reduceAdd, Int.reduceMul, Int.reduceNeg, Int.reduceToNat, Nat.reduceMul, Nat.reduceSub, Nat.reduceDiv, Int.reduceMod, Int.reduceDiv, Int.reduceTDiv, Int.reduceTMod])
    | ((with_reducible refine split_guardY ?_ ?_) <;> intro hb <;> simp only [hb, w0, Int.natCast_nonneg, go_sem, Nat.reduceAdd, Nat.reduceLT, Nat.reduceBEq, Nat.reduceEqDiff, reduceIte, reduceCtorEq, Nat.reduceLeDiff, Int.reduceEq, Int.reduceLT, Int.reduceLE, Int.reduceSub, Int.reduceAdd, Int.reduceMul, Int.reduceNeg, Int.reduceToNat, Nat.reduceMul, Nat.reduceSub, Nat.reduceDiv, Int.reduceMod, Int.reduceDiv, Int.reduceTDiv, Int.reduceTMod])
    | ((with_reducible refine and_orderN (by kernel_rfl) ?_ ?_) <;> (try simp only [w0, Int.natCast_nonneg, go_sem, Nat.reduceAdd, Nat.reduceLT, Nat.reduceBEq, Nat.reduceEqDiff, reduceIte, reduceCtorEq, Nat.reduceLeDiff, Int.reduceEq, Int.reduceLT, Int.reduceLE, Int.reduceSub, Int.reduceAdd, Int.reduceMul, Int.reduceNeg, Int.reduceToNat, Nat.reduceMul, Nat.reduceSub, Nat.reduceDiv, Int.reduceMod, Int.reduceDiv, Int.reduceTDiv, Int.reduceTMod]))
    | (with_reducible exact (show bitOf _ _ _ = true by decide +kernel))
    | (with_reducible refine and_nomen ?_ ?_)
    | (with_reducible refine nomen_p (by first | rfl | simp only [go_sem, Nat.reduceBEq, Nat.reduceLeDiff, Nat.reduceEqDiff, reduceCtorEq, reduceIte]) ?_)
    | (with_reducible refine nomen_s (by first | rfl | simp only [go_sem, Nat.reduceBEq, Nat.reduceLeDiff, Nat.reduceEqDiff, reduceCtorEq, reduceIte]) ?_)
    | (with_reducible refine nomen_setB0 _ _ _ ?_)
    | (with_reducible refine nomen_p0 (by first | rfl | simp only [go_sem, Nat.reduceBEq, Nat.reduceLeDiff, Nat.reduceEqDiff, reduceCtorEq, reduceIte]) ?_)
    | (with_reducible refine nomen_j ?_)
    | (with_reducible exact nomen_i (by first | rfl | simp only [go_sem, Nat.reduceBEq, Nat.reduceLeDiff, Nat.reduceEqDiff, reduceCtorEq, reduceIte]))
    | (with_reducible exact nomen_iB (by first | rfl | simp only [go_sem, Nat.reduceBEq, Nat.reduceLeDiff, Nat.reduceEqDiff, reduceCtorEq, reduceIte]) (by first | rfl | simp only [go_sem, Nat.reduceBEq, Nat.reduceLeDiff, Nat.reduceEqDiff, reduceCtorEq, reduceIte]) (by decide))
    | (with_reducible exact nomen_b)
    | (with_reducible refine leX_nil (by simp only [go_sem, Nat.reduceBEq, Nat.reduceLeDiff, Nat.reduceEqDiff, reduceCtorEq, reduceIte]) ?_)
    | ((with_reducible refine leX_put ?_ ?_) <;> (try simp only [w0, Int.natCast_nonneg, go_sem, Nat.reduceAdd, Nat.reduceLT, Nat.reduceBEq, Nat.reduceEqDiff, reduceIte, reduceCtorEq, Nat.reduceLeDiff, Int.reduceEq, Int.reduceLT, Int.reduceLE, Int.reduceSub, Int.reduceAdd, Int.reduceMul, Int.reduceNeg, Int.reduceToNat, Nat.reduceMul, Nat.reduceSub, Nat.reduceDiv, Int.reduceMod, Int.reduceDiv, Int.reduceTDiv, Int.reduceTMod]))
    | (with_reducible refine leX_boxnil ?_)
    | ((with_reducible refine leX_box ?_ ?_) <;> (try simp only [w0, Int.natCast_nonneg, go_sem, Nat.reduceAdd, Nat.reduceLT, Nat.reduceBEq, Nat.reduceEqDiff, reduceIte, reduceCtorEq, Nat.reduceLeDiff, Int.reduceEq, Int.reduceLT, Int.reduceLE, Int.reduceSub, Int.reduceAdd, Int.reduceMul, Int.reduceNeg, Int.reduceToNat, Nat.reduceMul, Nat.reduceSub, Nat.reduceDiv, Int.reduceMod, Int.reduceDiv, Int.reduceTDiv, Int.reduceTMod]))
    | (with_reducible refine leX_boxnone ?_)
    | (with_reducible exact leX_base rfl)
    | (with_reducible refine leX_junkF ?_)
    | (with_reducible exact kp_refl)
    | (with_reducible refine kp_fx rfl (by first | exact Or.inl rfl | (refine Or.inr ?_; simp only [go_sem, Nat.reduceBEq, Nat.reduceLeDiff, Nat.reduceEqDiff, reduceCtorEq, reduceIte])) ?_)
    | (with_reducible refine kp_put rfl ?_)
    | (with_reducible refine kp_setB (by first | exact Or.inl rfl | (refine Or.inr ?_; simp only [go_sem, Nat.reduceBEq, Nat.reduceLeDiff, Nat.reduceEqDiff, reduceCtorEq, reduceIte])) ?_)
    | (with_reducible refine kp_junkF (by decide) ?_)
    | (with_reducible refine fx_put (by first | rfl | simp only [go_sem, Nat.reduceBEq, Nat.reduceLeDiff, Nat.reduceEqDiff, reduceCtorEq, reduceIte]) ?_)
    | (with_reducible refine fx_setB (by first | rfl | simp only [go_sem, Nat.reduceBEq, Nat.reduceLeDiff, Nat.reduceEqDiff, reduceCtorEq, reduceIte]) ?_)
    | (with_reducible refine fx_setN ?_)
    | (with_reducible refine fx_junkF ?_)
    | (with_reducible exact fx_init (by first | rfl | simp only [go_sem, Nat.reduceBEq, Nat.reduceLeDiff, Nat.reduceEqDiff, reduceCtorEq, reduceIte]))
    | (with_reducible exact fx_initB (by first | rfl | simp only [go_sem, Nat.reduceBEq, Nat.reduceLeDiff, Nat.reduceEqDiff, reduceCtorEq, reduceIte]) (by first | rfl | simp only [go_sem, Nat.reduceBEq, Nat.reduceLeDiff, Nat.reduceEqDiff, reduceCtorEq, reduceIte]) rfl (by decide) (by decide))
    | (with_reducible exact fx_base)
    | (with_reducible refine And.intro ?_ ?_))
  all_goals (try simp only [Bool.not_eq_true', Bool.not_eq_false', Bool.and_eq_true, Bool.and_eq_false_iff, decide_eq_true_eq, decide_eq_false_iff_not, Bool.or_eq_true, Bool.or_eq_false_iff, Bool.not_true, Bool.not_false, Bool.false_eq_true, false_iff, true_iff, bne_iff_ne, beq_iff_eq, ne_eq, iff_true, iff_false, not_and, not_or, List.length_append, List.length_drop, List.length_take, List.length_replicate, List.length_range] at *)
  all_goals (try omega)
  refine loop_at (α := Nat) 8 (fun j => [(8, I j)]) (fun j => [(11, some ⟨IL .u8 (castL ((padsN n a b).take j ++ (List.replicate n 0).drop j)), 0, false, false⟩)]) (fun j => j ≤ n) (fun j => n - j) 0 (le_sw [] rfl rfl ?_) ?_ ?_
  · (try dsimp only)
    simp only [go_sem, Nat.reduceAdd, Nat.reduceLT, Nat.reduceBEq, Nat.reduceEqDiff, reduceIte, reduceCtorEq, Nat.reduceLeDiff, Int.reduceEq, Int.reduceLT, Int.reduceLE, Int.reduceSub, Int.reduceAdd, Int.reduceMul, Int.reduceNeg, Int.reduceToNat, Nat.reduceMul, Nat.reduceSub, Nat.reduceDiv, Int.reduceMod, Int.reduceDiv, Int.reduceTDiv, Int.reduceTMod]
    repeat' (first
      | ((with_reducible refine split_guard ?_ ?_) <;> intro hb <;> simp only [hb, go_sem, Nat.reduceAdd, Nat.reduceLT, Nat.reduceBEq, Nat.reduceEqDiff, reduceIte, reduceCtorEq, Nat.reduceLeDiff, Int.reduceEq, Int.reduceLT, Int.reduceLE, Int.reduceSub, Int.reduceAdd, Int.reduceMul, Int.reduceNeg, Int.reduceToNat, Nat.reduceMul, Nat.reduceSub, Nat.reduceDiv, Int.reduceMod, Int.reduceDiv, Int.reduceTDiv, Int.reduceTMod])
      | ((with_reducible refine split_cond ?_ ?_) <;> intro hb <;> simp only [hb, go_sem, Nat.reduceAdd, Nat.reduceLT, Nat.reduceBEq, Nat.reduceEqDiff, reduceIte, reduceCtorEq, Nat.reduceLeDiff, Int.reduceEq, Int.reduceLT, Int.reduceLE, Int.reduceSub, Int.reduceAdd, Int.reduceMul, Int.reduceNeg, Int.reduceToNat, Nat.reduceMul, Nat.reduceSub, Nat.reduceDiv, Int.reduceMod, Int.reduceDiv, Int.reduceTDiv, Int.reduceTMod])
      | ((with_reducible refine split_guardY ?_ ?_) <;> intro hb <;> simp only [hb, go_sem, Nat.reduceAdd, Nat.reduceLT, Nat.reduceBEq, Nat.reduceEqDiff, reduceIte, reduceCtorEq, Nat.reduceLeDiff, Int.reduceEq, Int.reduceLT, Int.reduceLE, Int.reduceSub, Int.reduceAdd, Int.reduceMul, Int.reduceNeg, Int.reduceToNat, Nat.reduceMul, Nat.reduceSub, Nat.reduceDiv, Int.reduceMod, Int.reduceDiv, Int.reduceTDiv, Int.reduceTMod])
      | ((with_reducible refine and_orderN (by kernel_rfl) ?_ ?_) <;> (try simp only [go_sem, Nat.reduceAdd, Nat.reduceLT, Nat.reduceBEq, Nat.reduceEqDiff, reduceIte, reduceCtorEq, Nat.reduceLeDiff, Int.reduceEq, Int.reduceLT, Int.reduceLE, Int.reduceSub, Int.reduceAdd, Int.reduceMul, Int.reduceNeg, Int.reduceToNat, Nat.reduceMul, Nat.reduceSub, Nat.reduceDiv, Int.reduceMod, Int.reduceDiv, Int.reduceTDiv, Int.reduceTMod]))
      | (with_reducible exact (show bitOf _ _ _ = true by decide +kernel))
      | (with_reducible refine and_nomen ?_ ?_)
      | (with_reducible refine nomen_p (by first | rfl | simp only [go_sem, Nat.reduceBEq, Nat.reduceLeDiff, Nat.reduceEqDiff, reduceCtorEq, reduceIte]) ?_)
      | (with_reducible refine nomen_s (by first | rfl | simp only [go_sem, Nat.reduceBEq, Nat.reduceLeDiff, Nat.reduceEqDiff, reduceCtorEq, reduceIte]) ?_)
      | (with_reducible refine nomen_setB0 _ _ _ ?_)
      | (with_reducible refine nomen_p0 (by first | rfl | simp only [go_sem, Nat.reduceBEq, Nat.reduceLeDiff, Nat.reduceEqDiff, reduceCtorEq, reduceIte]) ?_)
      | (with_reducible refine nomen_j ?_)
      | (with_reducible exact nomen_i (by first | rfl | simp only [go_sem, Nat.reduceBEq, Nat.reduceLeDiff, Nat.reduceEqDiff, reduceCtorEq, reduceIte]))
      | (with_reducible exact nomen_iB (by first | rfl | simp only [go_sem, Nat.reduceBEq, Nat.reduceLeDiff, Nat.reduceEqDiff, reduceCtorEq, reduceIte]) (by first | rfl | simp only [go_sem, Nat.reduceBEq, Nat.reduceLeDiff, Nat.reduceEqDiff, reduceCtorEq, reduceIte]) (by decide))
      | (with_reducible exact nomen_b)
      | (with_reducible refine leX_nil (by simp only [go_sem, Nat.reduceBEq, Nat.reduceLeDiff, Nat.reduceEqDiff, reduceCtorEq, reduceIte]) ?_)
      | ((with_reducible refine leX_put ?_ ?_) <;> (try simp only [go_sem, Nat.reduceAdd, Nat.reduceLT, Nat.reduceBEq, Nat.reduceEqDiff, reduceIte, reduceCtorEq, Nat.reduceLeDiff, Int.reduceEq, Int.reduceLT, Int.reduceLE, Int.reduceSub, Int.reduceAdd, Int.reduceMul, Int.reduceNeg, Int.reduceToNat, Nat.reduceMul, Nat.reduceSub, Nat.reduceDiv, Int.reduceMod, Int.reduceDiv, Int.reduceTDiv, Int.reduceTMod]))
      | (with_reducible refine leX_boxnil ?_)
      | ((with_reducible refine leX_box ?_ ?_) <;> (try simp only [go_sem, Nat.reduceAdd, Nat.reduceLT, Nat.reduceBEq, Nat.reduceEqDiff, reduceIte, reduceCtorEq, Nat.reduceLeDiff, Int.reduceEq, Int.reduceLT, Int.reduceLE, Int.reduceSub, Int.reduceAdd, Int.reduceMul, Int.reduceNeg, Int.reduceToNat, Nat.reduceMul, Nat.reduceSub, Nat.reduceDiv, Int.reduceMod, Int.reduceDiv, Int.reduceTDiv, Int.reduceTMod]))
      | (with_reducible refine leX_boxnone ?_)
      | (with_reducible exact leX_base rfl)
      | (with_reducible refine leX_junkF ?_)
      | (with_reducible exact kp_refl)
      | (with_reducible refine kp_fx rfl (by first | exact Or.inl rfl | (refine Or.inr ?_; simp only [go_sem, Nat.reduceBEq, Nat.reduceLeDiff, Nat.reduceEqDiff, reduceCtorEq, reduceIte])) ?_)
      | (with_reducible refine kp_put rfl ?_)
      | (with_reducible refine kp_setB (by first | exact Or.inl rfl | (refine Or.inr ?_; simp only [go_sem, Nat.reduceBEq, Nat.reduceLeDiff, Nat.reduceEqDiff, reduceCtorEq, reduceIte])) ?_)
      | (with_reducible refine kp_junkF (by decide) ?_)
      | (with_reducible refine fx_put (by first | rfl | simp only [go_sem, Nat.reduceBEq, Nat.reduceLeDiff, Nat.reduceEqDiff, reduceCtorEq, reduceIte]) ?_)
      | (with_reducible refine fx_setB (by first | rfl | simp only [go_sem, Nat.reduceBEq, Nat.reduceLeDiff, Nat.reduceEqDiff, reduceCtorEq, reduceIte]) ?_)
      | (with_reducible refine fx_setN ?_)
      | (with_reducible refine fx_junkF ?_)
      | (with_reducible exact fx_init (by first | rfl | simp only [go_sem, Nat.reduceBEq, Nat.reduceLeDiff, Nat.reduceEqDiff, reduceCtorEq, reduceIte]))
      | (with_reducible exact fx_initB (by first | rfl | simp only [go_sem, Nat.reduceBEq, Nat.reduceLeDiff, Nat.reduceEqDiff, reduceCtorEq, reduceIte]) (by first | rfl | simp only [go_sem, Nat.reduceBEq, Nat.reduceLeDiff, Nat.reduceEqDiff, reduceCtorEq, reduceIte]) rfl (by decide) (by decide))
      | (with_reducible exact fx_base)
      | (with_reducible refine And.intro ?_ ?_))
    all_goals (try simp only [Bool.not_eq_true', Bool.not_eq_false', Bool.and_eq_true, Bool.and_eq_false_iff, decide_eq_true_eq, decide_eq_false_iff_not, Bool.or_eq_true, Bool.or_eq_false_iff, Bool.not_true, Bool.not_false, Bool.false_eq_true, false_iff, true_iff, bne_iff_ne, beq_iff_eq, ne_eq, iff_true, iff_false, not_and, not_or, List.length_append, List.length_drop, List.length_take, List.length_replicate, List.length_range] at *)
    all_goals (try omega)
    all_goals (first | (rw [castL_replicate]; rfl) | (simp [castL_replicate]; done) | skip)
  · (try dsimp only)
    first | omega | exact ⟨by omega, by omega⟩ | skip
  · intro j hk
    try dsimp only at hk
    have hpl := padsN_len n a b
    have q9 : IntKind.i64.wrap ((j : Int) + 1) = ((j + 1 : Nat) : Int) := i64n (j + 1) (by omega)
    have u1 : IntKind.u8.wrap (j : Int) = ((j % 256 : Nat) : Int) := wrap_u8 j
    have u2 : IntKind.u8.wrap (((j % 256 : Nat) : Int) * (b : Int)) = ((j % 256 * b % 256 : Nat) : Int) := by rw [← Int.natCast_mul, wrap_u8]
    have u3 : IntKind.u8.wrap ((a : Int) + ((j % 256 * b % 256 : Nat) : Int)) = (((a + j % 256 * b % 256) % 256 : Nat) : Int) := by rw [← Int.natCast_add, wrap_u8]
    try dsimp only
    simp only [hpl, q9, u1, u2, u3, go_sem, Nat.reduceAdd, Nat.reduceLT, Nat.reduceBEq, Nat.reduceEqDiff, reduceIte, reduceCtorEq, Nat.reduceLeDiff, Int.reduceEq, Int.reduceLT, Int.reduceLE, Int.reduceSub, Int.reduceAdd, Int.reduceMul, Int.reduceNeg, Int.reduceToNat, Nat.reduceMul, Nat.reduceSub, Nat.reduceDiv, Int.reduceMod, Int.reduceDiv, Int.reduceTDiv, Int.reduceTMod]
    repeat' (first
      | ((with_reducible refine split_guard ?_ ?_) <;> intro hb <;> simp only [hb, hpl, q9, u1, u2, u3, go_sem, Nat.reduceAdd, Nat.reduceLT, Nat.reduceBEq, Nat.reduceEqDiff, reduceIte, reduceCtorEq, Nat.reduceLeDiff, Int.reduceEq, Int.reduceLT, Int.reduceLE, Int.reduceSub, Int.reduceAdd, Int.reduceMul, Int.reduceNeg, Int.reduceToNat, Nat.reduceMul, Nat.reduceSub, Nat.reduceDiv, Int.reduceMod, Int.reduceDiv, Int.reduceTDiv, Int.reduceTMod])
      | ((with_reducible refine split_cond ?_ ?_) <;> intro hb <;> simp only [hb, hpl, q9, u1, u2, u3, go_sem, Nat.reduceAdd, Nat.reduceLT, Nat.reduceBEq, Nat.reduceEqDiff, reduceIte, reduceCtorEq, Nat.reduceLeDiff, Int.reduceEq, Int.reduceLT, Int.reduceLE, Int.reduceSub, Int.reduceAdd, Int.reduceMul, Int.reduceNeg, Int.reduceToNat, Nat.reduceMul, Nat.reduceSub, Nat.reduceDiv, Int.reduceMod, Int.reduceDiv, Int.reduceTDiv, Int.reduceTMod])
      | ((with_reducible refine split_guardY ?_ ?_) <;> intro hb <;> simp only [hb, hpl, q9, u1, u2, u3, go_sem, Nat.reduceAdd, Nat.reduceLT, Nat.reduceBEq, Nat.reduceEqDiff, reduceIte, reduceCtorEq, Nat.reduceLeDiff, Int.reduceEq, Int.reduceLT, Int.reduceLE, Int.reduceSub, Int.reduceAdd, Int.reduceMul, Int.reduceNeg, Int.reduceToNat, Nat.reduceMul, Nat.reduceSub, Nat.reduceDiv, Int.reduceMod, Int.reduceDiv, Int.reduceTDiv, Int.reduceTMod])
      | ((with_reducible refine and_orderN (by kernel_rfl) ?_ ?_) <;> (try simp only [hpl, q9, u1, u2, u3, go_sem, Nat.reduceAdd, Nat.reduceLT, Nat.reduceBEq, Nat.reduceEqDiff, reduceIte, reduceCtorEq, Nat.reduceLeDiff, Int.reduceEq, Int.reduceLT, Int.reduceLE, Int.reduceSub, Int.reduceAdd, Int.reduceMul, Int.reduceNeg, Int.reduceToNat, Nat.reduceMul, Nat.reduceSub, Nat.reduceDiv, Int.reduceMod, Int.reduceDiv, Int.reduceTDiv, Int.reduceTMod]))
      | (with_reducible exact (show bitOf _ _ _ = true by decide +kernel))
      | (with_reducible refine and_nomen ?_ ?_)
      | (with_reducible refine nomen_p (by first | rfl | simp only [go_sem, Nat.reduceBEq, Nat.reduceLeDiff, Nat.reduceEqDiff, reduceCtorEq, reduceIte]) ?_)
      | (with_reducible refine nomen_s (by first | rfl | simp only [go_sem, Nat.reduceBEq, Nat.reduceLeDiff, Nat.reduceEqDiff, reduceCtorEq, reduceIte]) ?_)
      | (with_reducible refine nomen_setB0 _ _ _ ?_)
      | (with_reducible refine nomen_p0 (by first | rfl | simp only [go_sem, Nat.reduceBEq, Nat.reduceLeDiff, Nat.reduceEqDiff, reduceCtorEq, reduceIte]) ?_)
      | (with_reducible refine nomen_j ?_)
      | (with_reducible exact nomen_i (by first | rfl | simp only [go_sem, Nat.reduceBEq, Nat.reduceLeDiff, Nat.reduceEqDiff, reduceCtorEq, reduceIte]))
      | (with_reducible exact nomen_iB (by first | rfl | simp only [go_sem, Nat.reduceBEq, Nat.reduceLeDiff, Nat.reduceEqDiff, reduceCtorEq, reduceIte]) (by first | rfl | simp only [go_sem, Nat.reduceBEq, Nat.reduceLeDiff, Nat.reduceEqDiff, reduceCtorEq, reduceIte]) (by decide))
      | (with_reducible exact nomen_b)
      | (with_reducible refine leX_nil (by simp only [go_sem, Nat.reduceBEq, Nat.reduceLeDiff, Nat.reduceEqDiff, reduceCtorEq, reduceIte]) ?_)
      | ((with_reducible refine leX_put ?_ ?_) <;> (try simp only [hpl, q9, u1, u2, u3, go_sem, Nat.reduceAdd, Nat.reduceLT, Nat.reduceBEq, Nat.reduceEqDiff, reduceIte, reduceCtorEq, Nat.reduceLeDiff, Int.reduceEq, Int.reduceLT, Int.reduceLE, Int.reduceSub, Int.reduceAdd, Int.reduceMul, Int.reduceNeg, Int.reduceToNat, Nat.reduceMul, Nat.reduceSub, Nat.reduceDiv, Int.reduceMod, Int.reduceDiv, Int.reduceTDiv, Int.reduceTMod]))
      | (with_reducible refine leX_boxnil ?_)
      | ((with_reducible refine leX_box ?_ ?_) <;> (try simp only [hpl, q9, u1, u2, u3, go_sem, Nat.reduceAdd, Nat.reduceLT, Nat.reduceBEq, Nat.reduceEqDiff, reduceIte, reduceCtorEq, Nat.reduceLeDiff, Int.reduceEq, Int.reduceLT, Int.reduceLE, Int.reduceSub, Int.reduceAdd, Int.reduceMul, Int.reduceNeg, Int.reduceToNat, Nat.reduceMul, Nat.reduceSub, Nat.reduceDiv, Int.reduceMod, Int.reduceDiv, Int.reduceTDiv, Int.reduceTMod]))
      | (with_reducible refine leX_boxnone ?_)
      | (with_reducible exact leX_base rfl)
      | (with_reducible refine leX_junkF ?_)
      | (with_reducible exact kp_refl)
      | (with_reducible refine kp_fx rfl (by first | exact Or.inl rfl | (refine Or.inr ?_; simp only [go_sem, Nat.reduceBEq, Nat.reduceLeDiff, Nat.reduceEqDiff, reduceCtorEq, reduceIte])) ?_)
      | (with_reducible refine kp_put rfl ?_)
      | (with_reducible refine kp_setB (by first | exact Or.inl rfl | (refine Or.inr ?_; simp only [go_sem, Nat.reduceBEq, Nat.reduceLeDiff, Nat.reduceEqDiff, reduceCtorEq, reduceIte])) ?_)
      | (with_reducible refine kp_junkF (by decide) ?_)
      | (with_reducible refine fx_put (by first | rfl | simp only [go_sem, Nat.reduceBEq, Nat.reduceLeDiff, Nat.reduceEqDiff, reduceCtorEq, reduceIte]) ?_)
      | (with_reducible refine fx_setB (by first | rfl | simp only [go_sem, Nat.reduceBEq, Nat.reduceLeDiff, Nat.reduceEqDiff, reduceCtorEq, reduceIte]) ?_)
      | (with_reducible refine fx_setN ?_)
      | (with_reducible refine fx_junkF ?_)
      | (with_reducible exact fx_init (by first | rfl | simp only [go_sem, Nat.reduceBEq, Nat.reduceLeDiff, Nat.reduceEqDiff, reduceCtorEq, reduceIte]))
      | (with_reducible exact fx_initB (by first | rfl | simp only [go_sem, Nat.reduceBEq, Nat.reduceLeDiff, Nat.reduceEqDiff, reduceCtorEq, reduceIte]) (by first | rfl | simp only [go_sem, Nat.reduceBEq, Nat.reduceLeDiff, Nat.reduceEqDiff, reduceCtorEq, reduceIte]) rfl (by decide) (by decide))
      | (with_reducible exact fx_base)
      | ((with_reducible refine again_of (j + 1) (le_sw [] rfl rfl ?_) ?_ ?_) <;> (try dsimp only) <;> (try simp only [go_sem, Nat.reduceAdd, Nat.reduceLT, Nat.reduceBEq, Nat.reduceEqDiff, reduceIte, reduceCtorEq, Nat.reduceLeDiff, Int.reduceEq, Int.reduceLT, Int.reduceLE, Int.reduceSub, Int.reduceAdd, Int.reduceMul, Int.reduceNeg, Int.reduceToNat, Nat.reduceMul, Nat.reduceSub, Nat.reduceDiv, Int.reduceMod, Int.reduceDiv, Int.reduceTDiv, Int.reduceTMod]))
      | (with_reducible refine And.intro ?_ ?_))
    all_goals (try simp only [Bool.not_eq_true', Bool.not_eq_false', Bool.and_eq_true, Bool.and_eq_false_iff, decide_eq_true_eq, decide_eq_false_iff_not, Bool.or_eq_true, Bool.or_eq_false_iff, Bool.not_true, Bool.not_false, Bool.false_eq_true, false_iff, true_iff, bne_iff_ne, beq_iff_eq, ne_eq, iff_true, iff_false, not_and, not_or, List.length_append, List.length_drop, List.length_take, List.length_replicate, List.length_range] at *)
    all_goals (try omega)
    · rw [← padsN_at (n := n) (by omega), setL_mid (by omega) (by simp; omega)]
    · obtain rfl : j = n := by omega
      have e : List.take j (List.take j (padsN j a b) ++ List.drop j (List.replicate j 0)) = padsN j a b := by
        rw [List.take_of_length_le (show (padsN j a b).length ≤ j by omega), List.drop_eq_nil_of_le (by simp), List.append_nil, List.take_of_length_le (by omega)]
      have hi := isG_eq (padsN j a b) ⟨by rw [hpl]; omega, padsN_lt j a b⟩
      simp only [go_sem, Nat.reduceAdd, Nat.reduceLT, Nat.reduceBEq, Nat.reduceEqDiff, reduceIte, reduceCtorEq, Nat.reduceLeDiff, Int.reduceEq, Int.reduceLT, Int.reduceLE, Int.reduceSub, Int.reduceAdd, Int.reduceMul, Int.reduceNeg, Int.reduceToNat, Nat.reduceMul, Nat.reduceSub, Nat.reduceDiv, Int.reduceMod, Int.reduceDiv, Int.reduceTDiv, Int.reduceTMod, hpl] at hi
      simp only [ansG_eq, e, hi, Nat.min_self, Nat.sub_self, Nat.add_zero, Nat.le_refl, go_sem, Nat.reduceAdd, Nat.reduceLT, Nat.reduceBEq, Nat.reduceEqDiff, reduceIte, reduceCtorEq, Nat.reduceLeDiff, Int.reduceEq, Int.reduceLT, Int.reduceLE, Int.reduceSub, Int.reduceAdd, Int.reduceMul, Int.reduceNeg, Int.reduceToNat, Nat.reduceMul, Nat.reduceSub, Nat.reduceDiv, Int.reduceMod, Int.reduceDiv, Int.reduceTDiv, Int.reduceTMod]
      repeat' (first
        | ((with_reducible refine split_guard ?_ ?_) <;> intro hb <;> simp only [hb, ansG_eq, e, hi, Nat.min_self, Nat.sub_self, Nat.add_zero, Nat.le_refl, go_sem, Nat.reduceAdd, Nat.reduceLT, Nat.reduceBEq, Nat.reduceEqDiff, reduceIte, reduceCtorEq, Nat.reduceLeDiff, Int.reduceEq, Int.reduceLT, Int.reduceLE, Int.reduceSub, Int.reduceAdd, Int.reduceMul, Int.reduceNeg, Int.reduceToNat, Nat.reduceMul, Nat.reduceSub, Nat.reduceDiv, Int.reduceMod, Int.reduceDiv, Int.reduceTDiv, Int.reduceTMod])
        | ((with_reducible refine split_cond ?_ ?_) <;> intro hb <;> simp only [hb, ansG_eq, e, hi, Nat.min_self, Nat.sub_self, Nat.add_zero, Nat.le_refl, go_sem, Nat.reduceAdd, Nat.reduceLT, Nat.reduceBEq, Nat.reduceEqDiff, reduceIte, reduceCtorEq, Nat.reduceLeDiff, Int.reduceEq, Int.reduceLT, Int.reduceLE, Int.reduceSub, Int.reduceAdd, Int.reduceMul, Int.reduceNeg, Int.reduceToNat, Nat.reduceMul, Nat.reduceSub, Nat.reduceDiv, Int.reduceMod, Int.reduceDiv, Int.reduceTDiv, Int.reduceTMod])
        | ((with_reducible refine split_guardY ?_ ?_) <;> intro hb <;> simp only [hb, ansG_eq, e, hi, Nat.min_self, Nat.sub_self, Nat.add_zero, Nat.le_refl, go_sem, Nat.reduceAdd, Nat.reduceLT, Nat.reduceBEq, Nat.reduceEqDiff, reduceIte, reduceCtorEq, Nat.reduceLeDiff, Int.reduceEq, Int.reduceLT, Int.reduceLE, Int.reduceSub, Int.reduceAdd, Int.reduceMul, Int.reduceNeg, Int.reduceToNat, Nat.reduceMul, Nat.reduceSub, Nat.reduceDiv, Int.reduceMod, Int.reduceDiv, Int.reduceTDiv, Int.reduceTMod])
        | ((with_reducible refine and_orderN (by kernel_rfl) ?_ ?_) <;> (try simp only [ansG_eq, e, hi, Nat.min_self, Nat.sub_self, Nat.add_zero, Nat.le_refl, go_sem, Nat.reduceAdd, Nat.reduceLT, Nat.reduceBEq, Nat.reduceEqDiff, reduceIte, reduceCtorEq, Nat.reduceLeDiff, Int.reduceEq, Int.reduceLT, Int.reduceLE, Int.reduceSub, Int.reduceAdd, Int.reduceMul, Int.reduceNeg, Int.reduceToNat, Nat.reduceMul, Nat.reduceSub, Nat.reduceDiv, Int.reduceMod, Int.reduceDiv, Int.reduceTDiv, Int.reduceTMod]))
        | (with_reducible exact (show bitOf _ _ _ = true by decide +kernel))
        | (with_reducible refine and_nomen ?_ ?_)
        | (with_reducible refine nomen_p (by first | rfl | simp only [go_sem, Nat.reduceBEq, Nat.reduceLeDiff, Nat.reduceEqDiff, reduceCtorEq, reduceIte]) ?_)
        | (with_reducible refine nomen_s (by first | rfl | simp only [go_sem, Nat.reduceBEq, Nat.reduceLeDiff, Nat.reduceEqDiff, reduceCtorEq, reduceIte]) ?_)
        | (with_reducible refine nomen_setB0 _ _ _ ?_)
        | (with_reducible refine nomen_p0 (by first | rfl | simp only [go_sem, Nat.reduceBEq, Nat.reduceLeDiff, Nat.reduceEqDiff, reduceCtorEq, reduceIte]) ?_)
        | (with_reducible refine nomen_j ?_)
        | (with_reducible exact nomen_i (by first | rfl | simp only [go_sem, Nat.reduceBEq, Nat.reduceLeDiff, Nat.reduceEqDiff, reduceCtorEq, reduceIte]))
        | (with_reducible exact nomen_iB (by first | rfl | simp only [go_sem, Nat.reduceBEq, Nat.reduceLeDiff, Nat.reduceEqDiff, reduceCtorEq, reduceIte]) (by first | rfl | simp only [go_sem, Nat.reduceBEq, Nat.reduceLeDiff, Nat.reduceEqDiff, reduceCtorEq, reduceIte]) (by decide))
        | (with_reducible exact nomen_b)
        | (with_reducible refine leX_nil (by simp only [go_sem, Nat.reduceBEq, Nat.reduceLeDiff, Nat.reduceEqDiff, reduceCtorEq, reduceIte]) ?_)
        | ((with_reducible refine leX_put ?_ ?_) <;> (try simp only [ansG_eq, e, hi, Nat.min_self, Nat.sub_self, Nat.add_zero, Nat.le_refl, go_sem, Nat.reduceAdd, Nat.reduceLT, Nat.reduceBEq, Nat.reduceEqDiff, reduceIte, reduceCtorEq, Nat.reduceLeDiff, Int.reduceEq, Int.reduceLT, Int.reduceLE, Int.reduceSub, Int.reduceAdd, Int.reduceMul, Int.reduceNeg, Int.reduceToNat, Nat.reduceMul, Nat.reduceSub, Nat.reduceDiv, Int.reduceMod, Int.reduceDiv, Int.reduceTDiv, Int.reduceTMod]))
        | (with_reducible refine leX_boxnil ?_)
        | ((with_reducible refine leX_box ?_ ?_) <;> (try simp only [ansG_eq, e, hi, Nat.min_self, Nat.sub_self, Nat.add_zero, Nat.le_refl, go_sem, Nat.reduceAdd, Nat.reduceLT, Nat.reduceBEq, Nat.reduceEqDiff, reduceIte, reduceCtorEq, Nat.reduceLeDiff, Int.reduceEq, Int.reduceLT, Int.reduceLE, Int.reduceSub, Int.reduceAdd, Int.reduceMul, Int.reduceNeg, Int.reduceToNat, Nat.reduceMul, Nat.reduceSub, Nat.reduceDiv, Int.reduceMod, Int.reduceDiv, Int.reduceTDiv, Int.reduceTMod]))
        | (with_reducible refine leX_boxnone ?_)
        | (with_reducible exact leX_base rfl)
        | (with_reducible refine leX_junkF ?_)
        | (with_reducible exact kp_refl)
        | (with_reducible refine kp_fx rfl (by first | exact Or.inl rfl | (refine Or.inr ?_; simp only [go_sem, Nat.reduceBEq, Nat.reduceLeDiff, Nat.reduceEqDiff, reduceCtorEq, reduceIte])) ?_)
        | (with_reducible refine kp_put rfl ?_)
        | (with_reducible refine kp_setB (by first | exact Or.inl rfl | (refine Or.inr ?_; simp only [go_sem, Nat.reduceBEq, Nat.reduceLeDiff, Nat.reduceEqDiff, reduceCtorEq, reduceIte])) ?_)
        | (with_reducible refine kp_junkF (by decide) ?_)
        | (with_reducible refine fx_put (by first | rfl | simp only [go_sem, Nat.reduceBEq, Nat.reduceLeDiff, Nat.reduceEqDiff, reduceCtorEq, reduceIte]) ?_)
        | (with_reducible refine fx_setB (by first | rfl | simp only [go_sem, Nat.reduceBEq, Nat.reduceLeDiff, Nat.reduceEqDiff, reduceCtorEq, reduceIte]) ?_)
        | (with_reducible refine fx_setN ?_)
        | (with_reducible refine fx_junkF ?_)
        | (with_reducible exact fx_init (by first | rfl | simp only [go_sem, Nat.reduceBEq, Nat.reduceLeDiff, Nat.reduceEqDiff, reduceCtorEq, reduceIte]))
        | (with_reducible exact fx_initB (by first | rfl | simp only [go_sem, Nat.reduceBEq, Nat.reduceLeDiff, Nat.reduceEqDiff, reduceCtorEq, reduceIte]) (by first | rfl | simp only [go_sem, Nat.reduceBEq, Nat.reduceLeDiff, Nat.reduceEqDiff, reduceCtorEq, reduceIte]) rfl (by decide) (by decide))
        | (with_reducible exact fx_base)
        | (with_reducible refine And.intro ?_ ?_))
      all_goals (try simp only [Bool.not_eq_true', Bool.not_eq_false', Bool.and_eq_true, Bool.and_eq_false_iff, decide_eq_true_eq, decide_eq_false_iff_not, Bool.or_eq_true, Bool.or_eq_false_iff, Bool.not_true, Bool.not_false, Bool.false_eq_true, false_iff, true_iff, bne_iff_ne, beq_iff_eq, ne_eq, iff_true, iff_false, not_and, not_or, List.length_append, List.length_drop, List.length_take, List.length_replicate, List.length_range] at *)
      all_goals (try omega)
      all_goals (first | rfl | skip)
noncomputable def shaPadsG : List AV → Option AV := ofRel fun args r => ∃ (n : Nat) (a : Nat) (b : Nat), args = [U8 n, U8 a, U8 b] ∧ (n < 256 ∧ a < 256 ∧ b < 256) ∧ r = B true
@[go_sem] theorem shaPadsG_eq (n : Nat) (a : Nat) (b : Nat) (hp : n < 256 ∧ a < 256 ∧ b < 256) : shaPadsG [U8 n, U8 a, U8 b] = some (B true) :=
  ofRel_eq ⟨n, a, b, rfl, hp, rfl⟩ (by rintro _ ⟨n', a', b', e, _, rfl⟩; simp [IL_injEq, castL_inj, Int.ofNat_inj] at e; first | (obtain ⟨rfl, rfl, rfl⟩ := e; rfl) | (obtain ⟨rfl, rfl, rfl⟩ := e; exact ⟨rfl, rfl⟩) | (simp [e]) | (simp_all))
theorem shaPads_good : Good cfg 7 shaPadsG := fun args r h => by
  obtain ⟨_, _, _, rfl, hp, rfl⟩ := ofRel_some h; exact ⟨shaPads_ok _ _ _ hp, rfl⟩


theorem shaPads_walk (n : Nat) (hn : n < 256) (a : Nat) (ha : a < 256) (b : Nat) (hb : b < 256) (W : World) :
    Calls Try.prog 7 #[.int .u8 (n : Int), .int .u8 (a : Int), .int .u8 (b : Int)] W fun e w => e = .returned (.bool true) ∧ Go.RowKit.Below W.heap.size W w :=
  law_calls (C := cfg) (wf_memOf (fun _ => rfl) _) (shaPads_ok n a b ⟨hn, ha, hb⟩) rfl fun i h1 h2 => by
    match i, h1 with
    | 0, _ => exact rep_lit _
    | 1, _ => exact rep_lit _
    | 2, _ => exact rep_lit _
end Go.Proofs.Ytnhdfmnmciminaa.Sh
