/-
  The contracts of the functions of layer 9 (sha).
-/
import Derived.Test.YtnhdfmnmciminaaShT2
import Derived.Test.YtnhdfmnmciminaaShT3
import Derived.Test.YtnhdfmnmciminaaShSpec
namespace Go.Proofs.Ytnhdfmnmciminaa.Sh
open Go Go.Ev
set_option linter.unusedSimpArgs false
set_option linter.unusedVariables false
set_option maxRecDepth 10000
set_option maxHeartbeats 4000000
theorem lt63 {a : Nat} (h : a < 4294967296) : a < 9223372036854775808 := Nat.lt_trans h (by decide)
theorem lt33 {a : Nat} (h : a < 4294967296) : a < 4294967296 + 4294967296 := Nat.lt_trans h (by decide)
theorem notI {a : Nat} (h : a < 4294967296) : IntKind.i64.wrap (4294967295 - (a : Int)) = ((4294967295 - a : Nat) : Int) := by
  rw [show (4294967295 : Int) - (a : Int) = ((4294967295 - a : Nat) : Int) by omega]; exact i64n _ (by omega)
theorem addI {a b : Nat} (ha : a < 4294967296) (hb : b < 4294967296) : IntKind.i64.wrap ((a : Int) + (b : Int)) = ((a + b : Nat) : Int) := i64n (a + b) (by omega)
theorem sum4 {r f e k w : Nat} (hr : r < 4294967296) (hf : f < 4294967296 + 4294967296) (he : e < 4294967296) (hk : k < 4294967296) (hw : w < 4294967296) :
    IntKind.i64.wrap ((r : Int) + (f : Int)) = ((r + f : Nat) : Int) ∧ IntKind.i64.wrap (((r + f : Nat) : Int) + (e : Int)) = ((r + f + e : Nat) : Int) ∧
    IntKind.i64.wrap (((r + f + e : Nat) : Int) + OfNat.ofNat k) = ((r + f + e + k : Nat) : Int) ∧ IntKind.i64.wrap (((r + f + e + k : Nat) : Int) + (w : Int)) = ((r + f + e + k + w : Nat) : Int) :=
  ⟨i64n _ (by omega), i64n _ (by omega), i64n (r + f + e + k) (by omega), i64n _ (by omega)⟩
theorem of80 {t : Nat} (h : decide ((t : Int) < 80) = true) : t + 1 ≤ 80 := by
  have := of_decide_eq_true h
  omega
theorem tm32 (n : Nat) : ((n : Nat) : Int).tmod 4294967296 = ((n % 4294967296 : Nat) : Int) := by
  rw [Int.tmod_eq_emod_of_nonneg (Int.natCast_nonneg _), Int.natCast_emod]; rfl
theorem ref_ok (l : List Nat) (hp : l.length ≤ 140737488355328 ∧ ∀ x ∈ l, x < 256) : FnOk cfg 20 [BL l] (.agg (IL .i64 (castL (wordsN l)))) := by
  refine fnOk_eval [(24, plain turnG)] (good_cons turn_good good_nil) mixed Try.func20 rfl rfl Try.ntmps20 (congrArg Array.toList Try.results20) (by simp) (by simp only [go_sem, Nat.reduceAdd, Nat.reduceLT, Nat.reduceBEq, Nat.reduceEqDiff, reduceIte, reduceCtorEq, Nat.reduceLeDiff, Int.reduceEq, Int.reduceLT, Int.reduceLE, Int.reduceSub, Int.reduceAdd, Int.reduceMul, Int.reduceNeg, Int.reduceToNat, Nat.reduceMul, Nat.reduceSub, Nat.reduceDiv, Int.reduceMod, Int.reduceDiv, Int.reduceTDiv, Int.reduceTMod]) (by simp only [go_sem, Nat.reduceAdd, Nat.reduceLT, Nat.reduceBEq, Nat.reduceEqDiff, reduceIte, reduceCtorEq, Nat.reduceLeDiff, Int.reduceEq, Int.reduceLT, Int.reduceLE, Int.reduceSub, Int.reduceAdd, Int.reduceMul, Int.reduceNeg, Int.reduceToNat, Nat.reduceMul, Nat.reduceSub, Nat.reduceDiv, Int.reduceMod, Int.reduceDiv, Int.reduceTDiv, Int.reduceTMod]) ?_
  simp only [go_sem, Nat.reduceAdd, Nat.reduceLT, Nat.reduceBEq, Nat.reduceEqDiff, reduceIte, reduceCtorEq, Nat.reduceLeDiff, Int.reduceEq, Int.reduceLT, Int.reduceLE, Int.reduceSub, Int.reduceAdd, Int.reduceMul, Int.reduceNeg, Int.reduceToNat, Nat.reduceMul, Nat.reduceSub, Nat.reduceDiv, Int.reduceMod, Int.reduceDiv, Int.reduceTDiv, Int.reduceTMod]
  repeat' (first
    | ((with_reducible refine split_guard ?_ ?_) <;> intro hb <;> simp only [hb, go_sem, Nat.reduceAdd, Nat.reduceLT, Nat.reduceBEq, Nat.reduceEqDiff, reduceIte, reduceCtorEq, Nat.reduceLeDiff, Int.reduceEq, Int.reduceLT, Int.reduceLE, Int.reduceSub, Int.reduceAdd, Int.reduceMul, Int.reduceNeg, Int.reduceToNat, Nat.reduceMul, Nat.reduceSub, Nat.reduceDiv, Int.reduceMod, Int.reduceDiv, Int.reduceTDiv, Int.reduceTMod])
    | ((with_reducible refine split_cond ?_ ?_) <;> intro hb <;> simp only [hb, go_sem, Nat.reduceAdd, Nat.reduceLT, Nat.reduceBEq, Nat.reduceEqDiff, reduceIte, reduceCtorEq, Nat.reduceLeDiff, Int.reduceEq, Int.reduceLT, Int.reduceLE, Int.reduceSub, Int.reduceAdd, Int.reduceMul, Int.reduceNeg, Int.reduceToNat, Nat.reduceMul, Nat.reduceSub, Nat.reduceDiv, Int.reduceMod, Int.reduceDiv, Int.reduceTDiv, Int.reduceTMod])
    | ((with_reducible refine split_guardY ?_ ?_) <;> intro hb <;> simp only [hb, go_sem, Nat.reduceAdd, Nat.reduceLT, Nat.reduceBEq, Nat.reduceEqDiff, reduceIte, reduceCtorEq, Nat.reduceLeDiff, Int.reduceEq, Int.reduceLT, Int.reduceLE, Int.reduceSub, Int.reduceAdd, Int.reduceMul, Int.reduceNeg, Int.reduceToNat, Nat.reduceMul, Nat.reduceSub, Nat.reduceDiv, Int.reduceMod, Int.reduceDiv, Int.reduceTDiv, Int.reduceTMod])
    | ((with_reducible refine and_orderN (by kernel_rfl) ?_ ?_) <;> (try simp only [go_sem, Nat.reduceAdd, Nat.reduceLT, Nat.reduceBEq, Nat.reduceEqDiff, reduceIte, reduceCtorEq, Nat.reduceLeDiff, Int.reduceEq, Int.reduceLT, Int.reduceLE, Int.reduceSub, Int.reduceAdd, Int.reduceMul, Int.reduceNeg, Int.reduceToNat, Nat.reduceMul, Nat.reduceSub, Nat.reduceDiv, Int.reduceMod, Int.reduceDiv, Int.reduceTDiv, Int.reduceTMod]))
    | ((with_reducible refine (and_orderN (A := True) (by kernel_rfl) ?_ trivial).1) <;> (try simp only [go_sem, Nat.reduceAdd, Nat.reduceLT, Nat.reduceBEq, Nat.reduceEqDiff, reduceIte, reduceCtorEq, Nat.reduceLeDiff, Int.reduceEq, Int.reduceLT, Int.reduceLE, Int.reduceSub, Int.reduceAdd, Int.reduceMul, Int.reduceNeg, Int.reduceToNat, Nat.reduceMul, Nat.reduceSub, Nat.reduceDiv, Int.reduceMod, Int.reduceDiv, Int.reduceTDiv, Int.reduceTMod]))
    | (with_reducible exact (show bitOf _ _ _ = true by decide +kernel))
    | (with_reducible refine and_nomen ?_ ?_)
    | (with_reducible refine nomen_p (by first | rfl | simp only [go_sem, Nat.reduceBEq, Nat.reduceLeDiff, Nat.reduceEqDiff, reduceCtorEq, reduceIte]) ?_)
    | (with_reducible refine nomen_s (by first | rfl | simp only [go_sem, Nat.reduceBEq, Nat.reduceLeDiff, Nat.reduceEqDiff, reduceCtorEq, reduceIte]) ?_)
    | (with_reducible refine nomen_setB0 _ _ _ ?_)
    | (with_reducible refine nomen_p0 (by first | rfl | simp only [go_sem, Nat.reduceBEq, Nat.reduceLeDiff, Nat.reduceEqDiff, reduceCtorEq, reduceIte]) ?_)
    | (with_reducible refine nomen_j ?_)
    | (with_reducible exact nomen_i (by first | rfl | simp only [go_sem, Nat.reduceBEq, Nat.reduceLeDiff, Nat.reduceEqDiff, reduceCtorEq, reduceIte]))
    | (with_reducible exact nomen_iB (by first | rfl | simp only [go_sem, Nat.reduceBEq, Nat.reduceLeDiff, Nat.reduceEqDiff, reduceCtorEq, reduceIte]) (by first | rfl | simp only [go_sem, Nat.reduceBEq, Nat.reduceLeDiff, Nat.reduceEqDiff, reduceCtorEq, reduceIte]) (by decide))
    | (with_reducible exact nomen_b)
    | (with_reducible refine leX_nil (by simp only [go_sem, Nat.reduceBEq, Nat.reduceLeDiff, Nat.reduceEqDiff, reduceCtorEq, reduceIte]) ?_)
    | ((with_reducible refine leX_put ?_ ?_) <;> (try simp only [go_sem, Nat.reduceAdd, Nat.reduceLT, Nat.reduceBEq, Nat.reduceEqDiff, reduceIte, reduceCtorEq, Nat.reduceLeDiff, Int.reduceEq, Int.reduceLT, Int.reduceLE, Int.reduceSub, Int.reduceAdd, Int.reduceMul, Int.reduceNeg, Int.reduceToNat, Nat.reduceMul, Nat.reduceSub, Nat.reduceDiv, Int.reduceMod, Int.reduceDiv, Int.reduceTDiv, Int.reduceTMod]))
    | (with_reducible refine leX_boxnil ?_)
    | ((with_reducible refine leX_box ?_ ?_) <;> (try simp only [go_sem, Nat.reduceAdd, Nat.reduceLT, Nat.reduceBEq, Nat.reduceEqDiff, reduceIte, reduceCtorEq, Nat.reduceLeDiff, Int.reduceEq, Int.reduceLT, Int.reduceLE, Int.reduceSub, Int.reduceAdd, Int.reduceMul, Int.reduceNeg, Int.reduceToNat, Nat.reduceMul, Nat.reduceSub, Nat.reduceDiv, Int.reduceMod, Int.reduceDiv, Int.reduceTDiv, Int.reduceTMod]))
    | (with_reducible refine leX_boxnone ?_)
    | (with_reducible exact leX_base rfl)
    | (with_reducible refine leX_junkF ?_)
    | (with_reducible exact kp_refl)
    | (with_reducible refine kp_fx rfl (by first | exact Or.inl rfl | (refine Or.inr ?_; simp only [go_sem, Nat.reduceBEq, Nat.reduceLeDiff, Nat.reduceEqDiff, reduceCtorEq, reduceIte])) ?_)
    | (with_reducible refine kp_put rfl ?_)
    | (with_reducible refine kp_setB (by first | exact Or.inl rfl | (refine Or.inr ?_; simp only [go_sem, Nat.reduceBEq, Nat.reduceLeDiff, Nat.reduceEqDiff, reduceCtorEq, reduceIte])) ?_)
    | (with_reducible refine kp_junkF (by decide) ?_)
    | (with_reducible refine fx_put (by first | rfl | simp only [go_sem, Nat.reduceBEq, Nat.reduceLeDiff, Nat.reduceEqDiff, reduceCtorEq, reduceIte]) ?_)
    | (with_reducible refine fx_setB (by first | rfl | simp only [go_sem, Nat.reduceBEq, Nat.reduceLeDiff, Nat.reduceEqDiff, reduceCtorEq, reduceIte]) ?_)
    | (with_reducible refine fx_setN ?_)
    | (with_reducible refine fx_junkF ?_)
    | (with_reducible exact fx_init (by first | rfl | simp only [go_sem, Nat.reduceBEq, Nat.reduceLeDiff, Nat.reduceEqDiff, reduceCtorEq, reduceIte]))
    | (with_reducible exact fx_initB (by first | rfl | simp only [go_sem, Nat.reduceBEq, Nat.reduceLeDiff, Nat.reduceEqDiff, reduceCtorEq, reduceIte]) (by first | rfl | simp only [go_sem, Nat.reduceBEq, Nat.reduceLeDiff, Nat.reduceEqDiff, reduceCtorEq, reduceIte]) rfl (by decide) (by decide))
    | (with_reducible exact fx_base)
    | (with_reducible refine And.intro ?_ ?_))
  all_goals (try simp only [Bool.not_eq_true', Bool.not_eq_false', Bool.and_eq_true, Bool.and_eq_false_iff, decide_eq_true_eq, decide_eq_false_iff_not, Bool.or_eq_true, Bool.or_eq_false_iff, Bool.not_true, Bool.not_false, Bool.false_eq_true, false_iff, true_iff, bne_iff_ne, beq_iff_eq, ne_eq, iff_true, iff_false, not_and, not_or, List.length_append, List.length_drop, List.length_take, List.length_replicate, List.length_range] at *)
  all_goals (try omega)
  refine loop_at (α := Nat) 3 (fun j => [(3, .c (.sl 3 (l.length + 1 + j) 1 false))]) (fun j => [(3, some ⟨IL .u8 (castL (l ++ [128] ++ List.replicate j 0)), 0, false, false⟩), (25, none)]) (fun j => j ≤ zpad l.length) (fun j => zpad l.length - j) 0 (le_sw [(3, 25)] rfl rfl ?_) ?_ ?_
  · (try dsimp only)
    simp only [go_sem, Nat.reduceAdd, Nat.reduceLT, Nat.reduceBEq, Nat.reduceEqDiff, reduceIte, reduceCtorEq, Nat.reduceLeDiff, Int.reduceEq, Int.reduceLT, Int.reduceLE, Int.reduceSub, Int.reduceAdd, Int.reduceMul, Int.reduceNeg, Int.reduceToNat, Nat.reduceMul, Nat.reduceSub, Nat.reduceDiv, Int.reduceMod, Int.reduceDiv, Int.reduceTDiv, Int.reduceTMod]
    repeat' (first
      | ((with_reducible refine split_guard ?_ ?_) <;> intro hb <;> simp only [hb, go_sem, Nat.reduceAdd, Nat.reduceLT, Nat.reduceBEq, Nat.reduceEqDiff, reduceIte, reduceCtorEq, Nat.reduceLeDiff, Int.reduceEq, Int.reduceLT, Int.reduceLE, Int.reduceSub, Int.reduceAdd, Int.reduceMul, Int.reduceNeg, Int.reduceToNat, Nat.reduceMul, Nat.reduceSub, Nat.reduceDiv, Int.reduceMod, Int.reduceDiv, Int.reduceTDiv, Int.reduceTMod])
      | ((with_reducible refine split_cond ?_ ?_) <;> intro hb <;> simp only [hb, go_sem, Nat.reduceAdd, Nat.reduceLT, Nat.reduceBEq, Nat.reduceEqDiff, reduceIte, reduceCtorEq, Nat.reduceLeDiff, Int.reduceEq, Int.reduceLT, Int.reduceLE, Int.reduceSub, Int.reduceAdd, Int.reduceMul, Int.reduceNeg, Int.reduceToNat, Nat.reduceMul, Nat.reduceSub, Nat.reduceDiv, Int.reduceMod, Int.reduceDiv, Int.reduceTDiv, Int.reduceTMod])
      | ((with_reducible refine split_guardY ?_ ?_) <;> intro hb <;> simp only [hb, go_sem, Nat.reduceAdd, Nat.reduceLT, Nat.reduceBEq, Nat.reduceEqDiff, reduceIte, reduceCtorEq, Nat.reduceLeDiff, Int.reduceEq, Int.reduceLT, Int.reduceLE, Int.reduceSub, Int.reduceAdd, Int.reduceMul, Int.reduceNeg, Int.reduceToNat, Nat.reduceMul, Nat.reduceSub, Nat.reduceDiv, Int.reduceMod, Int.reduceDiv, Int.reduceTDiv, Int.reduceTMod])
      | ((with_reducible refine and_orderN (by kernel_rfl) ?_ ?_) <;> (try simp only [go_sem, Nat.reduceAdd, Nat.reduceLT, Nat.reduceBEq, Nat.reduceEqDiff, reduceIte, reduceCtorEq, Nat.reduceLeDiff, Int.reduceEq, Int.reduceLT, Int.reduceLE, Int.reduceSub, Int.reduceAdd, Int.reduceMul, Int.reduceNeg, Int.reduceToNat, Nat.reduceMul, Nat.reduceSub, Nat.reduceDiv, Int.reduceMod, Int.reduceDiv, Int.reduceTDiv, Int.reduceTMod]))
      | ((with_reducible refine (and_orderN (A := True) (by kernel_rfl) ?_ trivial).1) <;> (try simp only [go_sem, Nat.reduceAdd, Nat.reduceLT, Nat.reduceBEq, Nat.reduceEqDiff, reduceIte, reduceCtorEq, Nat.reduceLeDiff, Int.reduceEq, Int.reduceLT, Int.reduceLE, Int.reduceSub, Int.reduceAdd, Int.reduceMul, Int.reduceNeg, Int.reduceToNat, Nat.reduceMul, Nat.reduceSub, Nat.reduceDiv, Int.reduceMod, Int.reduceDiv, Int.reduceTDiv, Int.reduceTMod]))
      | (with_reducible exact (show bitOf _ _ _ = true by decide +kernel))
      | (with_reducible refine and_nomen ?_ ?_)
      | (with_reducible refine nomen_p (by first | rfl | simp only [go_sem, Nat.reduceBEq, Nat.reduceLeDiff, Nat.reduceEqDiff, reduceCtorEq, reduceIte]) ?_)
      | (with_reducible refine nomen_s (by first | rfl | simp only [go_sem, Nat.reduceBEq, Nat.reduceLeDiff, Nat.reduceEqDiff, reduceCtorEq, reduceIte]) ?_)
      | (with_reducible refine nomen_setB0 _ _ _ ?_)
      | (with_reducible refine nomen_p0 (by first | rfl | simp only [go_sem, Nat.reduceBEq, Nat.reduceLeDiff, Nat.reduceEqDiff, reduceCtorEq, reduceIte]) ?_)
      | (with_reducible refine nomen_j ?_)
      | (with_reducible exact nomen_i (by first | rfl | simp only [go_sem, Nat.reduceBEq, Nat.reduceLeDiff, Nat.reduceEqDiff, reduceCtorEq, reduceIte]))
      | (with_reducible exact nomen_iB (by first | rfl | simp only [go_sem, Nat.reduceBEq, Nat.reduceLeDiff, Nat.reduceEqDiff, reduceCtorEq, reduceIte]) (by first | rfl | simp only [go_sem, Nat.reduceBEq, Nat.reduceLeDiff, Nat.reduceEqDiff, reduceCtorEq, reduceIte]) (by decide))
      | (with_reducible exact nomen_b)
      | (with_reducible refine leX_nil (by simp only [go_sem, Nat.reduceBEq, Nat.reduceLeDiff, Nat.reduceEqDiff, reduceCtorEq, reduceIte]) ?_)
      | ((with_reducible refine leX_put ?_ ?_) <;> (try simp only [go_sem, Nat.reduceAdd, Nat.reduceLT, Nat.reduceBEq, Nat.reduceEqDiff, reduceIte, reduceCtorEq, Nat.reduceLeDiff, Int.reduceEq, Int.reduceLT, Int.reduceLE, Int.reduceSub, Int.reduceAdd, Int.reduceMul, Int.reduceNeg, Int.reduceToNat, Nat.reduceMul, Nat.reduceSub, Nat.reduceDiv, Int.reduceMod, Int.reduceDiv, Int.reduceTDiv, Int.reduceTMod]))
      | (with_reducible refine leX_boxnil ?_)
      | ((with_reducible refine leX_box ?_ ?_) <;> (try simp only [go_sem, Nat.reduceAdd, Nat.reduceLT, Nat.reduceBEq, Nat.reduceEqDiff, reduceIte, reduceCtorEq, Nat.reduceLeDiff, Int.reduceEq, Int.reduceLT, Int.reduceLE, Int.reduceSub, Int.reduceAdd, Int.reduceMul, Int.reduceNeg, Int.reduceToNat, Nat.reduceMul, Nat.reduceSub, Nat.reduceDiv, Int.reduceMod, Int.reduceDiv, Int.reduceTDiv, Int.reduceTMod]))
      | (with_reducible refine leX_boxnone ?_)
      | (with_reducible exact leX_base rfl)
      | (with_reducible refine leX_junkF ?_)
      | (with_reducible exact kp_refl)
      | (with_reducible refine kp_fx rfl (by first | exact Or.inl rfl | (refine Or.inr ?_; simp only [go_sem, Nat.reduceBEq, Nat.reduceLeDiff, Nat.reduceEqDiff, reduceCtorEq, reduceIte])) ?_)
      | (with_reducible refine kp_put rfl ?_)
      | (with_reducible refine kp_setB (by first | exact Or.inl rfl | (refine Or.inr ?_; simp only [go_sem, Nat.reduceBEq, Nat.reduceLeDiff, Nat.reduceEqDiff, reduceCtorEq, reduceIte])) ?_)
      | (with_reducible refine kp_junkF (by decide) ?_)
      | (with_reducible refine fx_put (by first | rfl | simp only [go_sem, Nat.reduceBEq, Nat.reduceLeDiff, Nat.reduceEqDiff, reduceCtorEq, reduceIte]) ?_)
      | (with_reducible refine fx_setB (by first | rfl | simp only [go_sem, Nat.reduceBEq, Nat.reduceLeDiff, Nat.reduceEqDiff, reduceCtorEq, reduceIte]) ?_)
      | (with_reducible refine fx_setN ?_)
      | (with_reducible refine fx_junkF ?_)
      | (with_reducible exact fx_init (by first | rfl | simp only [go_sem, Nat.reduceBEq, Nat.reduceLeDiff, Nat.reduceEqDiff, reduceCtorEq, reduceIte]))
      | (with_reducible exact fx_initB (by first | rfl | simp only [go_sem, Nat.reduceBEq, Nat.reduceLeDiff, Nat.reduceEqDiff, reduceCtorEq, reduceIte]) (by first | rfl | simp only [go_sem, Nat.reduceBEq, Nat.reduceLeDiff, Nat.reduceEqDiff, reduceCtorEq, reduceIte]) rfl (by decide) (by decide))
      | (with_reducible exact fx_base)
      | (with_reducible refine And.intro ?_ ?_))
    all_goals first
      | omega
      | (simp [castL]; done)
      | skip
  · (try dsimp only)
    first | omega | exact ⟨by omega, by omega⟩ | skip
  · intro j hk
    try dsimp only at hk
    have hz := zp l.length j hk
    have hn : zpad l.length < 64 := by unfold zpad; omega
    try dsimp only
    simp only [go_sem, Nat.reduceAdd, Nat.reduceLT, Nat.reduceBEq, Nat.reduceEqDiff, reduceIte, reduceCtorEq, Nat.reduceLeDiff, Int.reduceEq, Int.reduceLT, Int.reduceLE, Int.reduceSub, Int.reduceAdd, Int.reduceMul, Int.reduceNeg, Int.reduceToNat, Nat.reduceMul, Nat.reduceSub, Nat.reduceDiv, Int.reduceMod, Int.reduceDiv, Int.reduceTDiv, Int.reduceTMod]
    repeat' (first
      | ((with_reducible refine split_guard ?_ ?_) <;> intro hb <;> simp only [hb, go_sem, Nat.reduceAdd, Nat.reduceLT, Nat.reduceBEq, Nat.reduceEqDiff, reduceIte, reduceCtorEq, Nat.reduceLeDiff, Int.reduceEq, Int.reduceLT, Int.reduceLE, Int.reduceSub, Int.reduceAdd, Int.reduceMul, Int.reduceNeg, Int.reduceToNat, Nat.reduceMul, Nat.reduceSub, Nat.reduceDiv, Int.reduceMod, Int.reduceDiv, Int.reduceTDiv, Int.reduceTMod])
      | ((with_reducible refine split_cond ?_ ?_) <;> intro hb <;> simp only [hb, go_sem, Nat.reduceAdd, Nat.reduceLT, Nat.reduceBEq, Nat.reduceEqDiff, reduceIte, reduceCtorEq, Nat.reduceLeDiff, Int.reduceEq, Int.reduceLT, Int.reduceLE, Int.reduceSub, Int.reduceAdd, Int.reduceMul, Int.reduceNeg, Int.reduceToNat, Nat.reduceMul, Nat.reduceSub, Nat.reduceDiv, Int.reduceMod, Int.reduceDiv, Int.reduceTDiv, Int.reduceTMod])
      | ((with_reducible refine split_guardY ?_ ?_) <;> intro hb <;> simp only [hb, go_sem, Nat.reduceAdd, Nat.reduceLT, Nat.reduceBEq, Nat.reduceEqDiff, reduceIte, reduceCtorEq, Nat.reduceLeDiff, Int.reduceEq, Int.reduceLT, Int.reduceLE, Int.reduceSub, Int.reduceAdd, Int.reduceMul, Int.reduceNeg, Int.reduceToNat, Nat.reduceMul, Nat.reduceSub, Nat.reduceDiv, Int.reduceMod, Int.reduceDiv, Int.reduceTDiv, Int.reduceTMod])
      | ((with_reducible refine and_orderN (by kernel_rfl) ?_ ?_) <;> (try simp only [go_sem, Nat.reduceAdd, Nat.reduceLT, Nat.reduceBEq, Nat.reduceEqDiff, reduceIte, reduceCtorEq, Nat.reduceLeDiff, Int.reduceEq, Int.reduceLT, Int.reduceLE, Int.reduceSub, Int.reduceAdd, Int.reduceMul, Int.reduceNeg, Int.reduceToNat, Nat.reduceMul, Nat.reduceSub, Nat.reduceDiv, Int.reduceMod, Int.reduceDiv, Int.reduceTDiv, Int.reduceTMod]))
      | ((with_reducible refine (and_orderN (A := True) (by kernel_rfl) ?_ trivial).1) <;> (try simp only [go_sem, Nat.reduceAdd, Nat.reduceLT, Nat.reduceBEq, Nat.reduceEqDiff, reduceIte, reduceCtorEq, Nat.reduceLeDiff, Int.reduceEq, Int.reduceLT, Int.reduceLE, Int.reduceSub, Int.reduceAdd, Int.reduceMul, Int.reduceNeg, Int.reduceToNat, Nat.reduceMul, Nat.reduceSub, Nat.reduceDiv, Int.reduceMod, Int.reduceDiv, Int.reduceTDiv, Int.reduceTMod]))
      | (with_reducible exact (show bitOf _ _ _ = true by decide +kernel))
      | (with_reducible refine and_nomen ?_ ?_)
      | (with_reducible refine nomen_p (by first | rfl | simp only [go_sem, Nat.reduceBEq, Nat.reduceLeDiff, Nat.reduceEqDiff, reduceCtorEq, reduceIte]) ?_)
      | (with_reducible refine nomen_s (by first | rfl | simp only [go_sem, Nat.reduceBEq, Nat.reduceLeDiff, Nat.reduceEqDiff, reduceCtorEq, reduceIte]) ?_)
      | (with_reducible refine nomen_setB0 _ _ _ ?_)
      | (with_reducible refine nomen_p0 (by first | rfl | simp only [go_sem, Nat.reduceBEq, Nat.reduceLeDiff, Nat.reduceEqDiff, reduceCtorEq, reduceIte]) ?_)
      | (with_reducible refine nomen_j ?_)
      | (with_reducible exact nomen_i (by first | rfl | simp only [go_sem, Nat.reduceBEq, Nat.reduceLeDiff, Nat.reduceEqDiff, reduceCtorEq, reduceIte]))
      | (with_reducible exact nomen_iB (by first | rfl | simp only [go_sem, Nat.reduceBEq, Nat.reduceLeDiff, Nat.reduceEqDiff, reduceCtorEq, reduceIte]) (by first | rfl | simp only [go_sem, Nat.reduceBEq, Nat.reduceLeDiff, Nat.reduceEqDiff, reduceCtorEq, reduceIte]) (by decide))
      | (with_reducible exact nomen_b)
      | (with_reducible refine leX_nil (by simp only [go_sem, Nat.reduceBEq, Nat.reduceLeDiff, Nat.reduceEqDiff, reduceCtorEq, reduceIte]) ?_)
      | ((with_reducible refine leX_put ?_ ?_) <;> (try simp only [go_sem, Nat.reduceAdd, Nat.reduceLT, Nat.reduceBEq, Nat.reduceEqDiff, reduceIte, reduceCtorEq, Nat.reduceLeDiff, Int.reduceEq, Int.reduceLT, Int.reduceLE, Int.reduceSub, Int.reduceAdd, Int.reduceMul, Int.reduceNeg, Int.reduceToNat, Nat.reduceMul, Nat.reduceSub, Nat.reduceDiv, Int.reduceMod, Int.reduceDiv, Int.reduceTDiv, Int.reduceTMod]))
      | (with_reducible refine leX_boxnil ?_)
      | ((with_reducible refine leX_box ?_ ?_) <;> (try simp only [go_sem, Nat.reduceAdd, Nat.reduceLT, Nat.reduceBEq, Nat.reduceEqDiff, reduceIte, reduceCtorEq, Nat.reduceLeDiff, Int.reduceEq, Int.reduceLT, Int.reduceLE, Int.reduceSub, Int.reduceAdd, Int.reduceMul, Int.reduceNeg, Int.reduceToNat, Nat.reduceMul, Nat.reduceSub, Nat.reduceDiv, Int.reduceMod, Int.reduceDiv, Int.reduceTDiv, Int.reduceTMod]))
      | (with_reducible refine leX_boxnone ?_)
      | (with_reducible exact leX_base rfl)
      | (with_reducible refine leX_junkF ?_)
      | (with_reducible exact kp_refl)
      | (with_reducible refine kp_fx rfl (by first | exact Or.inl rfl | (refine Or.inr ?_; simp only [go_sem, Nat.reduceBEq, Nat.reduceLeDiff, Nat.reduceEqDiff, reduceCtorEq, reduceIte])) ?_)
      | (with_reducible refine kp_put rfl ?_)
      | (with_reducible refine kp_setB (by first | exact Or.inl rfl | (refine Or.inr ?_; simp only [go_sem, Nat.reduceBEq, Nat.reduceLeDiff, Nat.reduceEqDiff, reduceCtorEq, reduceIte])) ?_)
      | (with_reducible refine kp_junkF (by decide) ?_)
      | (with_reducible refine fx_put (by first | rfl | simp only [go_sem, Nat.reduceBEq, Nat.reduceLeDiff, Nat.reduceEqDiff, reduceCtorEq, reduceIte]) ?_)
      | (with_reducible refine fx_setB (by first | rfl | simp only [go_sem, Nat.reduceBEq, Nat.reduceLeDiff, Nat.reduceEqDiff, reduceCtorEq, reduceIte]) ?_)
      | (with_reducible refine fx_setN ?_)
      | (with_reducible refine fx_junkF ?_)
      | (with_reducible exact fx_init (by first | rfl | simp only [go_sem, Nat.reduceBEq, Nat.reduceLeDiff, Nat.reduceEqDiff, reduceCtorEq, reduceIte]))
      | (with_reducible exact fx_initB (by first | rfl | simp only [go_sem, Nat.reduceBEq, Nat.reduceLeDiff, Nat.reduceEqDiff, reduceCtorEq, reduceIte]) (by first | rfl | simp only [go_sem, Nat.reduceBEq, Nat.reduceLeDiff, Nat.reduceEqDiff, reduceCtorEq, reduceIte]) rfl (by decide) (by decide))
      | (with_reducible exact fx_base)
      | ((with_reducible refine again_of (j + 1) (le_sw [(3, 32)] rfl rfl ?_) ?_ ?_) <;> (try dsimp only) <;> (try simp only [go_sem, Nat.reduceAdd, Nat.reduceLT, Nat.reduceBEq, Nat.reduceEqDiff, reduceIte, reduceCtorEq, Nat.reduceLeDiff, Int.reduceEq, Int.reduceLT, Int.reduceLE, Int.reduceSub, Int.reduceAdd, Int.reduceMul, Int.reduceNeg, Int.reduceToNat, Nat.reduceMul, Nat.reduceSub, Nat.reduceDiv, Int.reduceMod, Int.reduceDiv, Int.reduceTDiv, Int.reduceTMod]))
      | (with_reducible refine And.intro ?_ ?_))
    all_goals (try simp only [Bool.not_eq_true', Bool.not_eq_false', Bool.and_eq_true, Bool.and_eq_false_iff, decide_eq_true_eq, decide_eq_false_iff_not, Bool.or_eq_true, Bool.or_eq_false_iff, Bool.not_true, Bool.not_false, Bool.false_eq_true, false_iff, true_iff, bne_iff_ne, beq_iff_eq, ne_eq, iff_true, iff_false, not_and, not_or] at *)
    all_goals first
      | omega
      | (have hj : ¬ j = zpad l.length := fun e => hb (hz.2 e)
         clear hz hb
         omega)
      | (refine leafSl ?_; omega)
      | (rw [List.take_of_length_le (by simp <;> omega), show (0 : Int) = ((0 : Nat) : Int) from rfl, castL_snoc, List.append_assoc _ (List.replicate j 0), ← List.replicate_succ']; done)
      | skip
    have hj : j = zpad l.length := hz.1 hb
    subst hj
    refine loop_at (α := Nat) 3 (fun j => [(3, .c (.sl 3 (l.length + 1 + zpad l.length + j) 1 false)), (4, I (7 - (j : Int)))]) (fun j => [(3, some ⟨IL .u8 (castL (l ++ [128] ++ List.replicate (zpad l.length) 0 ++ (List.range j).map (lenB l.length))), 0, false, false⟩), (25, none)]) (fun j => j ≤ 8) (fun j => 8 - j) 0 (le_sw [] rfl rfl ?_) ?_ ?_
    · (try dsimp only)
      simp only [go_sem, Nat.reduceAdd, Nat.reduceLT, Nat.reduceBEq, Nat.reduceEqDiff, reduceIte, reduceCtorEq, Nat.reduceLeDiff, Int.reduceEq, Int.reduceLT, Int.reduceLE, Int.reduceSub, Int.reduceAdd, Int.reduceMul, Int.reduceNeg, Int.reduceToNat, Nat.reduceMul, Nat.reduceSub, Nat.reduceDiv, Int.reduceMod, Int.reduceDiv, Int.reduceTDiv, Int.reduceTMod]
      repeat' (first
        | ((with_reducible refine split_guard ?_ ?_) <;> intro hb <;> simp only [hb, go_sem, Nat.reduceAdd, Nat.reduceLT, Nat.reduceBEq, Nat.reduceEqDiff, reduceIte, reduceCtorEq, Nat.reduceLeDiff, Int.reduceEq, Int.reduceLT, Int.reduceLE, Int.reduceSub, Int.reduceAdd, Int.reduceMul, Int.reduceNeg, Int.reduceToNat, Nat.reduceMul, Nat.reduceSub, Nat.reduceDiv, Int.reduceMod, Int.reduceDiv, Int.reduceTDiv, Int.reduceTMod])
        | ((with_reducible refine split_cond ?_ ?_) <;> intro hb <;> simp only [hb, go_sem, Nat.reduceAdd, Nat.reduceLT, Nat.reduceBEq, Nat.reduceEqDiff, reduceIte, reduceCtorEq, Nat.reduceLeDiff, Int.reduceEq, Int.reduceLT, Int.reduceLE, Int.reduceSub, Int.reduceAdd, Int.reduceMul, Int.reduceNeg, Int.reduceToNat, Nat.reduceMul, Nat.reduceSub, Nat.reduceDiv, Int.reduceMod, Int.reduceDiv, Int.reduceTDiv, Int.reduceTMod])
        | ((with_reducible refine split_guardY ?_ ?_) <;> intro hb <;> simp only [hb, go_sem, Nat.reduceAdd, Nat.reduceLT, Nat.reduceBEq, Nat.reduceEqDiff, reduceIte, reduceCtorEq, Nat.reduceLeDiff, Int.reduceEq, Int.reduceLT, Int.reduceLE, Int.reduceSub, Int.reduceAdd, Int.reduceMul, Int.reduceNeg, Int.reduceToNat, Nat.reduceMul, Nat.reduceSub, Nat.reduceDiv, Int.reduceMod, Int.reduceDiv, Int.reduceTDiv, Int.reduceTMod])
        | ((with_reducible refine and_orderN (by kernel_rfl) ?_ ?_) <;> (try simp only [go_sem, Nat.reduceAdd, Nat.reduceLT, Nat.reduceBEq, Nat.reduceEqDiff, reduceIte, reduceCtorEq, Nat.reduceLeDiff, Int.reduceEq, Int.reduceLT, Int.reduceLE, Int.reduceSub, Int.reduceAdd, Int.reduceMul, Int.reduceNeg, Int.reduceToNat, Nat.reduceMul, Nat.reduceSub, Nat.reduceDiv, Int.reduceMod, Int.reduceDiv, Int.reduceTDiv, Int.reduceTMod]))
        | ((with_reducible refine (and_orderN (A := True) (by kernel_rfl) ?_ trivial).1) <;> (try simp only [go_sem, Nat.reduceAdd, Nat.reduceLT, Nat.reduceBEq, Nat.reduceEqDiff, reduceIte, reduceCtorEq, Nat.reduceLeDiff, Int.reduceEq, Int.reduceLT, Int.reduceLE, Int.reduceSub, Int.reduceAdd, Int.reduceMul, Int.reduceNeg, Int.reduceToNat, Nat.reduceMul, Nat.reduceSub, Nat.reduceDiv, Int.reduceMod, Int.reduceDiv, Int.reduceTDiv, Int.reduceTMod]))
        | (with_reducible exact (show bitOf _ _ _ = true by decide +kernel))
        | (with_reducible refine and_nomen ?_ ?_)
        | (with_reducible refine nomen_p (by first | rfl | simp only [go_sem, Nat.reduceBEq, Nat.reduceLeDiff, Nat.reduceEqDiff, reduceCtorEq, reduceIte]) ?_)
        | (with_reducible refine nomen_s (by first | rfl | simp only [go_sem, Nat.reduceBEq, Nat.reduceLeDiff, Nat.reduceEqDiff, reduceCtorEq, reduceIte]) ?_)
        | (with_reducible refine nomen_setB0 _ _ _ ?_)
        | (with_reducible refine nomen_p0 (by first | rfl | simp only [go_sem, Nat.reduceBEq, Nat.reduceLeDiff, Nat.reduceEqDiff, reduceCtorEq, reduceIte]) ?_)
        | (with_reducible refine nomen_j ?_)
        | (with_reducible exact nomen_i (by first | rfl | simp only [go_sem, Nat.reduceBEq, Nat.reduceLeDiff, Nat.reduceEqDiff, reduceCtorEq, reduceIte]))
        | (with_reducible exact nomen_iB (by first | rfl | simp only [go_sem, Nat.reduceBEq, Nat.reduceLeDiff, Nat.reduceEqDiff, reduceCtorEq, reduceIte]) (by first | rfl | simp only [go_sem, Nat.reduceBEq, Nat.reduceLeDiff, Nat.reduceEqDiff, reduceCtorEq, reduceIte]) (by decide))
        | (with_reducible exact nomen_b)
        | (with_reducible refine leX_nil (by simp only [go_sem, Nat.reduceBEq, Nat.reduceLeDiff, Nat.reduceEqDiff, reduceCtorEq, reduceIte]) ?_)
        | ((with_reducible refine leX_put ?_ ?_) <;> (try simp only [go_sem, Nat.reduceAdd, Nat.reduceLT, Nat.reduceBEq, Nat.reduceEqDiff, reduceIte, reduceCtorEq, Nat.reduceLeDiff, Int.reduceEq, Int.reduceLT, Int.reduceLE, Int.reduceSub, Int.reduceAdd, Int.reduceMul, Int.reduceNeg, Int.reduceToNat, Nat.reduceMul, Nat.reduceSub, Nat.reduceDiv, Int.reduceMod, Int.reduceDiv, Int.reduceTDiv, Int.reduceTMod]))
        | (with_reducible refine leX_boxnil ?_)
        | ((with_reducible refine leX_box ?_ ?_) <;> (try simp only [go_sem, Nat.reduceAdd, Nat.reduceLT, Nat.reduceBEq, Nat.reduceEqDiff, reduceIte, reduceCtorEq, Nat.reduceLeDiff, Int.reduceEq, Int.reduceLT, Int.reduceLE, Int.reduceSub, Int.reduceAdd, Int.reduceMul, Int.reduceNeg, Int.reduceToNat, Nat.reduceMul, Nat.reduceSub, Nat.reduceDiv, Int.reduceMod, Int.reduceDiv, Int.reduceTDiv, Int.reduceTMod]))
        | (with_reducible refine leX_boxnone ?_)
        | (with_reducible exact leX_base rfl)
        | (with_reducible refine leX_junkF ?_)
        | (with_reducible exact kp_refl)
        | (with_reducible refine kp_fx rfl (by first | exact Or.inl rfl | (refine Or.inr ?_; simp only [go_sem, Nat.reduceBEq, Nat.reduceLeDiff, Nat.reduceEqDiff, reduceCtorEq, reduceIte])) ?_)
        | (with_reducible refine kp_put rfl ?_)
        | (with_reducible refine kp_setB (by first | exact Or.inl rfl | (refine Or.inr ?_; simp only [go_sem, Nat.reduceBEq, Nat.reduceLeDiff, Nat.reduceEqDiff, reduceCtorEq, reduceIte])) ?_)
        | (with_reducible refine kp_junkF (by decide) ?_)
        | (with_reducible refine fx_put (by first | rfl | simp only [go_sem, Nat.reduceBEq, Nat.reduceLeDiff, Nat.reduceEqDiff, reduceCtorEq, reduceIte]) ?_)
        | (with_reducible refine fx_setB (by first | rfl | simp only [go_sem, Nat.reduceBEq, Nat.reduceLeDiff, Nat.reduceEqDiff, reduceCtorEq, reduceIte]) ?_)
        | (with_reducible refine fx_setN ?_)
        | (with_reducible refine fx_junkF ?_)
        | (with_reducible exact fx_init (by first | rfl | simp only [go_sem, Nat.reduceBEq, Nat.reduceLeDiff, Nat.reduceEqDiff, reduceCtorEq, reduceIte]))
        | (with_reducible exact fx_initB (by first | rfl | simp only [go_sem, Nat.reduceBEq, Nat.reduceLeDiff, Nat.reduceEqDiff, reduceCtorEq, reduceIte]) (by first | rfl | simp only [go_sem, Nat.reduceBEq, Nat.reduceLeDiff, Nat.reduceEqDiff, reduceCtorEq, reduceIte]) rfl (by decide) (by decide))
        | (with_reducible exact fx_base)
        | (with_reducible refine And.intro ?_ ?_))
      all_goals (try simp only [Bool.not_eq_true', Bool.not_eq_false', Bool.and_eq_true, Bool.and_eq_false_iff, decide_eq_true_eq, decide_eq_false_iff_not, Bool.or_eq_true, Bool.or_eq_false_iff, Bool.not_true, Bool.not_false, Bool.false_eq_true, false_iff, true_iff, bne_iff_ne, beq_iff_eq, ne_eq, iff_true, iff_false, not_and, not_or] at *)
      all_goals first
        | omega
        | rfl
        | (simp; done)
        | skip
    · (try dsimp only)
      first | omega | exact ⟨by omega, by omega⟩ | skip
    · intro j hj8
      try dsimp only at hj8
      have hn : zpad l.length < 64 := by unfold zpad; omega
      have w1 : IntKind.i64.wrap ((l.length : Int) * 8) = ((l.length * 8 : Nat) : Int) := i64n (l.length * 8) (by omega)
      have w2 : 0 ≤ 7 - (j : Int) → IntKind.i64.wrap (8 * (7 - (j : Int))) = ((56 - 8 * j : Nat) : Int) := fun h => by
        rw [IntWalk.i64_in _ (by omega)]
        omega
      have w3 : IntKind.u64.wrap ((56 - 8 * j : Nat) : Int) = ((56 - 8 * j : Nat) : Int) := by rw [wrap_u64, Nat.mod_eq_of_lt (by omega)]
      have w4 : IntKind.u8.wrap (wShr .i64 ((l.length * 8 : Nat) : Int) ((56 - 8 * j : Nat) : Int)) = ((lenB l.length j : Nat) : Int) := by
        rw [wShr_u .i64 _ _ (show 56 - 8 * j ≤ 64 by omega), wrap_u8]; rfl
      have w5 : IntKind.i64.wrap (7 - (j : Int) - 1) = 7 - ((j + 1 : Nat) : Int) := by
        rw [IntWalk.i64_in _ (by omega)]
        omega
      try dsimp only
      simp only [w1, w2, w3, w4, w5, go_sem, Nat.reduceAdd, Nat.reduceLT, Nat.reduceBEq, Nat.reduceEqDiff, reduceIte, reduceCtorEq, Nat.reduceLeDiff, Int.reduceEq, Int.reduceLT, Int.reduceLE, Int.reduceSub, Int.reduceAdd, Int.reduceMul, Int.reduceNeg, Int.reduceToNat, Nat.reduceMul, Nat.reduceSub, Nat.reduceDiv, Int.reduceMod, Int.reduceDiv, Int.reduceTDiv, Int.reduceTMod]
      repeat' (first
        | ((with_reducible refine split_guard ?_ ?_) <;> intro hb <;> simp only [hb, w1, w2, w3, w4, w5, go_sem, Nat.reduceAdd, Nat.reduceLT, Nat.reduceBEq, Nat.reduceEqDiff, reduceIte, reduceCtorEq, Nat.reduceLeDiff, Int.reduceEq, Int.reduceLT, Int.reduceLE, Int.reduceSub, Int.reduceAdd, Int.reduceMul, Int.reduceNeg, Int.reduceToNat, Nat.reduceMul, Nat.reduceSub, Nat.reduceDiv, Int.reduceMod, Int.reduceDiv, Int.reduceTDiv, Int.reduceTMod])
        | ((with_reducible refine split_cond ?_ ?_) <;> intro hb <;> simp only [hb, w1, w2, w3, w4, w5, go_sem, Nat.reduceAdd, Nat.reduceLT, Nat.reduceBEq, Nat.reduceEqDiff, reduceIte, reduceCtorEq, Nat.reduceLeDiff, Int.reduceEq, Int.reduceLT, Int.reduceLE, Int.reduceSub, Int.reduceAdd, Int.reduceMul, Int.reduceNeg, Int.reduceToNat, Nat.reduceMul, Nat.reduceSub, Nat.reduceDiv, Int.reduceMod, Int.reduceDiv, Int.reduceTDiv, Int.reduceTMod])
        | ((with_reducible refine split_guardY ?_ ?_) <;> intro hb <;> simp only [hb, w1, w2, w3, w4, w5, go_sem, Nat.reduceAdd, Nat.reduceLT, Nat.reduceBEq, Nat.reduceEqDiff, reduceIte, reduceCtorEq, Nat.reduceLeDiff, Int.reduceEq, Int.reduceLT, Int.reduceLE, Int.reduceSub, Int.reduceAdd, Int.reduceMul, Int.reduceNeg, Int.reduceToNat, Nat.reduceMul, Nat.reduceSub, Nat.reduceDiv, Int.reduceMod, Int.reduceDiv, Int.reduceTDiv, Int.reduceTMod])
        | ((with_reducible refine and_orderN (by kernel_rfl) ?_ ?_) <;> (try simp only [w1, w2, w3, w4, w5, go_sem, Nat.reduceAdd, Nat.reduceLT, Nat.reduceBEq, Nat.reduceEqDiff, reduceIte, reduceCtorEq, Nat.reduceLeDiff, Int.reduceEq, Int.reduceLT, Int.reduceLE, Int.reduceSub, Int.reduceAdd, Int.reduceMul, Int.reduceNeg, Int.reduceToNat, Nat.reduceMul, Nat.reduceSub, Nat.reduceDiv, Int.reduceMod, Int.reduceDiv, Int.reduceTDiv, Int.reduceTMod]))
        | ((with_reducible refine (and_orderN (A := True) (by kernel_rfl) ?_ trivial).1) <;> (try simp only [w1, w2, w3, w4, w5, go_sem, Nat.reduceAdd, Nat.reduceLT, Nat.reduceBEq, Nat.reduceEqDiff, reduceIte, reduceCtorEq, Nat.reduceLeDiff, Int.reduceEq, Int.reduceLT, Int.reduceLE, Int.reduceSub, Int.reduceAdd, Int.reduceMul, Int.reduceNeg, Int.reduceToNat, Nat.reduceMul, Nat.reduceSub, Nat.reduceDiv, Int.reduceMod, Int.reduceDiv, Int.reduceTDiv, Int.reduceTMod]))
        | (with_reducible exact (show bitOf _ _ _ = true by decide +kernel))
        | (with_reducible refine and_nomen ?_ ?_)
        | (with_reducible refine nomen_p (by first | rfl | simp only [go_sem, Nat.reduceBEq, Nat.reduceLeDiff, Nat.reduceEqDiff, reduceCtorEq, reduceIte]) ?_)
        | (with_reducible refine nomen_s (by first | rfl | simp only [go_sem, Nat.reduceBEq, Nat.reduceLeDiff, Nat.reduceEqDiff, reduceCtorEq, reduceIte]) ?_)
        | (with_reducible refine nomen_setB0 _ _ _ ?_)
        | (with_reducible refine nomen_p0 (by first | rfl | simp only [go_sem, Nat.reduceBEq, Nat.reduceLeDiff, Nat.reduceEqDiff, reduceCtorEq, reduceIte]) ?_)
        | (with_reducible refine nomen_j ?_)
        | (with_reducible exact nomen_i (by first | rfl | simp only [go_sem, Nat.reduceBEq, Nat.reduceLeDiff, Nat.reduceEqDiff, reduceCtorEq, reduceIte]))
        | (with_reducible exact nomen_iB (by first | rfl | simp only [go_sem, Nat.reduceBEq, Nat.reduceLeDiff, Nat.reduceEqDiff, reduceCtorEq, reduceIte]) (by first | rfl | simp only [go_sem, Nat.reduceBEq, Nat.reduceLeDiff, Nat.reduceEqDiff, reduceCtorEq, reduceIte]) (by decide))
        | (with_reducible exact nomen_b)
        | (with_reducible refine leX_nil (by simp only [go_sem, Nat.reduceBEq, Nat.reduceLeDiff, Nat.reduceEqDiff, reduceCtorEq, reduceIte]) ?_)
        | ((with_reducible refine leX_put ?_ ?_) <;> (try simp only [w1, w2, w3, w4, w5, go_sem, Nat.reduceAdd, Nat.reduceLT, Nat.reduceBEq, Nat.reduceEqDiff, reduceIte, reduceCtorEq, Nat.reduceLeDiff, Int.reduceEq, Int.reduceLT, Int.reduceLE, Int.reduceSub, Int.reduceAdd, Int.reduceMul, Int.reduceNeg, Int.reduceToNat, Nat.reduceMul, Nat.reduceSub, Nat.reduceDiv, Int.reduceMod, Int.reduceDiv, Int.reduceTDiv, Int.reduceTMod]))
        | (with_reducible refine leX_boxnil ?_)
        | ((with_reducible refine leX_box ?_ ?_) <;> (try simp only [w1, w2, w3, w4, w5, go_sem, Nat.reduceAdd, Nat.reduceLT, Nat.reduceBEq, Nat.reduceEqDiff, reduceIte, reduceCtorEq, Nat.reduceLeDiff, Int.reduceEq, Int.reduceLT, Int.reduceLE, Int.reduceSub, Int.reduceAdd, Int.reduceMul, Int.reduceNeg, Int.reduceToNat, Nat.reduceMul, Nat.reduceSub, Nat.reduceDiv, Int.reduceMod, Int.reduceDiv, Int.reduceTDiv, Int.reduceTMod]))
        | (with_reducible refine leX_boxnone ?_)
        | (with_reducible exact leX_base rfl)
        | (with_reducible refine leX_junkF ?_)
        | (with_reducible exact kp_refl)
        | (with_reducible refine kp_fx rfl (by first | exact Or.inl rfl | (refine Or.inr ?_; simp only [go_sem, Nat.reduceBEq, Nat.reduceLeDiff, Nat.reduceEqDiff, reduceCtorEq, reduceIte])) ?_)
        | (with_reducible refine kp_put rfl ?_)
        | (with_reducible refine kp_setB (by first | exact Or.inl rfl | (refine Or.inr ?_; simp only [go_sem, Nat.reduceBEq, Nat.reduceLeDiff, Nat.reduceEqDiff, reduceCtorEq, reduceIte])) ?_)
        | (with_reducible refine kp_junkF (by decide) ?_)
        | (with_reducible refine fx_put (by first | rfl | simp only [go_sem, Nat.reduceBEq, Nat.reduceLeDiff, Nat.reduceEqDiff, reduceCtorEq, reduceIte]) ?_)
        | (with_reducible refine fx_setB (by first | rfl | simp only [go_sem, Nat.reduceBEq, Nat.reduceLeDiff, Nat.reduceEqDiff, reduceCtorEq, reduceIte]) ?_)
        | (with_reducible refine fx_setN ?_)
        | (with_reducible refine fx_junkF ?_)
        | (with_reducible exact fx_init (by first | rfl | simp only [go_sem, Nat.reduceBEq, Nat.reduceLeDiff, Nat.reduceEqDiff, reduceCtorEq, reduceIte]))
        | (with_reducible exact fx_initB (by first | rfl | simp only [go_sem, Nat.reduceBEq, Nat.reduceLeDiff, Nat.reduceEqDiff, reduceCtorEq, reduceIte]) (by first | rfl | simp only [go_sem, Nat.reduceBEq, Nat.reduceLeDiff, Nat.reduceEqDiff, reduceCtorEq, reduceIte]) rfl (by decide) (by decide))
        | (with_reducible exact fx_base)
        | ((with_reducible refine again_of (j + 1) (le_sw [(3, 47)] rfl rfl ?_) ?_ ?_) <;> (try dsimp only) <;> (try simp only [go_sem, Nat.reduceAdd, Nat.reduceLT, Nat.reduceBEq, Nat.reduceEqDiff, reduceIte, reduceCtorEq, Nat.reduceLeDiff, Int.reduceEq, Int.reduceLT, Int.reduceLE, Int.reduceSub, Int.reduceAdd, Int.reduceMul, Int.reduceNeg, Int.reduceToNat, Nat.reduceMul, Nat.reduceSub, Nat.reduceDiv, Int.reduceMod, Int.reduceDiv, Int.reduceTDiv, Int.reduceTMod]))
        | (with_reducible refine And.intro ?_ ?_))
      all_goals (try simp only [Bool.not_eq_true', Bool.not_eq_false', Bool.and_eq_true, Bool.and_eq_false_iff, decide_eq_true_eq, decide_eq_false_iff_not, Bool.or_eq_true, Bool.or_eq_false_iff, Bool.not_true, Bool.not_false, Bool.false_eq_true, false_iff, true_iff, bne_iff_ne, beq_iff_eq, ne_eq, iff_true, iff_false, not_and, not_or] at *)
      all_goals first
        | omega
        | (refine leafSl ?_; omega)
        | (have e : List.take (l.length + 1 + zpad l.length + j) (l ++ [128] ++ List.replicate (zpad l.length) 0 ++ (List.range j).map (lenB l.length)) = l ++ [128] ++ List.replicate (zpad l.length) 0 ++ (List.range j).map (lenB l.length) := List.take_of_length_le (by simp <;> omega)
           rw [w2 (by omega), w3, w4, e, castL_snoc]
           first | rw [List.range_succ] | skip
           rw [List.map_append, ← List.append_assoc]; rfl)
        | (rw [w2 (by omega), w3]; omega)
        | skip
      obtain rfl : j = 8 := by omega
      refine loop_at (α := Nat) 6 (fun i => [(3, .c (.sl 3 (padL l).length 1 false)), (6, I ((64 * i : Nat) : Int))]) (fun i => [(3, some ⟨IL .u8 (castL (padL l)), 0, false, false⟩), (5, some ⟨IL .i64 (castL (stN (padL l) i)), 0, false, false⟩), (55, none)]) (fun i => 64 * i ≤ (padL l).length) (fun i => (padL l).length - 64 * i) 0 (le_sw [] rfl rfl ?_) ?_ ?_
      · (try dsimp only)
        simp only [go_sem, Nat.reduceAdd, Nat.reduceLT, Nat.reduceBEq, Nat.reduceEqDiff, reduceIte, reduceCtorEq, Nat.reduceLeDiff, Int.reduceEq, Int.reduceLT, Int.reduceLE, Int.reduceSub, Int.reduceAdd, Int.reduceMul, Int.reduceNeg, Int.reduceToNat, Nat.reduceMul, Nat.reduceSub, Nat.reduceDiv, Int.reduceMod, Int.reduceDiv, Int.reduceTDiv, Int.reduceTMod]
        repeat' (first
          | ((with_reducible refine split_guard ?_ ?_) <;> intro hb <;> simp only [hb, go_sem, Nat.reduceAdd, Nat.reduceLT, Nat.reduceBEq, Nat.reduceEqDiff, reduceIte, reduceCtorEq, Nat.reduceLeDiff, Int.reduceEq, Int.reduceLT, Int.reduceLE, Int.reduceSub, Int.reduceAdd, Int.reduceMul, Int.reduceNeg, Int.reduceToNat, Nat.reduceMul, Nat.reduceSub, Nat.reduceDiv, Int.reduceMod, Int.reduceDiv, Int.reduceTDiv, Int.reduceTMod])
          | ((with_reducible refine split_cond ?_ ?_) <;> intro hb <;> simp only [hb, go_sem, Nat.reduceAdd, Nat.reduceLT, Nat.reduceBEq, Nat.reduceEqDiff, reduceIte, reduceCtorEq, Nat.reduceLeDiff, Int.reduceEq, Int.reduceLT, Int.reduceLE, Int.reduceSub, Int.reduceAdd, Int.reduceMul, Int.reduceNeg, Int.reduceToNat, Nat.reduceMul, Nat.reduceSub, Nat.reduceDiv, Int.reduceMod, Int.reduceDiv, Int.reduceTDiv, Int.reduceTMod])
          | ((with_reducible refine split_guardY ?_ ?_) <;> intro hb <;> simp only [hb, go_sem, Nat.reduceAdd, Nat.reduceLT, Nat.reduceBEq, Nat.reduceEqDiff, reduceIte, reduceCtorEq, Nat.reduceLeDiff, Int.reduceEq, Int.reduceLT, Int.reduceLE, Int.reduceSub, Int.reduceAdd, Int.reduceMul, Int.reduceNeg, Int.reduceToNat, Nat.reduceMul, Nat.reduceSub, Nat.reduceDiv, Int.reduceMod, Int.reduceDiv, Int.reduceTDiv, Int.reduceTMod])
          | ((with_reducible refine and_orderN (by kernel_rfl) ?_ ?_) <;> (try simp only [go_sem, Nat.reduceAdd, Nat.reduceLT, Nat.reduceBEq, Nat.reduceEqDiff, reduceIte, reduceCtorEq, Nat.reduceLeDiff, Int.reduceEq, Int.reduceLT, Int.reduceLE, Int.reduceSub, Int.reduceAdd, Int.reduceMul, Int.reduceNeg, Int.reduceToNat, Nat.reduceMul, Nat.reduceSub, Nat.reduceDiv, Int.reduceMod, Int.reduceDiv, Int.reduceTDiv, Int.reduceTMod]))
          | ((with_reducible refine (and_orderN (A := True) (by kernel_rfl) ?_ trivial).1) <;> (try simp only [go_sem, Nat.reduceAdd, Nat.reduceLT, Nat.reduceBEq, Nat.reduceEqDiff, reduceIte, reduceCtorEq, Nat.reduceLeDiff, Int.reduceEq, Int.reduceLT, Int.reduceLE, Int.reduceSub, Int.reduceAdd, Int.reduceMul, Int.reduceNeg, Int.reduceToNat, Nat.reduceMul, Nat.reduceSub, Nat.reduceDiv, Int.reduceMod, Int.reduceDiv, Int.reduceTDiv, Int.reduceTMod]))
          | (with_reducible exact (show bitOf _ _ _ = true by decide +kernel))
          | (with_reducible refine and_nomen ?_ ?_)
          | (with_reducible refine nomen_p (by first | rfl | simp only [go_sem, Nat.reduceBEq, Nat.reduceLeDiff, Nat.reduceEqDiff, reduceCtorEq, reduceIte]) ?_)
          | (with_reducible refine nomen_s (by first | rfl | simp only [go_sem, Nat.reduceBEq, Nat.reduceLeDiff, Nat.reduceEqDiff, reduceCtorEq, reduceIte]) ?_)
          | (with_reducible refine nomen_setB0 _ _ _ ?_)
          | (with_reducible refine nomen_p0 (by first | rfl | simp only [go_sem, Nat.reduceBEq, Nat.reduceLeDiff, Nat.reduceEqDiff, reduceCtorEq, reduceIte]) ?_)
          | (with_reducible refine nomen_j ?_)
          | (with_reducible exact nomen_i (by first | rfl | simp only [go_sem, Nat.reduceBEq, Nat.reduceLeDiff, Nat.reduceEqDiff, reduceCtorEq, reduceIte]))
          | (with_reducible exact nomen_iB (by first | rfl | simp only [go_sem, Nat.reduceBEq, Nat.reduceLeDiff, Nat.reduceEqDiff, reduceCtorEq, reduceIte]) (by first | rfl | simp only [go_sem, Nat.reduceBEq, Nat.reduceLeDiff, Nat.reduceEqDiff, reduceCtorEq, reduceIte]) (by decide))
          | (with_reducible exact nomen_b)
          | (with_reducible refine leX_nil (by simp only [go_sem, Nat.reduceBEq, Nat.reduceLeDiff, Nat.reduceEqDiff, reduceCtorEq, reduceIte]) ?_)
          | ((with_reducible refine leX_put ?_ ?_) <;> (try simp only [go_sem, Nat.reduceAdd, Nat.reduceLT, Nat.reduceBEq, Nat.reduceEqDiff, reduceIte, reduceCtorEq, Nat.reduceLeDiff, Int.reduceEq, Int.reduceLT, Int.reduceLE, Int.reduceSub, Int.reduceAdd, Int.reduceMul, Int.reduceNeg, Int.reduceToNat, Nat.reduceMul, Nat.reduceSub, Nat.reduceDiv, Int.reduceMod, Int.reduceDiv, Int.reduceTDiv, Int.reduceTMod]))
          | (with_reducible refine leX_boxnil ?_)
          | ((with_reducible refine leX_box ?_ ?_) <;> (try simp only [go_sem, Nat.reduceAdd, Nat.reduceLT, Nat.reduceBEq, Nat.reduceEqDiff, reduceIte, reduceCtorEq, Nat.reduceLeDiff, Int.reduceEq, Int.reduceLT, Int.reduceLE, Int.reduceSub, Int.reduceAdd, Int.reduceMul, Int.reduceNeg, Int.reduceToNat, Nat.reduceMul, Nat.reduceSub, Nat.reduceDiv, Int.reduceMod, Int.reduceDiv, Int.reduceTDiv, Int.reduceTMod]))
          | (with_reducible refine leX_boxnone ?_)
          | (with_reducible exact leX_base rfl)
          | (with_reducible refine leX_junkF ?_)
          | (with_reducible exact kp_refl)
          | (with_reducible refine kp_fx rfl (by first | exact Or.inl rfl | (refine Or.inr ?_; simp only [go_sem, Nat.reduceBEq, Nat.reduceLeDiff, Nat.reduceEqDiff, reduceCtorEq, reduceIte])) ?_)
          | (with_reducible refine kp_put rfl ?_)
          | (with_reducible refine kp_setB (by first | exact Or.inl rfl | (refine Or.inr ?_; simp only [go_sem, Nat.reduceBEq, Nat.reduceLeDiff, Nat.reduceEqDiff, reduceCtorEq, reduceIte])) ?_)
          | (with_reducible refine kp_junkF (by decide) ?_)
          | (with_reducible refine fx_put (by first | rfl | simp only [go_sem, Nat.reduceBEq, Nat.reduceLeDiff, Nat.reduceEqDiff, reduceCtorEq, reduceIte]) ?_)
          | (with_reducible refine fx_setB (by first | rfl | simp only [go_sem, Nat.reduceBEq, Nat.reduceLeDiff, Nat.reduceEqDiff, reduceCtorEq, reduceIte]) ?_)
          | (with_reducible refine fx_setN ?_)
          | (with_reducible refine fx_junkF ?_)
          | (with_reducible exact fx_init (by first | rfl | simp only [go_sem, Nat.reduceBEq, Nat.reduceLeDiff, Nat.reduceEqDiff, reduceCtorEq, reduceIte]))
          | (with_reducible exact fx_initB (by first | rfl | simp only [go_sem, Nat.reduceBEq, Nat.reduceLeDiff, Nat.reduceEqDiff, reduceCtorEq, reduceIte]) (by first | rfl | simp only [go_sem, Nat.reduceBEq, Nat.reduceLeDiff, Nat.reduceEqDiff, reduceCtorEq, reduceIte]) rfl (by decide) (by decide))
          | (with_reducible exact fx_base)
          | (with_reducible refine And.intro ?_ ?_))
        all_goals (try simp only [Bool.not_eq_true', Bool.not_eq_false', Bool.and_eq_true, Bool.and_eq_false_iff, decide_eq_true_eq, decide_eq_false_iff_not, Bool.or_eq_true, Bool.or_eq_false_iff, Bool.not_true, Bool.not_false, Bool.false_eq_true, false_iff, true_iff, bne_iff_ne, beq_iff_eq, ne_eq, iff_true, iff_false, not_and, not_or, List.length_append, List.length_drop, List.length_take, List.length_replicate, List.length_range] at *)
        all_goals (try omega)
        all_goals first
          | (rw [padL_len]; done)
          | rfl
          | decide
      · (try dsimp only)
        first | omega | exact ⟨by omega, by omega⟩ | skip
      · intro i hi
        try dsimp only at hi
        have hpl := padL_len l
        have h64 := padL_64 l
        have hz : zpad l.length < 64 := by unfold zpad; omega
        have q64 : IntKind.i64.wrap (((64 * i : Nat) : Int) + 64) = ((64 * (i + 1) : Nat) : Int) := i64n (64 * i + 64) (by omega)
        have hst := stN_lt (padL l) i
        have hsl := stN_len (padL l) i
        try dsimp only
        simp only [hsl, q64, go_sem, Nat.reduceAdd, Nat.reduceLT, Nat.reduceBEq, Nat.reduceEqDiff, reduceIte, reduceCtorEq, Nat.reduceLeDiff, Int.reduceEq, Int.reduceLT, Int.reduceLE, Int.reduceSub, Int.reduceAdd, Int.reduceMul, Int.reduceNeg, Int.reduceToNat, Nat.reduceMul, Nat.reduceSub, Nat.reduceDiv, Int.reduceMod, Int.reduceDiv, Int.reduceTDiv, Int.reduceTMod]
        repeat' (first
          | ((with_reducible refine split_guard ?_ ?_) <;> intro hb <;> simp only [hb, hsl, q64, go_sem, Nat.reduceAdd, Nat.reduceLT, Nat.reduceBEq, Nat.reduceEqDiff, reduceIte, reduceCtorEq, Nat.reduceLeDiff, Int.reduceEq, Int.reduceLT, Int.reduceLE, Int.reduceSub, Int.reduceAdd, Int.reduceMul, Int.reduceNeg, Int.reduceToNat, Nat.reduceMul, Nat.reduceSub, Nat.reduceDiv, Int.reduceMod, Int.reduceDiv, Int.reduceTDiv, Int.reduceTMod])
          | ((with_reducible refine split_cond ?_ ?_) <;> intro hb <;> simp only [hb, hsl, q64, go_sem, Nat.reduceAdd, Nat.reduceLT, Nat.reduceBEq, Nat.reduceEqDiff, reduceIte, reduceCtorEq, Nat.reduceLeDiff, Int.reduceEq, Int.reduceLT, Int.reduceLE, Int.reduceSub, Int.reduceAdd, Int.reduceMul, Int.reduceNeg, Int.reduceToNat, Nat.reduceMul, Nat.reduceSub, Nat.reduceDiv, Int.reduceMod, Int.reduceDiv, Int.reduceTDiv, Int.reduceTMod])
          | ((with_reducible refine split_guardY ?_ ?_) <;> intro hb <;> simp only [hb, hsl, q64, go_sem, Nat.reduceAdd, Nat.reduceLT, Nat.reduceBEq, Nat.reduceEqDiff, reduceIte, reduceCtorEq, Nat.reduceLeDiff, Int.reduceEq, Int.reduceLT, Int.reduceLE, Int.reduceSub, Int.reduceAdd, Int.reduceMul, Int.reduceNeg, Int.reduceToNat, Nat.reduceMul, Nat.reduceSub, Nat.reduceDiv, Int.reduceMod, Int.reduceDiv, Int.reduceTDiv, Int.reduceTMod])
          | ((with_reducible refine and_orderN (by kernel_rfl) ?_ ?_) <;> (try simp only [hsl, q64, go_sem, Nat.reduceAdd, Nat.reduceLT, Nat.reduceBEq, Nat.reduceEqDiff, reduceIte, reduceCtorEq, Nat.reduceLeDiff, Int.reduceEq, Int.reduceLT, Int.reduceLE, Int.reduceSub, Int.reduceAdd, Int.reduceMul, Int.reduceNeg, Int.reduceToNat, Nat.reduceMul, Nat.reduceSub, Nat.reduceDiv, Int.reduceMod, Int.reduceDiv, Int.reduceTDiv, Int.reduceTMod]))
          | ((with_reducible refine (and_orderN (A := True) (by kernel_rfl) ?_ trivial).1) <;> (try simp only [hsl, q64, go_sem, Nat.reduceAdd, Nat.reduceLT, Nat.reduceBEq, Nat.reduceEqDiff, reduceIte, reduceCtorEq, Nat.reduceLeDiff, Int.reduceEq, Int.reduceLT, Int.reduceLE, Int.reduceSub, Int.reduceAdd, Int.reduceMul, Int.reduceNeg, Int.reduceToNat, Nat.reduceMul, Nat.reduceSub, Nat.reduceDiv, Int.reduceMod, Int.reduceDiv, Int.reduceTDiv, Int.reduceTMod]))
          | (with_reducible exact (show bitOf _ _ _ = true by decide +kernel))
          | (with_reducible refine and_nomen ?_ ?_)
          | (with_reducible refine nomen_p (by first | rfl | simp only [go_sem, Nat.reduceBEq, Nat.reduceLeDiff, Nat.reduceEqDiff, reduceCtorEq, reduceIte]) ?_)
          | (with_reducible refine nomen_s (by first | rfl | simp only [go_sem, Nat.reduceBEq, Nat.reduceLeDiff, Nat.reduceEqDiff, reduceCtorEq, reduceIte]) ?_)
          | (with_reducible refine nomen_setB0 _ _ _ ?_)
          | (with_reducible refine nomen_p0 (by first | rfl | simp only [go_sem, Nat.reduceBEq, Nat.reduceLeDiff, Nat.reduceEqDiff, reduceCtorEq, reduceIte]) ?_)
          | (with_reducible refine nomen_j ?_)
          | (with_reducible exact nomen_i (by first | rfl | simp only [go_sem, Nat.reduceBEq, Nat.reduceLeDiff, Nat.reduceEqDiff, reduceCtorEq, reduceIte]))
          | (with_reducible exact nomen_iB (by first | rfl | simp only [go_sem, Nat.reduceBEq, Nat.reduceLeDiff, Nat.reduceEqDiff, reduceCtorEq, reduceIte]) (by first | rfl | simp only [go_sem, Nat.reduceBEq, Nat.reduceLeDiff, Nat.reduceEqDiff, reduceCtorEq, reduceIte]) (by decide))
          | (with_reducible exact nomen_b)
          | (with_reducible refine leX_nil (by simp only [go_sem, Nat.reduceBEq, Nat.reduceLeDiff, Nat.reduceEqDiff, reduceCtorEq, reduceIte]) ?_)
          | ((with_reducible refine leX_put ?_ ?_) <;> (try simp only [hsl, q64, go_sem, Nat.reduceAdd, Nat.reduceLT, Nat.reduceBEq, Nat.reduceEqDiff, reduceIte, reduceCtorEq, Nat.reduceLeDiff, Int.reduceEq, Int.reduceLT, Int.reduceLE, Int.reduceSub, Int.reduceAdd, Int.reduceMul, Int.reduceNeg, Int.reduceToNat, Nat.reduceMul, Nat.reduceSub, Nat.reduceDiv, Int.reduceMod, Int.reduceDiv, Int.reduceTDiv, Int.reduceTMod]))
          | (with_reducible refine leX_boxnil ?_)
          | ((with_reducible refine leX_box ?_ ?_) <;> (try simp only [hsl, q64, go_sem, Nat.reduceAdd, Nat.reduceLT, Nat.reduceBEq, Nat.reduceEqDiff, reduceIte, reduceCtorEq, Nat.reduceLeDiff, Int.reduceEq, Int.reduceLT, Int.reduceLE, Int.reduceSub, Int.reduceAdd, Int.reduceMul, Int.reduceNeg, Int.reduceToNat, Nat.reduceMul, Nat.reduceSub, Nat.reduceDiv, Int.reduceMod, Int.reduceDiv, Int.reduceTDiv, Int.reduceTMod]))
          | (with_reducible refine leX_boxnone ?_)
          | (with_reducible exact leX_base rfl)
          | (with_reducible refine leX_junkF ?_)
          | (with_reducible exact kp_refl)
          | (with_reducible refine kp_fx rfl (by first | exact Or.inl rfl | (refine Or.inr ?_; simp only [go_sem, Nat.reduceBEq, Nat.reduceLeDiff, Nat.reduceEqDiff, reduceCtorEq, reduceIte])) ?_)
          | (with_reducible refine kp_put rfl ?_)
          | (with_reducible refine kp_setB (by first | exact Or.inl rfl | (refine Or.inr ?_; simp only [go_sem, Nat.reduceBEq, Nat.reduceLeDiff, Nat.reduceEqDiff, reduceCtorEq, reduceIte])) ?_)
          | (with_reducible refine kp_junkF (by decide) ?_)
          | (with_reducible refine fx_put (by first | rfl | simp only [go_sem, Nat.reduceBEq, Nat.reduceLeDiff, Nat.reduceEqDiff, reduceCtorEq, reduceIte]) ?_)
          | (with_reducible refine fx_setB (by first | rfl | simp only [go_sem, Nat.reduceBEq, Nat.reduceLeDiff, Nat.reduceEqDiff, reduceCtorEq, reduceIte]) ?_)
          | (with_reducible refine fx_setN ?_)
          | (with_reducible refine fx_junkF ?_)
          | (with_reducible exact fx_init (by first | rfl | simp only [go_sem, Nat.reduceBEq, Nat.reduceLeDiff, Nat.reduceEqDiff, reduceCtorEq, reduceIte]))
          | (with_reducible exact fx_initB (by first | rfl | simp only [go_sem, Nat.reduceBEq, Nat.reduceLeDiff, Nat.reduceEqDiff, reduceCtorEq, reduceIte]) (by first | rfl | simp only [go_sem, Nat.reduceBEq, Nat.reduceLeDiff, Nat.reduceEqDiff, reduceCtorEq, reduceIte]) rfl (by decide) (by decide))
          | (with_reducible exact fx_base)
          | (with_reducible refine And.intro ?_ ?_))
        all_goals (try simp only [Bool.not_eq_true', Bool.not_eq_false', Bool.and_eq_true, Bool.and_eq_false_iff, decide_eq_true_eq, decide_eq_false_iff_not, Bool.or_eq_true, Bool.or_eq_false_iff, Bool.not_true, Bool.not_false, Bool.false_eq_true, false_iff, true_iff, bne_iff_ne, beq_iff_eq, ne_eq, iff_true, iff_false, not_and, not_or, List.length_append, List.length_drop, List.length_take, List.length_replicate, List.length_range] at *)
        all_goals (try omega)
        · refine loop_at (α := Nat) 8 (fun t => [(8, I t)]) (fun t => [(55, some ⟨IL .i64 (castL (rowN (bkN l i) t)), 0, false, false⟩)]) (fun t => t ≤ 16) (fun t => 16 - t) 0 (le_sw [] rfl rfl ?_) ?_ ?_
          · (try dsimp only)
            simp only [go_sem, Nat.reduceAdd, Nat.reduceLT, Nat.reduceBEq, Nat.reduceEqDiff, reduceIte, reduceCtorEq, Nat.reduceLeDiff, Int.reduceEq, Int.reduceLT, Int.reduceLE, Int.reduceSub, Int.reduceAdd, Int.reduceMul, Int.reduceNeg, Int.reduceToNat, Nat.reduceMul, Nat.reduceSub, Nat.reduceDiv, Int.reduceMod, Int.reduceDiv, Int.reduceTDiv, Int.reduceTMod]
            repeat' (first
              | ((with_reducible refine split_guard ?_ ?_) <;> intro hb <;> simp only [hb, go_sem, Nat.reduceAdd, Nat.reduceLT, Nat.reduceBEq, Nat.reduceEqDiff, reduceIte, reduceCtorEq, Nat.reduceLeDiff, Int.reduceEq, Int.reduceLT, Int.reduceLE, Int.reduceSub, Int.reduceAdd, Int.reduceMul, Int.reduceNeg, Int.reduceToNat, Nat.reduceMul, Nat.reduceSub, Nat.reduceDiv, Int.reduceMod, Int.reduceDiv, Int.reduceTDiv, Int.reduceTMod])
              | ((with_reducible refine split_cond ?_ ?_) <;> intro hb <;> simp only [hb, go_sem, Nat.reduceAdd, Nat.reduceLT, Nat.reduceBEq, Nat.reduceEqDiff, reduceIte, reduceCtorEq, Nat.reduceLeDiff, Int.reduceEq, Int.reduceLT, Int.reduceLE, Int.reduceSub, Int.reduceAdd, Int.reduceMul, Int.reduceNeg, Int.reduceToNat, Nat.reduceMul, Nat.reduceSub, Nat.reduceDiv, Int.reduceMod, Int.reduceDiv, Int.reduceTDiv, Int.reduceTMod])
              | ((with_reducible refine split_guardY ?_ ?_) <;> intro hb <;> simp only [hb, go_sem, Nat.reduceAdd, Nat.reduceLT, Nat.reduceBEq, Nat.reduceEqDiff, reduceIte, reduceCtorEq, Nat.reduceLeDiff, Int.reduceEq, Int.reduceLT, Int.reduceLE, Int.reduceSub, Int.reduceAdd, Int.reduceMul, Int.reduceNeg, Int.reduceToNat, Nat.reduceMul, Nat.reduceSub, Nat.reduceDiv, Int.reduceMod, Int.reduceDiv, Int.reduceTDiv, Int.reduceTMod])
              | ((with_reducible refine and_orderN (by kernel_rfl) ?_ ?_) <;> (try simp only [go_sem, Nat.reduceAdd, Nat.reduceLT, Nat.reduceBEq, Nat.reduceEqDiff, reduceIte, reduceCtorEq, Nat.reduceLeDiff, Int.reduceEq, Int.reduceLT, Int.reduceLE, Int.reduceSub, Int.reduceAdd, Int.reduceMul, Int.reduceNeg, Int.reduceToNat, Nat.reduceMul, Nat.reduceSub, Nat.reduceDiv, Int.reduceMod, Int.reduceDiv, Int.reduceTDiv, Int.reduceTMod]))
              | ((with_reducible refine (and_orderN (A := True) (by kernel_rfl) ?_ trivial).1) <;> (try simp only [go_sem, Nat.reduceAdd, Nat.reduceLT, Nat.reduceBEq, Nat.reduceEqDiff, reduceIte, reduceCtorEq, Nat.reduceLeDiff, Int.reduceEq, Int.reduceLT, Int.reduceLE, Int.reduceSub, Int.reduceAdd, Int.reduceMul, Int.reduceNeg, Int.reduceToNat, Nat.reduceMul, Nat.reduceSub, Nat.reduceDiv, Int.reduceMod, Int.reduceDiv, Int.reduceTDiv, Int.reduceTMod]))
              | (with_reducible exact (show bitOf _ _ _ = true by decide +kernel))
              | (with_reducible refine and_nomen ?_ ?_)
              | (with_reducible refine nomen_p (by first | rfl | simp only [go_sem, Nat.reduceBEq, Nat.reduceLeDiff, Nat.reduceEqDiff, reduceCtorEq, reduceIte]) ?_)
              | (with_reducible refine nomen_s (by first | rfl | simp only [go_sem, Nat.reduceBEq, Nat.reduceLeDiff, Nat.reduceEqDiff, reduceCtorEq, reduceIte]) ?_)
              | (with_reducible refine nomen_setB0 _ _ _ ?_)
              | (with_reducible refine nomen_p0 (by first | rfl | simp only [go_sem, Nat.reduceBEq, Nat.reduceLeDiff, Nat.reduceEqDiff, reduceCtorEq, reduceIte]) ?_)
              | (with_reducible refine nomen_j ?_)
              | (with_reducible exact nomen_i (by first | rfl | simp only [go_sem, Nat.reduceBEq, Nat.reduceLeDiff, Nat.reduceEqDiff, reduceCtorEq, reduceIte]))
              | (with_reducible exact nomen_iB (by first | rfl | simp only [go_sem, Nat.reduceBEq, Nat.reduceLeDiff, Nat.reduceEqDiff, reduceCtorEq, reduceIte]) (by first | rfl | simp only [go_sem, Nat.reduceBEq, Nat.reduceLeDiff, Nat.reduceEqDiff, reduceCtorEq, reduceIte]) (by decide))
              | (with_reducible exact nomen_b)
              | (with_reducible refine leX_nil (by simp only [go_sem, Nat.reduceBEq, Nat.reduceLeDiff, Nat.reduceEqDiff, reduceCtorEq, reduceIte]) ?_)
              | ((with_reducible refine leX_put ?_ ?_) <;> (try simp only [go_sem, Nat.reduceAdd, Nat.reduceLT, Nat.reduceBEq, Nat.reduceEqDiff, reduceIte, reduceCtorEq, Nat.reduceLeDiff, Int.reduceEq, Int.reduceLT, Int.reduceLE, Int.reduceSub, Int.reduceAdd, Int.reduceMul, Int.reduceNeg, Int.reduceToNat, Nat.reduceMul, Nat.reduceSub, Nat.reduceDiv, Int.reduceMod, Int.reduceDiv, Int.reduceTDiv, Int.reduceTMod]))
              | (with_reducible refine leX_boxnil ?_)
              | ((with_reducible refine leX_box ?_ ?_) <;> (try simp only [go_sem, Nat.reduceAdd, Nat.reduceLT, Nat.reduceBEq, Nat.reduceEqDiff, reduceIte, reduceCtorEq, Nat.reduceLeDiff, Int.reduceEq, Int.reduceLT, Int.reduceLE, Int.reduceSub, Int.reduceAdd, Int.reduceMul, Int.reduceNeg, Int.reduceToNat, Nat.reduceMul, Nat.reduceSub, Nat.reduceDiv, Int.reduceMod, Int.reduceDiv, Int.reduceTDiv, Int.reduceTMod]))
              | (with_reducible refine leX_boxnone ?_)
              | (with_reducible exact leX_base rfl)
              | (with_reducible refine leX_junkF ?_)
              | (with_reducible exact kp_refl)
              | (with_reducible refine kp_fx rfl (by first | exact Or.inl rfl | (refine Or.inr ?_; simp only [go_sem, Nat.reduceBEq, Nat.reduceLeDiff, Nat.reduceEqDiff, reduceCtorEq, reduceIte])) ?_)
              | (with_reducible refine kp_put rfl ?_)
              | (with_reducible refine kp_setB (by first | exact Or.inl rfl | (refine Or.inr ?_; simp only [go_sem, Nat.reduceBEq, Nat.reduceLeDiff, Nat.reduceEqDiff, reduceCtorEq, reduceIte])) ?_)
              | (with_reducible refine kp_junkF (by decide) ?_)
              | (with_reducible refine fx_put (by first | rfl | simp only [go_sem, Nat.reduceBEq, Nat.reduceLeDiff, Nat.reduceEqDiff, reduceCtorEq, reduceIte]) ?_)
              | (with_reducible refine fx_setB (by first | rfl | simp only [go_sem, Nat.reduceBEq, Nat.reduceLeDiff, Nat.reduceEqDiff, reduceCtorEq, reduceIte]) ?_)
              | (with_reducible refine fx_setN ?_)
              | (with_reducible refine fx_junkF ?_)
              | (with_reducible exact fx_init (by first | rfl | simp only [go_sem, Nat.reduceBEq, Nat.reduceLeDiff, Nat.reduceEqDiff, reduceCtorEq, reduceIte]))
              | (with_reducible exact fx_initB (by first | rfl | simp only [go_sem, Nat.reduceBEq, Nat.reduceLeDiff, Nat.reduceEqDiff, reduceCtorEq, reduceIte]) (by first | rfl | simp only [go_sem, Nat.reduceBEq, Nat.reduceLeDiff, Nat.reduceEqDiff, reduceCtorEq, reduceIte]) rfl (by decide) (by decide))
              | (with_reducible exact fx_base)
              | (with_reducible refine And.intro ?_ ?_))
            all_goals (try simp only [Bool.not_eq_true', Bool.not_eq_false', Bool.and_eq_true, Bool.and_eq_false_iff, decide_eq_true_eq, decide_eq_false_iff_not, Bool.or_eq_true, Bool.or_eq_false_iff, Bool.not_true, Bool.not_false, Bool.false_eq_true, false_iff, true_iff, bne_iff_ne, beq_iff_eq, ne_eq, iff_true, iff_false, not_and, not_or, List.length_append, List.length_drop, List.length_take, List.length_replicate, List.length_range] at *)
            all_goals (try omega)
            all_goals (rw [row0, castL_replicate]; rfl)
          · (try dsimp only)
            first | omega | exact ⟨by omega, by omega⟩ | skip
          · intro t ht
            try dsimp only at ht
            have q9 : IntKind.i64.wrap ((t : Int) + 1) = ((t + 1 : Nat) : Int) := i64n (t + 1) (by omega)
            try dsimp only
            simp only [q9, go_sem, Nat.reduceAdd, Nat.reduceLT, Nat.reduceBEq, Nat.reduceEqDiff, reduceIte, reduceCtorEq, Nat.reduceLeDiff, Int.reduceEq, Int.reduceLT, Int.reduceLE, Int.reduceSub, Int.reduceAdd, Int.reduceMul, Int.reduceNeg, Int.reduceToNat, Nat.reduceMul, Nat.reduceSub, Nat.reduceDiv, Int.reduceMod, Int.reduceDiv, Int.reduceTDiv, Int.reduceTMod]
            repeat' (first
              | ((with_reducible refine split_guard ?_ ?_) <;> intro hb <;> simp only [hb, q9, go_sem, Nat.reduceAdd, Nat.reduceLT, Nat.reduceBEq, Nat.reduceEqDiff, reduceIte, reduceCtorEq, Nat.reduceLeDiff, Int.reduceEq, Int.reduceLT, Int.reduceLE, Int.reduceSub, Int.reduceAdd, Int.reduceMul, Int.reduceNeg, Int.reduceToNat, Nat.reduceMul, Nat.reduceSub, Nat.reduceDiv, Int.reduceMod, Int.reduceDiv, Int.reduceTDiv, Int.reduceTMod])
              | ((with_reducible refine split_cond ?_ ?_) <;> intro hb <;> simp only [hb, q9, go_sem, Nat.reduceAdd, Nat.reduceLT, Nat.reduceBEq, Nat.reduceEqDiff, reduceIte, reduceCtorEq, Nat.reduceLeDiff, Int.reduceEq, Int.reduceLT, Int.reduceLE, Int.reduceSub, Int.reduceAdd, Int.reduceMul, Int.reduceNeg, Int.reduceToNat, Nat.reduceMul, Nat.reduceSub, Nat.reduceDiv, Int.reduceMod, Int.reduceDiv, Int.reduceTDiv, Int.reduceTMod])
              | ((with_reducible refine split_guardY ?_ ?_) <;> intro hb <;> simp only [hb, q9, go_sem, Nat.reduceAdd, Nat.reduceLT, Nat.reduceBEq, Nat.reduceEqDiff, reduceIte, reduceCtorEq, Nat.reduceLeDiff, Int.reduceEq, Int.reduceLT, Int.reduceLE, Int.reduceSub, Int.reduceAdd, Int.reduceMul, Int.reduceNeg, Int.reduceToNat, Nat.reduceMul, Nat.reduceSub, Nat.reduceDiv, Int.reduceMod, Int.reduceDiv, Int.reduceTDiv, Int.reduceTMod])
              | ((with_reducible refine and_orderN (by kernel_rfl) ?_ ?_) <;> (try simp only [q9, go_sem, Nat.reduceAdd, Nat.reduceLT, Nat.reduceBEq, Nat.reduceEqDiff, reduceIte, reduceCtorEq, Nat.reduceLeDiff, Int.reduceEq, Int.reduceLT, Int.reduceLE, Int.reduceSub, Int.reduceAdd, Int.reduceMul, Int.reduceNeg, Int.reduceToNat, Nat.reduceMul, Nat.reduceSub, Nat.reduceDiv, Int.reduceMod, Int.reduceDiv, Int.reduceTDiv, Int.reduceTMod]))
              | ((with_reducible refine (and_orderN (A := True) (by kernel_rfl) ?_ trivial).1) <;> (try simp only [q9, go_sem, Nat.reduceAdd, Nat.reduceLT, Nat.reduceBEq, Nat.reduceEqDiff, reduceIte, reduceCtorEq, Nat.reduceLeDiff, Int.reduceEq, Int.reduceLT, Int.reduceLE, Int.reduceSub, Int.reduceAdd, Int.reduceMul, Int.reduceNeg, Int.reduceToNat, Nat.reduceMul, Nat.reduceSub, Nat.reduceDiv, Int.reduceMod, Int.reduceDiv, Int.reduceTDiv, Int.reduceTMod]))
              | (with_reducible exact (show bitOf _ _ _ = true by decide +kernel))
              | (with_reducible refine and_nomen ?_ ?_)
              | (with_reducible refine nomen_p (by first | rfl | simp only [go_sem, Nat.reduceBEq, Nat.reduceLeDiff, Nat.reduceEqDiff, reduceCtorEq, reduceIte]) ?_)
              | (with_reducible refine nomen_s (by first | rfl | simp only [go_sem, Nat.reduceBEq, Nat.reduceLeDiff, Nat.reduceEqDiff, reduceCtorEq, reduceIte]) ?_)
              | (with_reducible refine nomen_setB0 _ _ _ ?_)
              | (with_reducible refine nomen_p0 (by first | rfl | simp only [go_sem, Nat.reduceBEq, Nat.reduceLeDiff, Nat.reduceEqDiff, reduceCtorEq, reduceIte]) ?_)
              | (with_reducible refine nomen_j ?_)
              | (with_reducible exact nomen_i (by first | rfl | simp only [go_sem, Nat.reduceBEq, Nat.reduceLeDiff, Nat.reduceEqDiff, reduceCtorEq, reduceIte]))
              | (with_reducible exact nomen_iB (by first | rfl | simp only [go_sem, Nat.reduceBEq, Nat.reduceLeDiff, Nat.reduceEqDiff, reduceCtorEq, reduceIte]) (by first | rfl | simp only [go_sem, Nat.reduceBEq, Nat.reduceLeDiff, Nat.reduceEqDiff, reduceCtorEq, reduceIte]) (by decide))
              | (with_reducible exact nomen_b)
              | (with_reducible refine leX_nil (by simp only [go_sem, Nat.reduceBEq, Nat.reduceLeDiff, Nat.reduceEqDiff, reduceCtorEq, reduceIte]) ?_)
              | ((with_reducible refine leX_put ?_ ?_) <;> (try simp only [q9, go_sem, Nat.reduceAdd, Nat.reduceLT, Nat.reduceBEq, Nat.reduceEqDiff, reduceIte, reduceCtorEq, Nat.reduceLeDiff, Int.reduceEq, Int.reduceLT, Int.reduceLE, Int.reduceSub, Int.reduceAdd, Int.reduceMul, Int.reduceNeg, Int.reduceToNat, Nat.reduceMul, Nat.reduceSub, Nat.reduceDiv, Int.reduceMod, Int.reduceDiv, Int.reduceTDiv, Int.reduceTMod]))
              | (with_reducible refine leX_boxnil ?_)
              | ((with_reducible refine leX_box ?_ ?_) <;> (try simp only [q9, go_sem, Nat.reduceAdd, Nat.reduceLT, Nat.reduceBEq, Nat.reduceEqDiff, reduceIte, reduceCtorEq, Nat.reduceLeDiff, Int.reduceEq, Int.reduceLT, Int.reduceLE, Int.reduceSub, Int.reduceAdd, Int.reduceMul, Int.reduceNeg, Int.reduceToNat, Nat.reduceMul, Nat.reduceSub, Nat.reduceDiv, Int.reduceMod, Int.reduceDiv, Int.reduceTDiv, Int.reduceTMod]))
              | (with_reducible refine leX_boxnone ?_)
              | (with_reducible exact leX_base rfl)
              | (with_reducible refine leX_junkF ?_)
              | (with_reducible exact kp_refl)
              | (with_reducible refine kp_fx rfl (by first | exact Or.inl rfl | (refine Or.inr ?_; simp only [go_sem, Nat.reduceBEq, Nat.reduceLeDiff, Nat.reduceEqDiff, reduceCtorEq, reduceIte])) ?_)
              | (with_reducible refine kp_put rfl ?_)
              | (with_reducible refine kp_setB (by first | exact Or.inl rfl | (refine Or.inr ?_; simp only [go_sem, Nat.reduceBEq, Nat.reduceLeDiff, Nat.reduceEqDiff, reduceCtorEq, reduceIte])) ?_)
              | (with_reducible refine kp_junkF (by decide) ?_)
              | (with_reducible refine fx_put (by first | rfl | simp only [go_sem, Nat.reduceBEq, Nat.reduceLeDiff, Nat.reduceEqDiff, reduceCtorEq, reduceIte]) ?_)
              | (with_reducible refine fx_setB (by first | rfl | simp only [go_sem, Nat.reduceBEq, Nat.reduceLeDiff, Nat.reduceEqDiff, reduceCtorEq, reduceIte]) ?_)
              | (with_reducible refine fx_setN ?_)
              | (with_reducible refine fx_junkF ?_)
              | (with_reducible exact fx_init (by first | rfl | simp only [go_sem, Nat.reduceBEq, Nat.reduceLeDiff, Nat.reduceEqDiff, reduceCtorEq, reduceIte]))
              | (with_reducible exact fx_initB (by first | rfl | simp only [go_sem, Nat.reduceBEq, Nat.reduceLeDiff, Nat.reduceEqDiff, reduceCtorEq, reduceIte]) (by first | rfl | simp only [go_sem, Nat.reduceBEq, Nat.reduceLeDiff, Nat.reduceEqDiff, reduceCtorEq, reduceIte]) rfl (by decide) (by decide))
              | (with_reducible exact fx_base)
              | (with_reducible refine And.intro ?_ ?_))
            all_goals (try simp only [Bool.not_eq_true', Bool.not_eq_false', Bool.and_eq_true, Bool.and_eq_false_iff, decide_eq_true_eq, decide_eq_false_iff_not, Bool.or_eq_true, Bool.or_eq_false_iff, Bool.not_true, Bool.not_false, Bool.false_eq_true, false_iff, true_iff, bne_iff_ne, beq_iff_eq, ne_eq, iff_true, iff_false, not_and, not_or, List.length_append, List.length_drop, List.length_take, List.length_replicate, List.length_range] at *)
            all_goals (try omega)
            · refine loop_at (α := Nat) 9 (fun k => [(9, I k)]) (fun k => [(55, some ⟨IL .i64 (castL ((rowN (bkN l i) t).set t (pwN (bkN l i) t k))), 0, false, false⟩)]) (fun k => k ≤ 4) (fun k => 4 - k) 0 (le_sw [] rfl rfl ?_) ?_ ?_
              · (try dsimp only)
                simp only [go_sem, Nat.reduceAdd, Nat.reduceLT, Nat.reduceBEq, Nat.reduceEqDiff, reduceIte, reduceCtorEq, Nat.reduceLeDiff, Int.reduceEq, Int.reduceLT, Int.reduceLE, Int.reduceSub, Int.reduceAdd, Int.reduceMul, Int.reduceNeg, Int.reduceToNat, Nat.reduceMul, Nat.reduceSub, Nat.reduceDiv, Int.reduceMod, Int.reduceDiv, Int.reduceTDiv, Int.reduceTMod]
                repeat' (first
                  | ((with_reducible refine split_guard ?_ ?_) <;> intro hb <;> simp only [hb, go_sem, Nat.reduceAdd, Nat.reduceLT, Nat.reduceBEq, Nat.reduceEqDiff, reduceIte, reduceCtorEq, Nat.reduceLeDiff, Int.reduceEq, Int.reduceLT, Int.reduceLE, Int.reduceSub, Int.reduceAdd, Int.reduceMul, Int.reduceNeg, Int.reduceToNat, Nat.reduceMul, Nat.reduceSub, Nat.reduceDiv, Int.reduceMod, Int.reduceDiv, Int.reduceTDiv, Int.reduceTMod])
                  | ((with_reducible refine split_cond ?_ ?_) <;> intro hb <;> simp only [hb, go_sem, Nat.reduceAdd, Nat.reduceLT, Nat.reduceBEq, Nat.reduceEqDiff, reduceIte, reduceCtorEq, Nat.reduceLeDiff, Int.reduceEq, Int.reduceLT, Int.reduceLE, Int.reduceSub, Int.reduceAdd, Int.reduceMul, Int.reduceNeg, Int.reduceToNat, Nat.reduceMul, Nat.reduceSub, Nat.reduceDiv, Int.reduceMod, Int.reduceDiv, Int.reduceTDiv, Int.reduceTMod])
                  | ((with_reducible refine split_guardY ?_ ?_) <;> intro hb <;> simp only [hb, go_sem, Nat.reduceAdd, Nat.reduceLT, Nat.reduceBEq, Nat.reduceEqDiff, reduceIte, reduceCtorEq, Nat.reduceLeDiff, Int.reduceEq, Int.reduceLT, Int.reduceLE, Int.reduceSub, Int.reduceAdd, Int.reduceMul, Int.reduceNeg, Int.reduceToNat, Nat.reduceMul, Nat.reduceSub, Nat.reduceDiv, Int.reduceMod, Int.reduceDiv, Int.reduceTDiv, Int.reduceTMod])
                  | ((with_reducible refine and_orderN (by kernel_rfl) ?_ ?_) <;> (try simp only [go_sem, Nat.reduceAdd, Nat.reduceLT, Nat.reduceBEq, Nat.reduceEqDiff, reduceIte, reduceCtorEq, Nat.reduceLeDiff, Int.reduceEq, Int.reduceLT, Int.reduceLE, Int.reduceSub, Int.reduceAdd, Int.reduceMul, Int.reduceNeg, Int.reduceToNat, Nat.reduceMul, Nat.reduceSub, Nat.reduceDiv, Int.reduceMod, Int.reduceDiv, Int.reduceTDiv, Int.reduceTMod]))
                  | ((with_reducible refine (and_orderN (A := True) (by kernel_rfl) ?_ trivial).1) <;> (try simp only [go_sem, Nat.reduceAdd, Nat.reduceLT, Nat.reduceBEq, Nat.reduceEqDiff, reduceIte, reduceCtorEq, Nat.reduceLeDiff, Int.reduceEq, Int.reduceLT, Int.reduceLE, Int.reduceSub, Int.reduceAdd, Int.reduceMul, Int.reduceNeg, Int.reduceToNat, Nat.reduceMul, Nat.reduceSub, Nat.reduceDiv, Int.reduceMod, Int.reduceDiv, Int.reduceTDiv, Int.reduceTMod]))
                  | (with_reducible exact (show bitOf _ _ _ = true by decide +kernel))
                  | (with_reducible refine and_nomen ?_ ?_)
                  | (with_reducible refine nomen_p (by first | rfl | simp only [go_sem, Nat.reduceBEq, Nat.reduceLeDiff, Nat.reduceEqDiff, reduceCtorEq, reduceIte]) ?_)
                  | (with_reducible refine nomen_s (by first | rfl | simp only [go_sem, Nat.reduceBEq, Nat.reduceLeDiff, Nat.reduceEqDiff, reduceCtorEq, reduceIte]) ?_)
                  | (with_reducible refine nomen_setB0 _ _ _ ?_)
                  | (with_reducible refine nomen_p0 (by first | rfl | simp only [go_sem, Nat.reduceBEq, Nat.reduceLeDiff, Nat.reduceEqDiff, reduceCtorEq, reduceIte]) ?_)
                  | (with_reducible refine nomen_j ?_)
                  | (with_reducible exact nomen_i (by first | rfl | simp only [go_sem, Nat.reduceBEq, Nat.reduceLeDiff, Nat.reduceEqDiff, reduceCtorEq, reduceIte]))
                  | (with_reducible exact nomen_iB (by first | rfl | simp only [go_sem, Nat.reduceBEq, Nat.reduceLeDiff, Nat.reduceEqDiff, reduceCtorEq, reduceIte]) (by first | rfl | simp only [go_sem, Nat.reduceBEq, Nat.reduceLeDiff, Nat.reduceEqDiff, reduceCtorEq, reduceIte]) (by decide))
                  | (with_reducible exact nomen_b)
                  | (with_reducible refine leX_nil (by simp only [go_sem, Nat.reduceBEq, Nat.reduceLeDiff, Nat.reduceEqDiff, reduceCtorEq, reduceIte]) ?_)
                  | ((with_reducible refine leX_put ?_ ?_) <;> (try simp only [go_sem, Nat.reduceAdd, Nat.reduceLT, Nat.reduceBEq, Nat.reduceEqDiff, reduceIte, reduceCtorEq, Nat.reduceLeDiff, Int.reduceEq, Int.reduceLT, Int.reduceLE, Int.reduceSub, Int.reduceAdd, Int.reduceMul, Int.reduceNeg, Int.reduceToNat, Nat.reduceMul, Nat.reduceSub, Nat.reduceDiv, Int.reduceMod, Int.reduceDiv, Int.reduceTDiv, Int.reduceTMod]))
                  | (with_reducible refine leX_boxnil ?_)
                  | ((with_reducible refine leX_box ?_ ?_) <;> (try simp only [go_sem, Nat.reduceAdd, Nat.reduceLT, Nat.reduceBEq, Nat.reduceEqDiff, reduceIte, reduceCtorEq, Nat.reduceLeDiff, Int.reduceEq, Int.reduceLT, Int.reduceLE, Int.reduceSub, Int.reduceAdd, Int.reduceMul, Int.reduceNeg, Int.reduceToNat, Nat.reduceMul, Nat.reduceSub, Nat.reduceDiv, Int.reduceMod, Int.reduceDiv, Int.reduceTDiv, Int.reduceTMod]))
                  | (with_reducible refine leX_boxnone ?_)
                  | (with_reducible exact leX_base rfl)
                  | (with_reducible refine leX_junkF ?_)
                  | (with_reducible exact kp_refl)
                  | (with_reducible refine kp_fx rfl (by first | exact Or.inl rfl | (refine Or.inr ?_; simp only [go_sem, Nat.reduceBEq, Nat.reduceLeDiff, Nat.reduceEqDiff, reduceCtorEq, reduceIte])) ?_)
                  | (with_reducible refine kp_put rfl ?_)
                  | (with_reducible refine kp_setB (by first | exact Or.inl rfl | (refine Or.inr ?_; simp only [go_sem, Nat.reduceBEq, Nat.reduceLeDiff, Nat.reduceEqDiff, reduceCtorEq, reduceIte])) ?_)
                  | (with_reducible refine kp_junkF (by decide) ?_)
                  | (with_reducible refine fx_put (by first | rfl | simp only [go_sem, Nat.reduceBEq, Nat.reduceLeDiff, Nat.reduceEqDiff, reduceCtorEq, reduceIte]) ?_)
                  | (with_reducible refine fx_setB (by first | rfl | simp only [go_sem, Nat.reduceBEq, Nat.reduceLeDiff, Nat.reduceEqDiff, reduceCtorEq, reduceIte]) ?_)
                  | (with_reducible refine fx_setN ?_)
                  | (with_reducible refine fx_junkF ?_)
                  | (with_reducible exact fx_init (by first | rfl | simp only [go_sem, Nat.reduceBEq, Nat.reduceLeDiff, Nat.reduceEqDiff, reduceCtorEq, reduceIte]))
                  | (with_reducible exact fx_initB (by first | rfl | simp only [go_sem, Nat.reduceBEq, Nat.reduceLeDiff, Nat.reduceEqDiff, reduceCtorEq, reduceIte]) (by first | rfl | simp only [go_sem, Nat.reduceBEq, Nat.reduceLeDiff, Nat.reduceEqDiff, reduceCtorEq, reduceIte]) rfl (by decide) (by decide))
                  | (with_reducible exact fx_base)
                  | (with_reducible refine And.intro ?_ ?_))
                all_goals (try simp only [Bool.not_eq_true', Bool.not_eq_false', Bool.and_eq_true, Bool.and_eq_false_iff, decide_eq_true_eq, decide_eq_false_iff_not, Bool.or_eq_true, Bool.or_eq_false_iff, Bool.not_true, Bool.not_false, Bool.false_eq_true, false_iff, true_iff, bne_iff_ne, beq_iff_eq, ne_eq, iff_true, iff_false, not_and, not_or, List.length_append, List.length_drop, List.length_take, List.length_replicate, List.length_range] at *)
                all_goals (try omega)
                all_goals (rw [pwN, rowN_set0 (by omega)])
              · (try dsimp only)
                first | omega | exact ⟨by omega, by omega⟩ | skip
              · intro k hk4
                try dsimp only at hk4
                have hrl : (rowN (bkN l i) t).length = 80 := rowN_len (by omega)
                have hb256 := bkN_lt hp.2 i
                have hpw : pwN (bkN l i) t k < 4294967296 := Nat.lt_of_lt_of_le (pwN_lt hb256 t k) (Nat.le_trans (Nat.pow_le_pow_right (by decide) hk4) (by decide))
                have gp : ∀ j, nthN (padL l) j < 256 := fun j => nthN_all (p := fun x => x < 256) (padL_lt hp.2) (by omega) j
                have gp1 := gp (64 * i + 4 * t + k)
                have q9 : IntKind.i64.wrap ((t : Int) + 1) = ((t + 1 : Nat) : Int) := i64n (t + 1) (by omega)
                have q8 : IntKind.i64.wrap ((k : Int) + 1) = ((k + 1 : Nat) : Int) := i64n (k + 1) (by omega)
                have q1 : IntKind.i64.wrap (4 * (t : Int)) = ((4 * t : Nat) : Int) := i64n (4 * t) (by omega)
                have q2 : IntKind.i64.wrap (((64 * i : Nat) : Int) + ((4 * t : Nat) : Int)) = ((64 * i + 4 * t : Nat) : Int) := i64n _ (by omega)
                have q3 : IntKind.i64.wrap (((64 * i + 4 * t : Nat) : Int) + (k : Int)) = ((64 * i + 4 * t + k : Nat) : Int) := i64n _ (by omega)
                have hget : nthN ((rowN (bkN l i) t).set t (pwN (bkN l i) t k)) t = pwN (bkN l i) t k := by
                  rw [nthN_lt (by rw [List.length_set, hrl]; omega), List.getElem_set_self]
                have v1 : IntKind.i64.wrap (((pwN (bkN l i) t k : Nat) : Int) * 256) = ((pwN (bkN l i) t k * 256 : Nat) : Int) := i64n (pwN (bkN l i) t k * 256) (by omega)
                have v2 : IntKind.i64.wrap ((nthN (padL l) (64 * i + 4 * t + k) : Nat) : Int) = ((nthN (padL l) (64 * i + 4 * t + k) : Nat) : Int) := i64n _ (by omega)
                have v3 : IntKind.i64.wrap (((pwN (bkN l i) t k * 256 : Nat) : Int) + ((nthN (padL l) (64 * i + 4 * t + k) : Nat) : Int)) = ((pwN (bkN l i) t k * 256 + nthN (padL l) (64 * i + 4 * t + k) : Nat) : Int) := i64n _ (by omega)
                try dsimp only
                simp only [q1, q2, q3, q8, q9, hget, v1, v2, v3, hrl, List.length_set, go_sem, Nat.reduceAdd, Nat.reduceLT, Nat.reduceBEq, Nat.reduceEqDiff, reduceIte, reduceCtorEq, Nat.reduceLeDiff, Int.reduceEq, Int.reduceLT, Int.reduceLE, Int.reduceSub, Int.reduceAdd, Int.reduceMul, Int.reduceNeg, Int.reduceToNat, Nat.reduceMul, Nat.reduceSub, Nat.reduceDiv, Int.reduceMod, Int.reduceDiv, Int.reduceTDiv, Int.reduceTMod]
                repeat' (first
                  | ((with_reducible refine split_guard ?_ ?_) <;> intro hb <;> simp only [hb, q1, q2, q3, q8, q9, hget, v1, v2, v3, hrl, List.length_set, go_sem, Nat.reduceAdd, Nat.reduceLT, Nat.reduceBEq, Nat.reduceEqDiff, reduceIte, reduceCtorEq, Nat.reduceLeDiff, Int.reduceEq, Int.reduceLT, Int.reduceLE, Int.reduceSub, Int.reduceAdd, Int.reduceMul, Int.reduceNeg, Int.reduceToNat, Nat.reduceMul, Nat.reduceSub, Nat.reduceDiv, Int.reduceMod, Int.reduceDiv, Int.reduceTDiv, Int.reduceTMod])
                  | ((with_reducible refine split_cond ?_ ?_) <;> intro hb <;> simp only [hb, q1, q2, q3, q8, q9, hget, v1, v2, v3, hrl, List.length_set, go_sem, Nat.reduceAdd, Nat.reduceLT, Nat.reduceBEq, Nat.reduceEqDiff, reduceIte, reduceCtorEq, Nat.reduceLeDiff, Int.reduceEq, Int.reduceLT, Int.reduceLE, Int.reduceSub, Int.reduceAdd, Int.reduceMul, Int.reduceNeg, Int.reduceToNat, Nat.reduceMul, Nat.reduceSub, Nat.reduceDiv, Int.reduceMod, Int.reduceDiv, Int.reduceTDiv, Int.reduceTMod])
                  | ((with_reducible refine split_guardY ?_ ?_) <;> intro hb <;> simp only [hb, q1, q2, q3, q8, q9, hget, v1, v2, v3, hrl, List.length_set, go_sem, Nat.reduceAdd, Nat.reduceLT, Nat.reduceBEq, Nat.reduceEqDiff, reduceIte, reduceCtorEq, Nat.reduceLeDiff, Int.reduceEq, Int.reduceLT, Int.reduceLE, Int.reduceSub, Int.reduceAdd, Int.reduceMul, Int.reduceNeg, Int.reduceToNat, Nat.reduceMul, Nat.reduceSub, Nat.reduceDiv, Int.reduceMod, Int.reduceDiv, Int.reduceTDiv, Int.reduceTMod])
                  | ((with_reducible refine and_orderN (by kernel_rfl) ?_ ?_) <;> (try simp only [q1, q2, q3, q8, q9, hget, v1, v2, v3, hrl, List.length_set, go_sem, Nat.reduceAdd, Nat.reduceLT, Nat.reduceBEq, Nat.reduceEqDiff, reduceIte, reduceCtorEq, Nat.reduceLeDiff, Int.reduceEq, Int.reduceLT, Int.reduceLE, Int.reduceSub, Int.reduceAdd, Int.reduceMul, Int.reduceNeg, Int.reduceToNat, Nat.reduceMul, Nat.reduceSub, Nat.reduceDiv, Int.reduceMod, Int.reduceDiv, Int.reduceTDiv, Int.reduceTMod]))
                  | ((with_reducible refine (and_orderN (A := True) (by kernel_rfl) ?_ trivial).1) <;> (try simp only [q1, q2, q3, q8, q9, hget, v1, v2, v3, hrl, List.length_set, go_sem, Nat.reduceAdd, Nat.reduceLT, Nat.reduceBEq, Nat.reduceEqDiff, reduceIte, reduceCtorEq, Nat.reduceLeDiff, Int.reduceEq, Int.reduceLT, Int.reduceLE, Int.reduceSub, Int.reduceAdd, Int.reduceMul, Int.reduceNeg, Int.reduceToNat, Nat.reduceMul, Nat.reduceSub, Nat.reduceDiv, Int.reduceMod, Int.reduceDiv, Int.reduceTDiv, Int.reduceTMod]))
                  | (with_reducible exact (show bitOf _ _ _ = true by decide +kernel))
                  | (with_reducible refine and_nomen ?_ ?_)
                  | (with_reducible refine nomen_p (by first | rfl | simp only [go_sem, Nat.reduceBEq, Nat.reduceLeDiff, Nat.reduceEqDiff, reduceCtorEq, reduceIte]) ?_)
                  | (with_reducible refine nomen_s (by first | rfl | simp only [go_sem, Nat.reduceBEq, Nat.reduceLeDiff, Nat.reduceEqDiff, reduceCtorEq, reduceIte]) ?_)
                  | (with_reducible refine nomen_setB0 _ _ _ ?_)
                  | (with_reducible refine nomen_p0 (by first | rfl | simp only [go_sem, Nat.reduceBEq, Nat.reduceLeDiff, Nat.reduceEqDiff, reduceCtorEq, reduceIte]) ?_)
                  | (with_reducible refine nomen_j ?_)
                  | (with_reducible exact nomen_i (by first | rfl | simp only [go_sem, Nat.reduceBEq, Nat.reduceLeDiff, Nat.reduceEqDiff, reduceCtorEq, reduceIte]))
                  | (with_reducible exact nomen_iB (by first | rfl | simp only [go_sem, Nat.reduceBEq, Nat.reduceLeDiff, Nat.reduceEqDiff, reduceCtorEq, reduceIte]) (by first | rfl | simp only [go_sem, Nat.reduceBEq, Nat.reduceLeDiff, Nat.reduceEqDiff, reduceCtorEq, reduceIte]) (by decide))
                  | (with_reducible exact nomen_b)
                  | (with_reducible refine leX_nil (by simp only [go_sem, Nat.reduceBEq, Nat.reduceLeDiff, Nat.reduceEqDiff, reduceCtorEq, reduceIte]) ?_)
                  | ((with_reducible refine leX_put ?_ ?_) <;> (try simp only [q1, q2, q3, q8, q9, hget, v1, v2, v3, hrl, List.length_set, go_sem, Nat.reduceAdd, Nat.reduceLT, Nat.reduceBEq, Nat.reduceEqDiff, reduceIte, reduceCtorEq, Nat.reduceLeDiff, Int.reduceEq, Int.reduceLT, Int.reduceLE, Int.reduceSub, Int.reduceAdd, Int.reduceMul, Int.reduceNeg, Int.reduceToNat, Nat.reduceMul, Nat.reduceSub, Nat.reduceDiv, Int.reduceMod, Int.reduceDiv, Int.reduceTDiv, Int.reduceTMod]))
                  | (with_reducible refine leX_boxnil ?_)
                  | ((with_reducible refine leX_box ?_ ?_) <;> (try simp only [q1, q2, q3, q8, q9, hget, v1, v2, v3, hrl, List.length_set, go_sem, Nat.reduceAdd, Nat.reduceLT, Nat.reduceBEq, Nat.reduceEqDiff, reduceIte, reduceCtorEq, Nat.reduceLeDiff, Int.reduceEq, Int.reduceLT, Int.reduceLE, Int.reduceSub, Int.reduceAdd, Int.reduceMul, Int.reduceNeg, Int.reduceToNat, Nat.reduceMul, Nat.reduceSub, Nat.reduceDiv, Int.reduceMod, Int.reduceDiv, Int.reduceTDiv, Int.reduceTMod]))
                  | (with_reducible refine leX_boxnone ?_)
                  | (with_reducible exact leX_base rfl)
                  | (with_reducible refine leX_junkF ?_)
                  | (with_reducible exact kp_refl)
                  | (with_reducible refine kp_fx rfl (by first | exact Or.inl rfl | (refine Or.inr ?_; simp only [go_sem, Nat.reduceBEq, Nat.reduceLeDiff, Nat.reduceEqDiff, reduceCtorEq, reduceIte])) ?_)
                  | (with_reducible refine kp_put rfl ?_)
                  | (with_reducible refine kp_setB (by first | exact Or.inl rfl | (refine Or.inr ?_; simp only [go_sem, Nat.reduceBEq, Nat.reduceLeDiff, Nat.reduceEqDiff, reduceCtorEq, reduceIte])) ?_)
                  | (with_reducible refine kp_junkF (by decide) ?_)
                  | (with_reducible refine fx_put (by first | rfl | simp only [go_sem, Nat.reduceBEq, Nat.reduceLeDiff, Nat.reduceEqDiff, reduceCtorEq, reduceIte]) ?_)
                  | (with_reducible refine fx_setB (by first | rfl | simp only [go_sem, Nat.reduceBEq, Nat.reduceLeDiff, Nat.reduceEqDiff, reduceCtorEq, reduceIte]) ?_)
                  | (with_reducible refine fx_setN ?_)
                  | (with_reducible refine fx_junkF ?_)
                  | (with_reducible exact fx_init (by first | rfl | simp only [go_sem, Nat.reduceBEq, Nat.reduceLeDiff, Nat.reduceEqDiff, reduceCtorEq, reduceIte]))
                  | (with_reducible exact fx_initB (by first | rfl | simp only [go_sem, Nat.reduceBEq, Nat.reduceLeDiff, Nat.reduceEqDiff, reduceCtorEq, reduceIte]) (by first | rfl | simp only [go_sem, Nat.reduceBEq, Nat.reduceLeDiff, Nat.reduceEqDiff, reduceCtorEq, reduceIte]) rfl (by decide) (by decide))
                  | (with_reducible exact fx_base)
                  | ((with_reducible refine again_of (t + 1) (le_sw [] rfl rfl ?_) (by (try dsimp only); (try simp only [Bool.not_eq_true', Bool.not_eq_false', Bool.and_eq_true, Bool.and_eq_false_iff, decide_eq_true_eq, decide_eq_false_iff_not, Bool.or_eq_true, Bool.or_eq_false_iff, Bool.not_true, Bool.not_false, Bool.false_eq_true, false_iff, true_iff, bne_iff_ne, beq_iff_eq, ne_eq, iff_true, iff_false, not_and, not_or] at *); omega) ?_) <;> (try dsimp only) <;> (try simp only [go_sem, Nat.reduceAdd, Nat.reduceLT, Nat.reduceBEq, Nat.reduceEqDiff, reduceIte, reduceCtorEq, Nat.reduceLeDiff, Int.reduceEq, Int.reduceLT, Int.reduceLE, Int.reduceSub, Int.reduceAdd, Int.reduceMul, Int.reduceNeg, Int.reduceToNat, Nat.reduceMul, Nat.reduceSub, Nat.reduceDiv, Int.reduceMod, Int.reduceDiv, Int.reduceTDiv, Int.reduceTMod]))
                  | ((with_reducible refine again_of (k + 1) (le_sw [] rfl rfl ?_) ?_ ?_) <;> (try dsimp only) <;> (try simp only [go_sem, Nat.reduceAdd, Nat.reduceLT, Nat.reduceBEq, Nat.reduceEqDiff, reduceIte, reduceCtorEq, Nat.reduceLeDiff, Int.reduceEq, Int.reduceLT, Int.reduceLE, Int.reduceSub, Int.reduceAdd, Int.reduceMul, Int.reduceNeg, Int.reduceToNat, Nat.reduceMul, Nat.reduceSub, Nat.reduceDiv, Int.reduceMod, Int.reduceDiv, Int.reduceTDiv, Int.reduceTMod]))
                  | (with_reducible refine And.intro ?_ ?_))
                all_goals (try simp only [Bool.not_eq_true', Bool.not_eq_false', Bool.and_eq_true, Bool.and_eq_false_iff, decide_eq_true_eq, decide_eq_false_iff_not, Bool.or_eq_true, Bool.or_eq_false_iff, Bool.not_true, Bool.not_false, Bool.false_eq_true, false_iff, true_iff, bne_iff_ne, beq_iff_eq, ne_eq, iff_true, iff_false, not_and, not_or, List.length_append, List.length_drop, List.length_take, List.length_replicate, List.length_range] at *)
                all_goals (try omega)
                · rw [setL_castL _ _ _ (by rw [List.length_set, hrl]; omega), List.set_set, pwN, bkN_nth (by omega), Nat.add_assoc (64 * i)]
                · obtain rfl : k = 4 := by omega
                  rw [pwN_4, ← w80_lo (by omega), rowN_next (by omega)]
            obtain rfl : t = 16 := by omega
            clear q9 ht hb
            refine loop_at (α := Nat) 10 (fun t => [(10, I t)]) (fun t => [(55, some ⟨IL .i64 (castL (rowN (bkN l i) t)), 0, false, false⟩)]) (fun t => 16 ≤ t ∧ t ≤ 80) (fun t => 80 - t) 16 (le_sw [] rfl rfl ?_) ?_ ?_
            · (try dsimp only)
              simp only [go_sem, Nat.reduceAdd, Nat.reduceLT, Nat.reduceBEq, Nat.reduceEqDiff, reduceIte, reduceCtorEq, Nat.reduceLeDiff, Int.reduceEq, Int.reduceLT, Int.reduceLE, Int.reduceSub, Int.reduceAdd, Int.reduceMul, Int.reduceNeg, Int.reduceToNat, Nat.reduceMul, Nat.reduceSub, Nat.reduceDiv, Int.reduceMod, Int.reduceDiv, Int.reduceTDiv, Int.reduceTMod]
              repeat' (first
                | ((with_reducible refine split_guard ?_ ?_) <;> intro hb <;> simp only [hb, go_sem, Nat.reduceAdd, Nat.reduceLT, Nat.reduceBEq, Nat.reduceEqDiff, reduceIte, reduceCtorEq, Nat.reduceLeDiff, Int.reduceEq, Int.reduceLT, Int.reduceLE, Int.reduceSub, Int.reduceAdd, Int.reduceMul, Int.reduceNeg, Int.reduceToNat, Nat.reduceMul, Nat.reduceSub, Nat.reduceDiv, Int.reduceMod, Int.reduceDiv, Int.reduceTDiv, Int.reduceTMod])
                | ((with_reducible refine split_cond ?_ ?_) <;> intro hb <;> simp only [hb, go_sem, Nat.reduceAdd, Nat.reduceLT, Nat.reduceBEq, Nat.reduceEqDiff, reduceIte, reduceCtorEq, Nat.reduceLeDiff, Int.reduceEq, Int.reduceLT, Int.reduceLE, Int.reduceSub, Int.reduceAdd, Int.reduceMul, Int.reduceNeg, Int.reduceToNat, Nat.reduceMul, Nat.reduceSub, Nat.reduceDiv, Int.reduceMod, Int.reduceDiv, Int.reduceTDiv, Int.reduceTMod])
                | ((with_reducible refine split_guardY ?_ ?_) <;> intro hb <;> simp only [hb, go_sem, Nat.reduceAdd, Nat.reduceLT, Nat.reduceBEq, Nat.reduceEqDiff, reduceIte, reduceCtorEq, Nat.reduceLeDiff, Int.reduceEq, Int.reduceLT, Int.reduceLE, Int.reduceSub, Int.reduceAdd, Int.reduceMul, Int.reduceNeg, Int.reduceToNat, Nat.reduceMul, Nat.reduceSub, Nat.reduceDiv, Int.reduceMod, Int.reduceDiv, Int.reduceTDiv, Int.reduceTMod])
                | ((with_reducible refine and_orderN (by kernel_rfl) ?_ ?_) <;> (try simp only [go_sem, Nat.reduceAdd, Nat.reduceLT, Nat.reduceBEq, Nat.reduceEqDiff, reduceIte, reduceCtorEq, Nat.reduceLeDiff, Int.reduceEq, Int.reduceLT, Int.reduceLE, Int.reduceSub, Int.reduceAdd, Int.reduceMul, Int.reduceNeg, Int.reduceToNat, Nat.reduceMul, Nat.reduceSub, Nat.reduceDiv, Int.reduceMod, Int.reduceDiv, Int.reduceTDiv, Int.reduceTMod]))
                | ((with_reducible refine (and_orderN (A := True) (by kernel_rfl) ?_ trivial).1) <;> (try simp only [go_sem, Nat.reduceAdd, Nat.reduceLT, Nat.reduceBEq, Nat.reduceEqDiff, reduceIte, reduceCtorEq, Nat.reduceLeDiff, Int.reduceEq, Int.reduceLT, Int.reduceLE, Int.reduceSub, Int.reduceAdd, Int.reduceMul, Int.reduceNeg, Int.reduceToNat, Nat.reduceMul, Nat.reduceSub, Nat.reduceDiv, Int.reduceMod, Int.reduceDiv, Int.reduceTDiv, Int.reduceTMod]))
                | (with_reducible exact (show bitOf _ _ _ = true by decide +kernel))
                | (with_reducible refine and_nomen ?_ ?_)
                | (with_reducible refine nomen_p (by first | rfl | simp only [go_sem, Nat.reduceBEq, Nat.reduceLeDiff, Nat.reduceEqDiff, reduceCtorEq, reduceIte]) ?_)
                | (with_reducible refine nomen_s (by first | rfl | simp only [go_sem, Nat.reduceBEq, Nat.reduceLeDiff, Nat.reduceEqDiff, reduceCtorEq, reduceIte]) ?_)
                | (with_reducible refine nomen_setB0 _ _ _ ?_)
                | (with_reducible refine nomen_p0 (by first | rfl | simp only [go_sem, Nat.reduceBEq, Nat.reduceLeDiff, Nat.reduceEqDiff, reduceCtorEq, reduceIte]) ?_)
                | (with_reducible refine nomen_j ?_)
                | (with_reducible exact nomen_i (by first | rfl | simp only [go_sem, Nat.reduceBEq, Nat.reduceLeDiff, Nat.reduceEqDiff, reduceCtorEq, reduceIte]))
                | (with_reducible exact nomen_iB (by first | rfl | simp only [go_sem, Nat.reduceBEq, Nat.reduceLeDiff, Nat.reduceEqDiff, reduceCtorEq, reduceIte]) (by first | rfl | simp only [go_sem, Nat.reduceBEq, Nat.reduceLeDiff, Nat.reduceEqDiff, reduceCtorEq, reduceIte]) (by decide))
                | (with_reducible exact nomen_b)
                | (with_reducible refine leX_nil (by simp only [go_sem, Nat.reduceBEq, Nat.reduceLeDiff, Nat.reduceEqDiff, reduceCtorEq, reduceIte]) ?_)
                | ((with_reducible refine leX_put ?_ ?_) <;> (try simp only [go_sem, Nat.reduceAdd, Nat.reduceLT, Nat.reduceBEq, Nat.reduceEqDiff, reduceIte, reduceCtorEq, Nat.reduceLeDiff, Int.reduceEq, Int.reduceLT, Int.reduceLE, Int.reduceSub, Int.reduceAdd, Int.reduceMul, Int.reduceNeg, Int.reduceToNat, Nat.reduceMul, Nat.reduceSub, Nat.reduceDiv, Int.reduceMod, Int.reduceDiv, Int.reduceTDiv, Int.reduceTMod]))
                | (with_reducible refine leX_boxnil ?_)
                | ((with_reducible refine leX_box ?_ ?_) <;> (try simp only [go_sem, Nat.reduceAdd, Nat.reduceLT, Nat.reduceBEq, Nat.reduceEqDiff, reduceIte, reduceCtorEq, Nat.reduceLeDiff, Int.reduceEq, Int.reduceLT, Int.reduceLE, Int.reduceSub, Int.reduceAdd, Int.reduceMul, Int.reduceNeg, Int.reduceToNat, Nat.reduceMul, Nat.reduceSub, Nat.reduceDiv, Int.reduceMod, Int.reduceDiv, Int.reduceTDiv, Int.reduceTMod]))
                | (with_reducible refine leX_boxnone ?_)
                | (with_reducible exact leX_base rfl)
                | (with_reducible refine leX_junkF ?_)
                | (with_reducible exact kp_refl)
                | (with_reducible refine kp_fx rfl (by first | exact Or.inl rfl | (refine Or.inr ?_; simp only [go_sem, Nat.reduceBEq, Nat.reduceLeDiff, Nat.reduceEqDiff, reduceCtorEq, reduceIte])) ?_)
                | (with_reducible refine kp_put rfl ?_)
                | (with_reducible refine kp_setB (by first | exact Or.inl rfl | (refine Or.inr ?_; simp only [go_sem, Nat.reduceBEq, Nat.reduceLeDiff, Nat.reduceEqDiff, reduceCtorEq, reduceIte])) ?_)
                | (with_reducible refine kp_junkF (by decide) ?_)
                | (with_reducible refine fx_put (by first | rfl | simp only [go_sem, Nat.reduceBEq, Nat.reduceLeDiff, Nat.reduceEqDiff, reduceCtorEq, reduceIte]) ?_)
                | (with_reducible refine fx_setB (by first | rfl | simp only [go_sem, Nat.reduceBEq, Nat.reduceLeDiff, Nat.reduceEqDiff, reduceCtorEq, reduceIte]) ?_)
                | (with_reducible refine fx_setN ?_)
                | (with_reducible refine fx_junkF ?_)
                | (with_reducible exact fx_init (by first | rfl | simp only [go_sem, Nat.reduceBEq, Nat.reduceLeDiff, Nat.reduceEqDiff, reduceCtorEq, reduceIte]))
                | (with_reducible exact fx_initB (by first | rfl | simp only [go_sem, Nat.reduceBEq, Nat.reduceLeDiff, Nat.reduceEqDiff, reduceCtorEq, reduceIte]) (by first | rfl | simp only [go_sem, Nat.reduceBEq, Nat.reduceLeDiff, Nat.reduceEqDiff, reduceCtorEq, reduceIte]) rfl (by decide) (by decide))
                | (with_reducible exact fx_base)
                | (with_reducible refine And.intro ?_ ?_))
              all_goals (try simp only [Bool.not_eq_true', Bool.not_eq_false', Bool.and_eq_true, Bool.and_eq_false_iff, decide_eq_true_eq, decide_eq_false_iff_not, Bool.or_eq_true, Bool.or_eq_false_iff, Bool.not_true, Bool.not_false, Bool.false_eq_true, false_iff, true_iff, bne_iff_ne, beq_iff_eq, ne_eq, iff_true, iff_false, not_and, not_or, List.length_append, List.length_drop, List.length_take, List.length_replicate, List.length_range] at *)
              all_goals (try omega)
            · (try dsimp only)
              first | omega | exact ⟨by omega, by omega⟩ | skip
            · intro t ht
              try dsimp only at ht
              have h16 := ht.1
              have hrl : (rowN (bkN l i) t).length = 80 := rowN_len ht.2
              have q9 : IntKind.i64.wrap ((t : Int) + 1) = ((t + 1 : Nat) : Int) := i64n (t + 1) (by omega)
              have w3 : IntKind.i64.wrap ((t : Int) - 3) = (t : Int) - 3 := IntWalk.i64_in _ (by omega)
              have w8 : IntKind.i64.wrap ((t : Int) - 8) = (t : Int) - 8 := IntWalk.i64_in _ (by omega)
              have w14 : IntKind.i64.wrap ((t : Int) - 14) = (t : Int) - 14 := IntWalk.i64_in _ (by omega)
              have w16 : IntKind.i64.wrap ((t : Int) - 16) = (t : Int) - 16 := IntWalk.i64_in _ (by omega)
              have n3 : ((t : Int) - 3).toNat = t - 3 := by omega
              have n8 : ((t : Int) - 8).toNat = t - 8 := by omega
              have n14 : ((t : Int) - 14).toNat = t - 14 := by omega
              have n16 : ((t : Int) - 16).toNat = t - 16 := by omega
              have k3 := rowN_lo (b := bkN l i) (show t - 3 < t by omega) ht.2
              have k8 := rowN_lo (b := bkN l i) (show t - 8 < t by omega) ht.2
              have k14 := rowN_lo (b := bkN l i) (show t - 14 < t by omega) ht.2
              have k16 := rowN_lo (b := bkN l i) (show t - 16 < t by omega) ht.2
              have g : ∀ j, nthN (w80 (bkN l i)) j < 4294967296 := fun j => nthN_all (p := fun x => x < 4294967296) (w80_lt (bkN_lt hp.2 i)) (by omega) j
              have m3 := g (t - 3)
              have m8 := g (t - 8)
              have m14 := g (t - 14)
              have m16 := g (t - 16)
              have hx1 := wXor_i (show nthN (w80 (bkN l i)) (t - 3) < 9223372036854775808 by omega) (show nthN (w80 (bkN l i)) (t - 8) < 9223372036854775808 by omega)
              have hr1 := xor_lt (w := 32) m3 m8
              have hx2 := wXor_i (show nthN (w80 (bkN l i)) (t - 3) ^^^ nthN (w80 (bkN l i)) (t - 8) < 9223372036854775808 by omega) (show nthN (w80 (bkN l i)) (t - 14) < 9223372036854775808 by omega)
              have hr2 := xor_lt (w := 32) hr1 m14
              have hx3 := wXor_i (show nthN (w80 (bkN l i)) (t - 3) ^^^ nthN (w80 (bkN l i)) (t - 8) ^^^ nthN (w80 (bkN l i)) (t - 14) < 9223372036854775808 by omega) (show nthN (w80 (bkN l i)) (t - 16) < 9223372036854775808 by omega)
              have hr3 := xor_lt (w := 32) hr2 m16
              have hrot : turnG [I (nthN (w80 (bkN l i)) (t - 3) ^^^ nthN (w80 (bkN l i)) (t - 8) ^^^ nthN (w80 (bkN l i)) (t - 14) ^^^ nthN (w80 (bkN l i)) (t - 16)), I 1] = some (I (rotN (nthN (w80 (bkN l i)) (t - 3) ^^^ nthN (w80 (bkN l i)) (t - 8) ^^^ nthN (w80 (bkN l i)) (t - 14) ^^^ nthN (w80 (bkN l i)) (t - 16)) 1)) := turnG_eq _ 1 ⟨hr3, by decide⟩
              try dsimp only
              simp only [q9, w3, w8, w14, w16, n3, n8, n14, n16, k3, k8, k14, k16, hx1, hx2, hx3, hrot, hrl, hsl, go_sem, Nat.reduceAdd, Nat.reduceLT, Nat.reduceBEq, Nat.reduceEqDiff, reduceIte, reduceCtorEq, Nat.reduceLeDiff, Int.reduceEq, Int.reduceLT, Int.reduceLE, Int.reduceSub, Int.reduceAdd, Int.reduceMul, Int.reduceNeg, Int.reduceToNat, Nat.reduceMul, Nat.reduceSub, Nat.reduceDiv, Int.reduceMod, Int.reduceDiv, Int.reduceTDiv, Int.reduceTMod]
              repeat' (first
                | ((with_reducible refine split_guard ?_ ?_) <;> intro hb <;> simp only [hb, q9, w3, w8, w14, w16, n3, n8, n14, n16, k3, k8, k14, k16, hx1, hx2, hx3, hrot, hrl, hsl, go_sem, Nat.reduceAdd, Nat.reduceLT, Nat.reduceBEq, Nat.reduceEqDiff, reduceIte, reduceCtorEq, Nat.reduceLeDiff, Int.reduceEq, Int.reduceLT, Int.reduceLE, Int.reduceSub, Int.reduceAdd, Int.reduceMul, Int.reduceNeg, Int.reduceToNat, Nat.reduceMul, Nat.reduceSub, Nat.reduceDiv, Int.reduceMod, Int.reduceDiv, Int.reduceTDiv, Int.reduceTMod])
                | ((with_reducible refine split_cond ?_ ?_) <;> intro hb <;> simp only [hb, q9, w3, w8, w14, w16, n3, n8, n14, n16, k3, k8, k14, k16, hx1, hx2, hx3, hrot, hrl, hsl, go_sem, Nat.reduceAdd, Nat.reduceLT, Nat.reduceBEq, Nat.reduceEqDiff, reduceIte, reduceCtorEq, Nat.reduceLeDiff, Int.reduceEq, Int.reduceLT, Int.reduceLE, Int.reduceSub, Int.reduceAdd, Int.reduceMul, Int.reduceNeg, Int.reduceToNat, Nat.reduceMul, Nat.reduceSub, Nat.reduceDiv, Int.reduceMod, Int.reduceDiv, Int.reduceTDiv, Int.reduceTMod])
                | ((with_reducible refine split_guardY ?_ ?_) <;> intro hb <;> simp only [hb, q9, w3, w8, w14, w16, n3, n8, n14, n16, k3, k8, k14, k16, hx1, hx2, hx3, hrot, hrl, hsl, go_sem, Nat.reduceAdd, Nat.reduceLT, Nat.reduceBEq, Nat.reduceEqDiff, reduceIte, reduceCtorEq, Nat.reduceLeDiff, Int.reduceEq, Int.reduceLT, Int.reduceLE, Int.reduceSub, Int.reduceAdd, Int.reduceMul, Int.reduceNeg, Int.reduceToNat, Nat.reduceMul, Nat.reduceSub, Nat.reduceDiv, Int.reduceMod, Int.reduceDiv, Int.reduceTDiv, Int.reduceTMod])
                | ((with_reducible refine and_orderN (by kernel_rfl) ?_ ?_) <;> (try simp only [q9, w3, w8, w14, w16, n3, n8, n14, n16, k3, k8, k14, k16, hx1, hx2, hx3, hrot, hrl, hsl, go_sem, Nat.reduceAdd, Nat.reduceLT, Nat.reduceBEq, Nat.reduceEqDiff, reduceIte, reduceCtorEq, Nat.reduceLeDiff, Int.reduceEq, Int.reduceLT, Int.reduceLE, Int.reduceSub, Int.reduceAdd, Int.reduceMul, Int.reduceNeg, Int.reduceToNat, Nat.reduceMul, Nat.reduceSub, Nat.reduceDiv, Int.reduceMod, Int.reduceDiv, Int.reduceTDiv, Int.reduceTMod]))
                | ((with_reducible refine (and_orderN (A := True) (by kernel_rfl) ?_ trivial).1) <;> (try simp only [q9, w3, w8, w14, w16, n3, n8, n14, n16, k3, k8, k14, k16, hx1, hx2, hx3, hrot, hrl, hsl, go_sem, Nat.reduceAdd, Nat.reduceLT, Nat.reduceBEq, Nat.reduceEqDiff, reduceIte, reduceCtorEq, Nat.reduceLeDiff, Int.reduceEq, Int.reduceLT, Int.reduceLE, Int.reduceSub, Int.reduceAdd, Int.reduceMul, Int.reduceNeg, Int.reduceToNat, Nat.reduceMul, Nat.reduceSub, Nat.reduceDiv, Int.reduceMod, Int.reduceDiv, Int.reduceTDiv, Int.reduceTMod]))
                | (with_reducible exact (show bitOf _ _ _ = true by decide +kernel))
                | (with_reducible refine and_nomen ?_ ?_)
                | (with_reducible refine nomen_p (by first | rfl | simp only [go_sem, Nat.reduceBEq, Nat.reduceLeDiff, Nat.reduceEqDiff, reduceCtorEq, reduceIte]) ?_)
                | (with_reducible refine nomen_s (by first | rfl | simp only [go_sem, Nat.reduceBEq, Nat.reduceLeDiff, Nat.reduceEqDiff, reduceCtorEq, reduceIte]) ?_)
                | (with_reducible refine nomen_setB0 _ _ _ ?_)
                | (with_reducible refine nomen_p0 (by first | rfl | simp only [go_sem, Nat.reduceBEq, Nat.reduceLeDiff, Nat.reduceEqDiff, reduceCtorEq, reduceIte]) ?_)
                | (with_reducible refine nomen_j ?_)
                | (with_reducible exact nomen_i (by first | rfl | simp only [go_sem, Nat.reduceBEq, Nat.reduceLeDiff, Nat.reduceEqDiff, reduceCtorEq, reduceIte]))
                | (with_reducible exact nomen_iB (by first | rfl | simp only [go_sem, Nat.reduceBEq, Nat.reduceLeDiff, Nat.reduceEqDiff, reduceCtorEq, reduceIte]) (by first | rfl | simp only [go_sem, Nat.reduceBEq, Nat.reduceLeDiff, Nat.reduceEqDiff, reduceCtorEq, reduceIte]) (by decide))
                | (with_reducible exact nomen_b)
                | (with_reducible refine leX_nil (by simp only [go_sem, Nat.reduceBEq, Nat.reduceLeDiff, Nat.reduceEqDiff, reduceCtorEq, reduceIte]) ?_)
                | ((with_reducible refine leX_put ?_ ?_) <;> (try simp only [q9, w3, w8, w14, w16, n3, n8, n14, n16, k3, k8, k14, k16, hx1, hx2, hx3, hrot, hrl, hsl, go_sem, Nat.reduceAdd, Nat.reduceLT, Nat.reduceBEq, Nat.reduceEqDiff, reduceIte, reduceCtorEq, Nat.reduceLeDiff, Int.reduceEq, Int.reduceLT, Int.reduceLE, Int.reduceSub, Int.reduceAdd, Int.reduceMul, Int.reduceNeg, Int.reduceToNat, Nat.reduceMul, Nat.reduceSub, Nat.reduceDiv, Int.reduceMod, Int.reduceDiv, Int.reduceTDiv, Int.reduceTMod]))
                | (with_reducible refine leX_boxnil ?_)
                | ((with_reducible refine leX_box ?_ ?_) <;> (try simp only [q9, w3, w8, w14, w16, n3, n8, n14, n16, k3, k8, k14, k16, hx1, hx2, hx3, hrot, hrl, hsl, go_sem, Nat.reduceAdd, Nat.reduceLT, Nat.reduceBEq, Nat.reduceEqDiff, reduceIte, reduceCtorEq, Nat.reduceLeDiff, Int.reduceEq, Int.reduceLT, Int.reduceLE, Int.reduceSub, Int.reduceAdd, Int.reduceMul, Int.reduceNeg, Int.reduceToNat, Nat.reduceMul, Nat.reduceSub, Nat.reduceDiv, Int.reduceMod, Int.reduceDiv, Int.reduceTDiv, Int.reduceTMod]))
                | (with_reducible refine leX_boxnone ?_)
                | (with_reducible exact leX_base rfl)
                | (with_reducible refine leX_junkF ?_)
                | (with_reducible exact kp_refl)
                | (with_reducible refine kp_fx rfl (by first | exact Or.inl rfl | (refine Or.inr ?_; simp only [go_sem, Nat.reduceBEq, Nat.reduceLeDiff, Nat.reduceEqDiff, reduceCtorEq, reduceIte])) ?_)
                | (with_reducible refine kp_put rfl ?_)
                | (with_reducible refine kp_setB (by first | exact Or.inl rfl | (refine Or.inr ?_; simp only [go_sem, Nat.reduceBEq, Nat.reduceLeDiff, Nat.reduceEqDiff, reduceCtorEq, reduceIte])) ?_)
                | (with_reducible refine kp_junkF (by decide) ?_)
                | (with_reducible refine fx_put (by first | rfl | simp only [go_sem, Nat.reduceBEq, Nat.reduceLeDiff, Nat.reduceEqDiff, reduceCtorEq, reduceIte]) ?_)
                | (with_reducible refine fx_setB (by first | rfl | simp only [go_sem, Nat.reduceBEq, Nat.reduceLeDiff, Nat.reduceEqDiff, reduceCtorEq, reduceIte]) ?_)
                | (with_reducible refine fx_setN ?_)
                | (with_reducible refine fx_junkF ?_)
                | (with_reducible exact fx_init (by first | rfl | simp only [go_sem, Nat.reduceBEq, Nat.reduceLeDiff, Nat.reduceEqDiff, reduceCtorEq, reduceIte]))
                | (with_reducible exact fx_initB (by first | rfl | simp only [go_sem, Nat.reduceBEq, Nat.reduceLeDiff, Nat.reduceEqDiff, reduceCtorEq, reduceIte]) (by first | rfl | simp only [go_sem, Nat.reduceBEq, Nat.reduceLeDiff, Nat.reduceEqDiff, reduceCtorEq, reduceIte]) rfl (by decide) (by decide))
                | (with_reducible exact fx_base)
                | ((with_reducible refine again_of (t + 1) (le_sw [] rfl rfl ?_) ?_ ?_) <;> (try dsimp only) <;> (try simp only [go_sem, Nat.reduceAdd, Nat.reduceLT, Nat.reduceBEq, Nat.reduceEqDiff, reduceIte, reduceCtorEq, Nat.reduceLeDiff, Int.reduceEq, Int.reduceLT, Int.reduceLE, Int.reduceSub, Int.reduceAdd, Int.reduceMul, Int.reduceNeg, Int.reduceToNat, Nat.reduceMul, Nat.reduceSub, Nat.reduceDiv, Int.reduceMod, Int.reduceDiv, Int.reduceTDiv, Int.reduceTMod]))
                | (with_reducible refine And.intro ?_ ?_))
              all_goals (try simp only [Bool.not_eq_true', Bool.not_eq_false', Bool.and_eq_true, Bool.and_eq_false_iff, decide_eq_true_eq, decide_eq_false_iff_not, Bool.or_eq_true, Bool.or_eq_false_iff, Bool.not_true, Bool.not_false, Bool.false_eq_true, false_iff, true_iff, bne_iff_ne, beq_iff_eq, ne_eq, iff_true, iff_false, not_and, not_or, List.length_append, List.length_drop, List.length_take, List.length_replicate, List.length_range] at *)
              all_goals (try omega)
              · rw [setL_castL _ _ _ (by omega), ← w80_hi h16 (by omega), rowN_next (by omega)]
              obtain rfl : t = 80 := by omega
              clear h16 hrl q9 w3 w8 w14 w16 n3 n8 n14 n16 k3 k8 k14 k16 g m3 m8 m14 m16 hx1 hr1 hx2 hr2 hx3 hr3 hrot ht hb
              refine loop_at (α := Nat) 11 (fun t => [(11, I (nthN (xN l i t) 0)), (12, I (nthN (xN l i t) 1)), (13, I (nthN (xN l i t) 2)), (14, I (nthN (xN l i t) 3)), (15, I (nthN (xN l i t) 4)), (16, I t)]) (fun t => [(55, some ⟨IL .i64 (castL (w80 (bkN l i))), 0, false, false⟩)]) (fun t => t ≤ 80) (fun t => 80 - t) 0 (le_sw [] rfl rfl ?_) ?_ ?_
              · (try dsimp only)
                simp only [go_sem, Nat.reduceAdd, Nat.reduceLT, Nat.reduceBEq, Nat.reduceEqDiff, reduceIte, reduceCtorEq, Nat.reduceLeDiff, Int.reduceEq, Int.reduceLT, Int.reduceLE, Int.reduceSub, Int.reduceAdd, Int.reduceMul, Int.reduceNeg, Int.reduceToNat, Nat.reduceMul, Nat.reduceSub, Nat.reduceDiv, Int.reduceMod, Int.reduceDiv, Int.reduceTDiv, Int.reduceTMod]
                repeat' (first
                  | ((with_reducible refine split_guard ?_ ?_) <;> intro hb <;> simp only [hb, go_sem, Nat.reduceAdd, Nat.reduceLT, Nat.reduceBEq, Nat.reduceEqDiff, reduceIte, reduceCtorEq, Nat.reduceLeDiff, Int.reduceEq, Int.reduceLT, Int.reduceLE, Int.reduceSub, Int.reduceAdd, Int.reduceMul, Int.reduceNeg, Int.reduceToNat, Nat.reduceMul, Nat.reduceSub, Nat.reduceDiv, Int.reduceMod, Int.reduceDiv, Int.reduceTDiv, Int.reduceTMod])
                  | ((with_reducible refine split_cond ?_ ?_) <;> intro hb <;> simp only [hb, go_sem, Nat.reduceAdd, Nat.reduceLT, Nat.reduceBEq, Nat.reduceEqDiff, reduceIte, reduceCtorEq, Nat.reduceLeDiff, Int.reduceEq, Int.reduceLT, Int.reduceLE, Int.reduceSub, Int.reduceAdd, Int.reduceMul, Int.reduceNeg, Int.reduceToNat, Nat.reduceMul, Nat.reduceSub, Nat.reduceDiv, Int.reduceMod, Int.reduceDiv, Int.reduceTDiv, Int.reduceTMod])
                  | ((with_reducible refine split_guardY ?_ ?_) <;> intro hb <;> simp only [hb, go_sem, Nat.reduceAdd, Nat.reduceLT, Nat.reduceBEq, Nat.reduceEqDiff, reduceIte, reduceCtorEq, Nat.reduceLeDiff, Int.reduceEq, Int.reduceLT, Int.reduceLE, Int.reduceSub, Int.reduceAdd, Int.reduceMul, Int.reduceNeg, Int.reduceToNat, Nat.reduceMul, Nat.reduceSub, Nat.reduceDiv, Int.reduceMod, Int.reduceDiv, Int.reduceTDiv, Int.reduceTMod])
                  | ((with_reducible refine and_orderN (by kernel_rfl) ?_ ?_) <;> (try simp only [go_sem, Nat.reduceAdd, Nat.reduceLT, Nat.reduceBEq, Nat.reduceEqDiff, reduceIte, reduceCtorEq, Nat.reduceLeDiff, Int.reduceEq, Int.reduceLT, Int.reduceLE, Int.reduceSub, Int.reduceAdd, Int.reduceMul, Int.reduceNeg, Int.reduceToNat, Nat.reduceMul, Nat.reduceSub, Nat.reduceDiv, Int.reduceMod, Int.reduceDiv, Int.reduceTDiv, Int.reduceTMod]))
                  | ((with_reducible refine (and_orderN (A := True) (by kernel_rfl) ?_ trivial).1) <;> (try simp only [go_sem, Nat.reduceAdd, Nat.reduceLT, Nat.reduceBEq, Nat.reduceEqDiff, reduceIte, reduceCtorEq, Nat.reduceLeDiff, Int.reduceEq, Int.reduceLT, Int.reduceLE, Int.reduceSub, Int.reduceAdd, Int.reduceMul, Int.reduceNeg, Int.reduceToNat, Nat.reduceMul, Nat.reduceSub, Nat.reduceDiv, Int.reduceMod, Int.reduceDiv, Int.reduceTDiv, Int.reduceTMod]))
                  | (with_reducible exact (show bitOf _ _ _ = true by decide +kernel))
                  | (with_reducible refine and_nomen ?_ ?_)
                  | (with_reducible refine nomen_p (by first | rfl | simp only [go_sem, Nat.reduceBEq, Nat.reduceLeDiff, Nat.reduceEqDiff, reduceCtorEq, reduceIte]) ?_)
                  | (with_reducible refine nomen_s (by first | rfl | simp only [go_sem, Nat.reduceBEq, Nat.reduceLeDiff, Nat.reduceEqDiff, reduceCtorEq, reduceIte]) ?_)
                  | (with_reducible refine nomen_setB0 _ _ _ ?_)
                  | (with_reducible refine nomen_p0 (by first | rfl | simp only [go_sem, Nat.reduceBEq, Nat.reduceLeDiff, Nat.reduceEqDiff, reduceCtorEq, reduceIte]) ?_)
                  | (with_reducible refine nomen_j ?_)
                  | (with_reducible exact nomen_i (by first | rfl | simp only [go_sem, Nat.reduceBEq, Nat.reduceLeDiff, Nat.reduceEqDiff, reduceCtorEq, reduceIte]))
                  | (with_reducible exact nomen_iB (by first | rfl | simp only [go_sem, Nat.reduceBEq, Nat.reduceLeDiff, Nat.reduceEqDiff, reduceCtorEq, reduceIte]) (by first | rfl | simp only [go_sem, Nat.reduceBEq, Nat.reduceLeDiff, Nat.reduceEqDiff, reduceCtorEq, reduceIte]) (by decide))
                  | (with_reducible exact nomen_b)
                  | (with_reducible refine leX_nil (by simp only [go_sem, Nat.reduceBEq, Nat.reduceLeDiff, Nat.reduceEqDiff, reduceCtorEq, reduceIte]) ?_)
                  | ((with_reducible refine leX_put ?_ ?_) <;> (try simp only [go_sem, Nat.reduceAdd, Nat.reduceLT, Nat.reduceBEq, Nat.reduceEqDiff, reduceIte, reduceCtorEq, Nat.reduceLeDiff, Int.reduceEq, Int.reduceLT, Int.reduceLE, Int.reduceSub, Int.reduceAdd, Int.reduceMul, Int.reduceNeg, Int.reduceToNat, Nat.reduceMul, Nat.reduceSub, Nat.reduceDiv, Int.reduceMod, Int.reduceDiv, Int.reduceTDiv, Int.reduceTMod]))
                  | (with_reducible refine leX_boxnil ?_)
                  | ((with_reducible refine leX_box ?_ ?_) <;> (try simp only [go_sem, Nat.reduceAdd, Nat.reduceLT, Nat.reduceBEq, Nat.reduceEqDiff, reduceIte, reduceCtorEq, Nat.reduceLeDiff, Int.reduceEq, Int.reduceLT, Int.reduceLE, Int.reduceSub, Int.reduceAdd, Int.reduceMul, Int.reduceNeg, Int.reduceToNat, Nat.reduceMul, Nat.reduceSub, Nat.reduceDiv, Int.reduceMod, Int.reduceDiv, Int.reduceTDiv, Int.reduceTMod]))
                  | (with_reducible refine leX_boxnone ?_)
                  | (with_reducible exact leX_base rfl)
                  | (with_reducible refine leX_junkF ?_)
                  | (with_reducible exact kp_refl)
                  | (with_reducible refine kp_fx rfl (by first | exact Or.inl rfl | (refine Or.inr ?_; simp only [go_sem, Nat.reduceBEq, Nat.reduceLeDiff, Nat.reduceEqDiff, reduceCtorEq, reduceIte])) ?_)
                  | (with_reducible refine kp_put rfl ?_)
                  | (with_reducible refine kp_setB (by first | exact Or.inl rfl | (refine Or.inr ?_; simp only [go_sem, Nat.reduceBEq, Nat.reduceLeDiff, Nat.reduceEqDiff, reduceCtorEq, reduceIte])) ?_)
                  | (with_reducible refine kp_junkF (by decide) ?_)
                  | (with_reducible refine fx_put (by first | rfl | simp only [go_sem, Nat.reduceBEq, Nat.reduceLeDiff, Nat.reduceEqDiff, reduceCtorEq, reduceIte]) ?_)
                  | (with_reducible refine fx_setB (by first | rfl | simp only [go_sem, Nat.reduceBEq, Nat.reduceLeDiff, Nat.reduceEqDiff, reduceCtorEq, reduceIte]) ?_)
                  | (with_reducible refine fx_setN ?_)
                  | (with_reducible refine fx_junkF ?_)
                  | (with_reducible exact fx_init (by first | rfl | simp only [go_sem, Nat.reduceBEq, Nat.reduceLeDiff, Nat.reduceEqDiff, reduceCtorEq, reduceIte]))
                  | (with_reducible exact fx_initB (by first | rfl | simp only [go_sem, Nat.reduceBEq, Nat.reduceLeDiff, Nat.reduceEqDiff, reduceCtorEq, reduceIte]) (by first | rfl | simp only [go_sem, Nat.reduceBEq, Nat.reduceLeDiff, Nat.reduceEqDiff, reduceCtorEq, reduceIte]) rfl (by decide) (by decide))
                  | (with_reducible exact fx_base)
                  | (with_reducible refine And.intro ?_ ?_))
                all_goals (try simp only [Bool.not_eq_true', Bool.not_eq_false', Bool.and_eq_true, Bool.and_eq_false_iff, decide_eq_true_eq, decide_eq_false_iff_not, Bool.or_eq_true, Bool.or_eq_false_iff, Bool.not_true, Bool.not_false, Bool.false_eq_true, false_iff, true_iff, bne_iff_ne, beq_iff_eq, ne_eq, iff_true, iff_false, not_and, not_or, List.length_append, List.length_drop, List.length_take, List.length_replicate, List.length_range] at *)
                all_goals (try omega)
                all_goals first
                  | rfl
                  | (rw [rowN_80]; done)
              · (try dsimp only)
                first | omega | exact ⟨by omega, by omega⟩ | skip
              · intro t ht
                try dsimp only at ht
                have q9 : IntKind.i64.wrap ((t : Int) + 1) = ((t + 1 : Nat) : Int) := i64n (t + 1) (Nat.lt_of_le_of_lt (Nat.succ_le_succ ht) (by decide))
                have gx : ∀ j, nthN (xN l i t) j < 4294967296 := fun j => nthN_all (xN_lt l i t) (by decide) j
                have g0 := gx 0
                have g1 := gx 1
                have g2 := gx 2
                have g3 := gx 3
                have g4 := gx 4
                have gw : nthN (w80 (bkN l i)) t < 4294967296 := nthN_all (p := fun x => x < 4294967296) (w80_lt (bkN_lt hp.2 i)) (by decide) t
                have r5 : turnG [I (nthN (xN l i t) 0), I 5] = some (I (rotN (nthN (xN l i t) 0) 5)) := turnG_eq _ 5 ⟨g0, by decide⟩
                have r30 : turnG [I (nthN (xN l i t) 1), I 30] = some (I (rotN (nthN (xN l i t) 1) 30)) := turnG_eq _ 30 ⟨g1, by decide⟩
                have hrl := rotN_lt g0 (show 5 ≤ 32 by decide)
                have l1 : nthN (xN l i t) 1 &&& nthN (xN l i t) 2 < 4294967296 := and_lt (w := 32) g1
                have l9 : 4294967295 - nthN (xN l i t) 1 < 4294967296 := Nat.lt_of_le_of_lt (Nat.sub_le _ _) (by decide)
                have l2 : (4294967295 - nthN (xN l i t) 1) &&& nthN (xN l i t) 3 < 4294967296 := Nat.lt_of_le_of_lt Nat.and_le_right g3
                have l3 : nthN (xN l i t) 1 &&& nthN (xN l i t) 3 < 4294967296 := and_lt (w := 32) g1
                have l4 : nthN (xN l i t) 2 &&& nthN (xN l i t) 3 < 4294967296 := and_lt (w := 32) g2
                have l5 : (nthN (xN l i t) 1 &&& nthN (xN l i t) 2) ||| (nthN (xN l i t) 1 &&& nthN (xN l i t) 3) < 4294967296 := or_lt (w := 32) l1 l3
                have l7 : (nthN (xN l i t) 1 &&& nthN (xN l i t) 2) ||| (nthN (xN l i t) 1 &&& nthN (xN l i t) 3) ||| (nthN (xN l i t) 2 &&& nthN (xN l i t) 3) < 4294967296 := or_lt (w := 32) l5 l4
                have l6 : nthN (xN l i t) 1 ^^^ nthN (xN l i t) 2 < 4294967296 := xor_lt (w := 32) g1 g2
                have l8 : nthN (xN l i t) 1 ^^^ nthN (xN l i t) 2 ^^^ nthN (xN l i t) 3 < 4294967296 := xor_lt (w := 32) l6 g3
                have e1 := wAnd_i (lt63 g1) (lt63 g2)
                have e2 := notI g1
                have e3 := wAnd_i (lt63 l9) (lt63 g3)
                have e4 := wAnd_i (lt63 g1) (lt63 g3)
                have e5 := wAnd_i (lt63 g2) (lt63 g3)
                have e6 := addI l1 l2
                have e7 := wOr_i (lt63 l1) (lt63 l3)
                have e8 := wOr_i (lt63 l5) (lt63 l4)
                have e9 := wXor_i (lt63 g1) (lt63 g2)
                have e10 := wXor_i (lt63 l6) (lt63 g3)
                have gs : ∀ j, nthN (stN (padL l) i) j < 4294967296 := fun j => nthN_all hst (by decide) j
                have z0 := addI (gs 0) g0
                have z1 := addI (gs 1) g1
                have z2 := addI (gs 2) g2
                have z3 := addI (gs 3) g3
                have z4 := addI (gs 4) g4
                obtain ⟨a01, a02, a03, a04⟩ := sum4 (f := (nthN (xN l i t) 1 &&& nthN (xN l i t) 2) + ((4294967295 - nthN (xN l i t) 1) &&& nthN (xN l i t) 3)) (k := 1518500249) hrl (Nat.add_lt_add l1 l2) g4 (by decide) gw
                obtain ⟨a11, a12, a13, a14⟩ := sum4 (f := nthN (xN l i t) 1 ^^^ nthN (xN l i t) 2 ^^^ nthN (xN l i t) 3) (k := 1859775393) hrl (lt33 l8) g4 (by decide) gw
                obtain ⟨a21, a22, a23, a24⟩ := sum4 (f := (nthN (xN l i t) 1 &&& nthN (xN l i t) 2) ||| (nthN (xN l i t) 1 &&& nthN (xN l i t) 3) ||| (nthN (xN l i t) 2 &&& nthN (xN l i t) 3)) (k := 2400959708) hrl (lt33 l7) g4 (by decide) gw
                obtain ⟨a31, a32, a33, a34⟩ := sum4 (f := nthN (xN l i t) 1 ^^^ nthN (xN l i t) 2 ^^^ nthN (xN l i t) 3) (k := 3395469782) hrl (lt33 l8) g4 (by decide) gw

                try dsimp only
                simp only [q9, q64, r5, r30, e1, e2, e3, e4, e5, e6, e7, e8, e9, e10, z0, z1, z2, z3, z4, tm32, w80_len, hsl, a03, a04, a01, a02, a13, a14, a11, a12, a23, a24, a21, a22, a33, a34, go_sem, Nat.reduceAdd, Nat.reduceLT, Nat.reduceBEq, Nat.reduceEqDiff, reduceIte, reduceCtorEq, Nat.reduceLeDiff, Int.reduceEq, Int.reduceLT, Int.reduceLE, Int.reduceSub, Int.reduceAdd, Int.reduceMul, Int.reduceNeg, Int.reduceToNat, Nat.reduceMul, Nat.reduceSub, Nat.reduceDiv, Int.reduceMod, Int.reduceDiv, Int.reduceTDiv, Int.reduceTMod]
                repeat' (first
                  | ((with_reducible refine split_guard ?_ ?_) <;> intro hb <;> simp only [hb, q9, q64, r5, r30, e1, e2, e3, e4, e5, e6, e7, e8, e9, e10, z0, z1, z2, z3, z4, tm32, w80_len, hsl, a03, a04, a01, a02, a13, a14, a11, a12, a23, a24, a21, a22, a33, a34, go_sem, Nat.reduceAdd, Nat.reduceLT, Nat.reduceBEq, Nat.reduceEqDiff, reduceIte, reduceCtorEq, Nat.reduceLeDiff, Int.reduceEq, Int.reduceLT, Int.reduceLE, Int.reduceSub, Int.reduceAdd, Int.reduceMul, Int.reduceNeg, Int.reduceToNat, Nat.reduceMul, Nat.reduceSub, Nat.reduceDiv, Int.reduceMod, Int.reduceDiv, Int.reduceTDiv, Int.reduceTMod])
                  | ((with_reducible refine split_cond ?_ ?_) <;> intro hb <;> simp only [hb, q9, q64, r5, r30, e1, e2, e3, e4, e5, e6, e7, e8, e9, e10, z0, z1, z2, z3, z4, tm32, w80_len, hsl, a03, a04, a01, a02, a13, a14, a11, a12, a23, a24, a21, a22, a33, a34, go_sem, Nat.reduceAdd, Nat.reduceLT, Nat.reduceBEq, Nat.reduceEqDiff, reduceIte, reduceCtorEq, Nat.reduceLeDiff, Int.reduceEq, Int.reduceLT, Int.reduceLE, Int.reduceSub, Int.reduceAdd, Int.reduceMul, Int.reduceNeg, Int.reduceToNat, Nat.reduceMul, Nat.reduceSub, Nat.reduceDiv, Int.reduceMod, Int.reduceDiv, Int.reduceTDiv, Int.reduceTMod])
                  | ((with_reducible refine split_guardY ?_ ?_) <;> intro hb <;> simp only [hb, q9, q64, r5, r30, e1, e2, e3, e4, e5, e6, e7, e8, e9, e10, z0, z1, z2, z3, z4, tm32, w80_len, hsl, a03, a04, a01, a02, a13, a14, a11, a12, a23, a24, a21, a22, a33, a34, go_sem, Nat.reduceAdd, Nat.reduceLT, Nat.reduceBEq, Nat.reduceEqDiff, reduceIte, reduceCtorEq, Nat.reduceLeDiff, Int.reduceEq, Int.reduceLT, Int.reduceLE, Int.reduceSub, Int.reduceAdd, Int.reduceMul, Int.reduceNeg, Int.reduceToNat, Nat.reduceMul, Nat.reduceSub, Nat.reduceDiv, Int.reduceMod, Int.reduceDiv, Int.reduceTDiv, Int.reduceTMod])
                  | ((with_reducible refine and_orderN (by kernel_rfl) ?_ ?_) <;> (try simp only [q9, q64, r5, r30, e1, e2, e3, e4, e5, e6, e7, e8, e9, e10, z0, z1, z2, z3, z4, tm32, w80_len, hsl, a03, a04, a01, a02, a13, a14, a11, a12, a23, a24, a21, a22, a33, a34, go_sem, Nat.reduceAdd, Nat.reduceLT, Nat.reduceBEq, Nat.reduceEqDiff, reduceIte, reduceCtorEq, Nat.reduceLeDiff, Int.reduceEq, Int.reduceLT, Int.reduceLE, Int.reduceSub, Int.reduceAdd, Int.reduceMul, Int.reduceNeg, Int.reduceToNat, Nat.reduceMul, Nat.reduceSub, Nat.reduceDiv, Int.reduceMod, Int.reduceDiv, Int.reduceTDiv, Int.reduceTMod]))
                  | ((with_reducible refine (and_orderN (A := True) (by kernel_rfl) ?_ trivial).1) <;> (try simp only [q9, q64, r5, r30, e1, e2, e3, e4, e5, e6, e7, e8, e9, e10, z0, z1, z2, z3, z4, tm32, w80_len, hsl, a03, a04, a01, a02, a13, a14, a11, a12, a23, a24, a21, a22, a33, a34, go_sem, Nat.reduceAdd, Nat.reduceLT, Nat.reduceBEq, Nat.reduceEqDiff, reduceIte, reduceCtorEq, Nat.reduceLeDiff, Int.reduceEq, Int.reduceLT, Int.reduceLE, Int.reduceSub, Int.reduceAdd, Int.reduceMul, Int.reduceNeg, Int.reduceToNat, Nat.reduceMul, Nat.reduceSub, Nat.reduceDiv, Int.reduceMod, Int.reduceDiv, Int.reduceTDiv, Int.reduceTMod]))
                  | (with_reducible exact (show bitOf _ _ _ = true by decide +kernel))
                  | (with_reducible refine and_nomen ?_ ?_)
                  | (with_reducible refine nomen_p (by first | rfl | simp only [go_sem, Nat.reduceBEq, Nat.reduceLeDiff, Nat.reduceEqDiff, reduceCtorEq, reduceIte]) ?_)
                  | (with_reducible refine nomen_s (by first | rfl | simp only [go_sem, Nat.reduceBEq, Nat.reduceLeDiff, Nat.reduceEqDiff, reduceCtorEq, reduceIte]) ?_)
                  | (with_reducible refine nomen_setB0 _ _ _ ?_)
                  | (with_reducible refine nomen_p0 (by first | rfl | simp only [go_sem, Nat.reduceBEq, Nat.reduceLeDiff, Nat.reduceEqDiff, reduceCtorEq, reduceIte]) ?_)
                  | (with_reducible refine nomen_j ?_)
                  | (with_reducible exact nomen_i (by first | rfl | simp only [go_sem, Nat.reduceBEq, Nat.reduceLeDiff, Nat.reduceEqDiff, reduceCtorEq, reduceIte]))
                  | (with_reducible exact nomen_iB (by first | rfl | simp only [go_sem, Nat.reduceBEq, Nat.reduceLeDiff, Nat.reduceEqDiff, reduceCtorEq, reduceIte]) (by first | rfl | simp only [go_sem, Nat.reduceBEq, Nat.reduceLeDiff, Nat.reduceEqDiff, reduceCtorEq, reduceIte]) (by decide))
                  | (with_reducible exact nomen_b)
                  | (with_reducible refine leX_nil (by simp only [go_sem, Nat.reduceBEq, Nat.reduceLeDiff, Nat.reduceEqDiff, reduceCtorEq, reduceIte]) ?_)
                  | ((with_reducible refine leX_put ?_ ?_) <;> (try simp only [q9, q64, r5, r30, e1, e2, e3, e4, e5, e6, e7, e8, e9, e10, z0, z1, z2, z3, z4, tm32, w80_len, hsl, a03, a04, a01, a02, a13, a14, a11, a12, a23, a24, a21, a22, a33, a34, go_sem, Nat.reduceAdd, Nat.reduceLT, Nat.reduceBEq, Nat.reduceEqDiff, reduceIte, reduceCtorEq, Nat.reduceLeDiff, Int.reduceEq, Int.reduceLT, Int.reduceLE, Int.reduceSub, Int.reduceAdd, Int.reduceMul, Int.reduceNeg, Int.reduceToNat, Nat.reduceMul, Nat.reduceSub, Nat.reduceDiv, Int.reduceMod, Int.reduceDiv, Int.reduceTDiv, Int.reduceTMod]))
                  | (with_reducible refine leX_boxnil ?_)
                  | ((with_reducible refine leX_box ?_ ?_) <;> (try simp only [q9, q64, r5, r30, e1, e2, e3, e4, e5, e6, e7, e8, e9, e10, z0, z1, z2, z3, z4, tm32, w80_len, hsl, a03, a04, a01, a02, a13, a14, a11, a12, a23, a24, a21, a22, a33, a34, go_sem, Nat.reduceAdd, Nat.reduceLT, Nat.reduceBEq, Nat.reduceEqDiff, reduceIte, reduceCtorEq, Nat.reduceLeDiff, Int.reduceEq, Int.reduceLT, Int.reduceLE, Int.reduceSub, Int.reduceAdd, Int.reduceMul, Int.reduceNeg, Int.reduceToNat, Nat.reduceMul, Nat.reduceSub, Nat.reduceDiv, Int.reduceMod, Int.reduceDiv, Int.reduceTDiv, Int.reduceTMod]))
                  | (with_reducible refine leX_boxnone ?_)
                  | (with_reducible exact leX_base rfl)
                  | (with_reducible refine leX_junkF ?_)
                  | (with_reducible exact kp_refl)
                  | (with_reducible refine kp_fx rfl (by first | exact Or.inl rfl | (refine Or.inr ?_; simp only [go_sem, Nat.reduceBEq, Nat.reduceLeDiff, Nat.reduceEqDiff, reduceCtorEq, reduceIte])) ?_)
                  | (with_reducible refine kp_put rfl ?_)
                  | (with_reducible refine kp_setB (by first | exact Or.inl rfl | (refine Or.inr ?_; simp only [go_sem, Nat.reduceBEq, Nat.reduceLeDiff, Nat.reduceEqDiff, reduceCtorEq, reduceIte])) ?_)
                  | (with_reducible refine kp_junkF (by decide) ?_)
                  | (with_reducible refine fx_put (by first | rfl | simp only [go_sem, Nat.reduceBEq, Nat.reduceLeDiff, Nat.reduceEqDiff, reduceCtorEq, reduceIte]) ?_)
                  | (with_reducible refine fx_setB (by first | rfl | simp only [go_sem, Nat.reduceBEq, Nat.reduceLeDiff, Nat.reduceEqDiff, reduceCtorEq, reduceIte]) ?_)
                  | (with_reducible refine fx_setN ?_)
                  | (with_reducible refine fx_junkF ?_)
                  | (with_reducible exact fx_init (by first | rfl | simp only [go_sem, Nat.reduceBEq, Nat.reduceLeDiff, Nat.reduceEqDiff, reduceCtorEq, reduceIte]))
                  | (with_reducible exact fx_initB (by first | rfl | simp only [go_sem, Nat.reduceBEq, Nat.reduceLeDiff, Nat.reduceEqDiff, reduceCtorEq, reduceIte]) (by first | rfl | simp only [go_sem, Nat.reduceBEq, Nat.reduceLeDiff, Nat.reduceEqDiff, reduceCtorEq, reduceIte]) rfl (by decide) (by decide))
                  | (with_reducible exact fx_base)
                  | ((with_reducible refine again_of (t + 1) (le_sw [] rfl rfl ?_) (of80 (by assumption)) ?_) <;> (try dsimp only) <;> (try simp only [go_sem, Nat.reduceAdd, Nat.reduceLT, Nat.reduceBEq, Nat.reduceEqDiff, reduceIte, reduceCtorEq, Nat.reduceLeDiff, Int.reduceEq, Int.reduceLT, Int.reduceLE, Int.reduceSub, Int.reduceAdd, Int.reduceMul, Int.reduceNeg, Int.reduceToNat, Nat.reduceMul, Nat.reduceSub, Nat.reduceDiv, Int.reduceMod, Int.reduceDiv, Int.reduceTDiv, Int.reduceTMod]))
                  | ((with_reducible refine again_of (i + 1) (le_sw [] rfl rfl ?_) ?_ ?_) <;> (try dsimp only) <;> (try simp only [go_sem, Nat.reduceAdd, Nat.reduceLT, Nat.reduceBEq, Nat.reduceEqDiff, reduceIte, reduceCtorEq, Nat.reduceLeDiff, Int.reduceEq, Int.reduceLT, Int.reduceLE, Int.reduceSub, Int.reduceAdd, Int.reduceMul, Int.reduceNeg, Int.reduceToNat, Nat.reduceMul, Nat.reduceSub, Nat.reduceDiv, Int.reduceMod, Int.reduceDiv, Int.reduceTDiv, Int.reduceTMod]))
                  | (with_reducible refine And.intro ?_ ?_))
                all_goals first
                  | rfl
                  | skip
                all_goals (clear q9 gx g0 g1 g2 g3 g4 gw r5 r30 hrl l1 l9 l2 l3 l4 l5 l7 l6 l8 e1 e2 e3 e4 e5 e6 e7 e8 e9 e10 gs z0 z1 z2 z3 z4 a01 a02 a03 a04 a11 a12 a13 a14 a21 a22 a23 a24 a31 a32 a33 a34 hst q64)
                all_goals (try simp only [Bool.not_eq_true', Bool.not_eq_false', Bool.and_eq_true, Bool.and_eq_false_iff, decide_eq_true_eq, decide_eq_false_iff_not, Bool.or_eq_true, Bool.or_eq_false_iff, Bool.not_true, Bool.not_false, Bool.false_eq_true, false_iff, true_iff, bne_iff_ne, beq_iff_eq, ne_eq, iff_true, iff_false, not_and, not_or, List.length_append, List.length_drop, List.length_take, List.length_replicate, List.length_range] at *)
                all_goals (try omega)
                · rw [step0, fN, if_pos (by omega), kN, if_pos (by omega), ← and_or_disj (nthN_all (xN_lt l i t) (by decide) 1) (nthN_all (xN_lt l i t) (by decide) 3)]
                · rw [step0, fN, if_neg (by omega), if_neg (by omega), kN, if_neg (by omega), if_pos (by omega)]
                · rw [step0, fN, if_neg (by omega), if_pos (by omega), kN, if_neg (by omega), if_neg (by omega), if_pos (by omega)]
                · rw [step0, fN, if_neg (by omega), if_neg (by omega), kN, if_neg (by omega), if_neg (by omega), if_neg (by omega)]
                · obtain rfl : t = 80 := by omega
                  rw [layL_full (by rw [castL_length, hsl]; simp [setL_size]), stN_next]
                  simp only [compN, xN_80]
                  rfl
        · obtain e : i = (padL l).length / 64 := by omega
          have e2 : (layL (List.replicate 5 0) (castL (List.take 5 (stN (padL l) i))) 0) = castL (stN (padL l) i) := by
            rw [layL_full (by simp [castL, hsl]), List.take_of_length_le (by omega)]
          have hc : (castL (stN (padL l) i)).length = 5 := by simp [castL, hsl]
          rw [e2, List.take_of_length_le (by omega), e]; rfl
noncomputable def refG : List AV → Option AV := ofRel fun args r => ∃ (l : List Nat), args = [BL l] ∧ (l.length ≤ 140737488355328 ∧ ∀ x ∈ l, x < 256) ∧ r = .agg (IL .i64 (castL (wordsN l)))
@[go_sem] theorem refG_eq (l : List Nat) (hp : l.length ≤ 140737488355328 ∧ ∀ x ∈ l, x < 256) : refG [BL l] = some (.agg (IL .i64 (castL (wordsN l)))) :=
  ofRel_eq ⟨l, rfl, hp, rfl⟩ (by rintro _ ⟨l', e, _, rfl⟩; simp [IL_injEq, castL_inj, Int.ofNat_inj] at e; first | (obtain ⟨rfl⟩ := e; rfl) | (obtain ⟨rfl⟩ := e; exact ⟨rfl, rfl⟩) | (simp [e]) | (simp_all))
theorem ref_good : Good cfg 20 refG := fun args r h => by
  obtain ⟨_, rfl, hp, rfl⟩ := ofRel_some h; exact ⟨ref_ok _ hp, rfl⟩

end Go.Proofs.Ytnhdfmnmciminaa.Sh
