/-
  The contracts of the functions of layer 9 (sha).
-/
import Derived.Test.YtnhdfmnmciminaaShTy
import Derived.Test.YtnhdfmnmciminaaShSpec
namespace Go.Proofs.Ytnhdfmnmciminaa.Sh
open Go Go.Ev
set_option linter.unusedSimpArgs false
set_option linter.unusedVariables false
set_option maxRecDepth 10000
set_option maxHeartbeats 4000000
theorem leafN {k : IntKind} {a : Int} {b : Nat} (h : a = (b : Int)) : AV.c (.lit (.int k a)) = .c (.lit (.int k (b : Int))) := by rw [h]
theorem beg_ok : FnOk cfg 21 [] (WA begN) := by
  refine fnOk_eval [] good_nil mixed Try.func21 rfl rfl Try.ntmps21 (congrArg Array.toList Try.results21) (by simp) (by simp only [go_sem, Nat.reduceAdd, Nat.reduceLT, Nat.reduceBEq, Nat.reduceEqDiff, reduceIte, reduceCtorEq, Nat.reduceLeDiff, Int.reduceEq, Int.reduceLT, Int.reduceLE, Int.reduceSub, Int.reduceAdd, Int.reduceMul, Int.reduceNeg, Int.reduceToNat, Nat.reduceMul, Nat.reduceSub, Nat.reduceDiv, Int.reduceMod, Int.reduceDiv, Int.reduceTDiv, Int.reduceTMod]) (by simp only [go_sem, Nat.reduceAdd, Nat.reduceLT, Nat.reduceBEq, Nat.reduceEqDiff, reduceIte, reduceCtorEq, Nat.reduceLeDiff, Int.reduceEq, Int.reduceLT, Int.reduceLE, Int.reduceSub, Int.reduceAdd, Int.reduceMul, Int.reduceNeg, Int.reduceToNat, Nat.reduceMul, Nat.reduceSub, Nat.reduceDiv, Int.reduceMod, Int.reduceDiv, Int.reduceTDiv, Int.reduceTMod]) ?_
  simp only [go_sem, Nat.reduceAdd, Nat.reduceLT, Nat.reduceBEq, Nat.reduceEqDiff, reduceIte, reduceCtorEq, Nat.reduceLeDiff, Int.reduceEq, Int.reduceLT, Int.reduceLE, Int.reduceSub, Int.reduceAdd, Int.reduceMul, Int.reduceNeg, Int.reduceToNat, Nat.reduceMul, Nat.reduceSub, Nat.reduceDiv, Int.reduceMod, Int.reduceDiv, Int.reduceTDiv, Int.reduceTMod]
  repeat' (first
    | ((with_reducible refine split_guard ?_ ?_) <;> intro hb <;> simp only [hb, go_sem, Nat.reduceAdd, Nat.reduceLT, Nat.reduceBEq, Nat.reduceEqDiff, reduceIte, reduceCtorEq, Nat.reduceLeDiff, Int.reduceEq, Int.reduceLT, Int.reduceLE, Int.reduceSub, Int.reduceAdd, Int.reduceMul, Int.reduceNeg, Int.reduceToNat, Nat.reduceMul, Nat.reduceSub, Nat.reduceDiv, Int.reduceMod, Int.reduceDiv, Int.reduceTDiv, Int.reduceTMod])
    | ((with_reducible refine split_cond ?_ ?_) <;> intro hb <;> simp only [hb, go_sem, Nat.reduceAdd, Nat.reduceLT, Nat.reduceBEq, Nat.reduceEqDiff, reduceIte, reduceCtorEq, Nat.reduceLeDiff, Int.reduceEq, Int.reduceLT, Int.reduceLE, Int.reduceSub, Int.reduceAdd, Int.reduceMul, Int.reduceNeg, Int.reduceToNat, Nat.reduceMul, Nat.reduceSub, Nat.reduceDiv, Int.reduceMod, Int.reduceDiv, Int.reduceTDiv, Int.reduceTMod])
    | ((with_reducible refine split_guardY ?_ ?_) <;> intro hb <;> simp only [hb, go_sem, Nat.reduceAdd, Nat.reduceLT, Nat.reduceBEq, Nat.reduceEqDiff, reduceIte, reduceCtorEq, Nat.reduceLeDiff, Int.reduceEq, Int.reduceLT, Int.reduceLE, Int.reduceSub, Int.reduceAdd, Int.reduceMul, Int.reduceNeg, Int.reduceToNat, Nat.reduceMul, Nat.reduceSub, Nat.reduceDiv, Int.reduceMod, Int.reduceDiv, Int.reduceTDiv, Int.reduceTMod])
    | ((with_reducible refine and_orderN (by kernel_rfl) ?_ ?_) <;> (try simp only [go_sem, Nat.reduceAdd, Nat.reduceLT, Nat.reduceBEq, Nat.reduceEqDiff, reduceIte, reduceCtorEq, Nat.reduceLeDiff, Int.reduceEq, Int.reduceLT, Int.reduceLE, Int.reduceSub, Int.reduceAdd, Int.reduceMul, Int.reduceNeg, Int.reduceToNat, Nat.reduceMul, Nat.reduceSub, Nat.reduceDiv, Int.reduceMod, Int.reduceDiv, Int.reduceTDiv, Int.reduceTMod]))
    | ((with_reducible refine (and_orderN (A := True) (by kernel_rfl) ?_ trivial).1) <;> (try simp only [go_sem, Nat.reduceAdd, Nat.reduceLT, Nat.reduceBEq, Nat.reduceEqDiff, reduceIte, reduceCtorEq, Nat.reduceLeDiff, Int.reduceEq, Int.reduceLT, Int.reduceLE, Int.reduceSub, Int.reduceAdd, Int.reduceMul, Int.reduceNeg, Int.reduceToNat, Nat.reduceMul, Nat.reduceSub, Nat.reduceDiv, Int.reduceMod, Int.reduceDiv, Int.reduceTDiv, Int.reduceTMod]))
    | (with_reducible exact (show bitOf _ _ _ = true by decide +kernel))
    | (with_reducible refine and_nomen ?_ ?_)
    | (with_reducible refine nomen_p (by first | rfl | simp only [go_sem, Nat.reduceBEq, Nat.reduceLeDiff, Nat.reduceEqDiff, reduceCtorEq, reduceIte]) ?_)
    | (with_reducible refine nomen_s (by first | rfl | simp only [go_sem, Nat.reduceBEq, Nat.reduceLeDiff, Nat.reduceEqDiff, reduceCtorEq, reduceIte]) ?_)
    | (with_reducible refine nomen_setB0 _ _ _ ?_)
    | (with_reducible refine nomen_p0 (by first | rfl | simp only [go_sem, Nat.reduceBEq, Nat.reduceLeDiff, Nat.reduceEqDiff, reduceCtorEq, reduceIte]) ?_)
    | (with_reducible refine nomen_j ?_)
    | (with_reducible exact nomen_i (by first | rfl | simp only [go_sem, Nat.reduceBEq, Nat.reduceLeDiff, Nat.reduceEqDiff, reduceCtorEq, reduceIte]))
    | (with_reducible exact nomen_iB (by first | rfl | simp only [go_sem, Nat.reduceBEq, Nat.reduceLeDiff, Nat.reduceEqDiff, reduceCtorEq, reduceIte]) (by first | rfl | simp only [go_sem, Nat.reduceBEq, Nat.reduceLeDiff, Nat.reduceEqDiff, reduceCtorEq, reduceIte]) (by decide))
    | (with_reducible exact nomen_b)
    | (with_reducible refine leX_nil (by simp only [go_sem, Nat.reduceBEq, Nat.reduceLeDiff, Nat.reduceEqDiff, reduceCtorEq, reduceIte]) ?_)
    | ((with_reducible refine leX_put ?_ ?_) <;> (try simp only [go_sem, Nat.reduceAdd, Nat.reduceLT, Nat.reduceBEq, Nat.reduceEqDiff, reduceIte, reduceCtorEq, Nat.reduceLeDiff, Int.reduceEq, Int.reduceLT, Int.reduceLE, Int.reduceSub, Int.reduceAdd, Int.reduceMul, Int.reduceNeg, Int.reduceToNat, Nat.reduceMul, Nat.reduceSub, Nat.reduceDiv, Int.reduceMod, Int.reduceDiv, Int.reduceTDiv, Int.reduceTMod]))
    | (with_reducible refine leX_boxnil ?_)
    | ((with_reducible refine leX_box ?_ ?_) <;> (try simp only [go_sem, Nat.reduceAdd, Nat.reduceLT, Nat.reduceBEq, Nat.reduceEqDiff, reduceIte, reduceCtorEq, Nat.reduceLeDiff, Int.reduceEq, Int.reduceLT, Int.reduceLE, Int.reduceSub, Int.reduceAdd, Int.reduceMul, Int.reduceNeg, Int.reduceToNat, Nat.reduceMul, Nat.reduceSub, Nat.reduceDiv, Int.reduceMod, Int.reduceDiv, Int.reduceTDiv, Int.reduceTMod]))
    | (with_reducible refine leX_boxnone ?_)
    | (with_reducible exact leX_base rfl)
    | (with_reducible refine leX_junkF ?_)
    | (with_reducible exact kp_refl)
    | (with_reducible refine kp_fx rfl (by first | exact Or.inl rfl | (refine Or.inr ?_; simp only [go_sem, Nat.reduceBEq, Nat.reduceLeDiff, Nat.reduceEqDiff, reduceCtorEq, reduceIte])) ?_)
    | (with_reducible refine kp_put rfl ?_)
    | (with_reducible refine kp_setB (by first | exact Or.inl rfl | (refine Or.inr ?_; simp only [go_sem, Nat.reduceBEq, Nat.reduceLeDiff, Nat.reduceEqDiff, reduceCtorEq, reduceIte])) ?_)
    | (with_reducible refine kp_junkF (by decide) ?_)
    | (with_reducible refine fx_put (by first | rfl | simp only [go_sem, Nat.reduceBEq, Nat.reduceLeDiff, Nat.reduceEqDiff, reduceCtorEq, reduceIte]) ?_)
    | (with_reducible refine fx_setB (by first | rfl | simp only [go_sem, Nat.reduceBEq, Nat.reduceLeDiff, Nat.reduceEqDiff, reduceCtorEq, reduceIte]) ?_)
    | (with_reducible refine fx_setN ?_)
    | (with_reducible refine fx_junkF ?_)
    | (with_reducible exact fx_init (by first | rfl | simp only [go_sem, Nat.reduceBEq, Nat.reduceLeDiff, Nat.reduceEqDiff, reduceCtorEq, reduceIte]))
    | (with_reducible exact fx_initB (by first | rfl | simp only [go_sem, Nat.reduceBEq, Nat.reduceLeDiff, Nat.reduceEqDiff, reduceCtorEq, reduceIte]) (by first | rfl | simp only [go_sem, Nat.reduceBEq, Nat.reduceLeDiff, Nat.reduceEqDiff, reduceCtorEq, reduceIte]) rfl (by decide) (by decide))
    | (with_reducible exact fx_base)
    | (with_reducible refine And.intro ?_ ?_))
  all_goals first | rfl | decide
noncomputable def begG : List AV → Option AV := ofRel fun args r => args = [] ∧ r = WA begN
@[go_sem] theorem begG_eq : begG [] = some (WA begN) :=
  ofRel_eq ⟨rfl, rfl⟩ (by rintro _ ⟨e, rfl⟩; rfl)
theorem beg_good : Good cfg 21 begG := fun args r h => by
  obtain ⟨rfl, rfl⟩ := ofRel_some h; exact ⟨beg_ok , rfl⟩

theorem u64k (k : Nat) (h : k < 32) : wAnd .u64 (IntKind.u64.wrap (k : Int)) 31 = (k : Int) := by
  rw [wrap_u64, Nat.mod_eq_of_lt (by omega), show (31 : Int) = ((31 : Nat) : Int) from rfl, wAnd_u rfl (Nat.lt_trans h (by decide)) (by decide)]
  have := Nat.and_two_pow_sub_one_eq_mod k 5
  rw [show 31 = 2 ^ 5 - 1 from rfl, this, Nat.mod_eq_of_lt (by omega)]
theorem u64s (k : Nat) (h : k ≤ 32) : IntKind.u64.wrap (32 - (k : Int)) = ((32 - k : Nat) : Int) := by
  rw [show (32 : Int) - (k : Int) = ((32 - k : Nat) : Int) by omega, wrap_u64, Nat.mod_eq_of_lt (by omega)]
theorem rot_ok (x : Nat) (k : Nat) (hp : x < 4294967296 ∧ k < 32) : FnOk cfg 26 [W x, I k] (W (rotN x k)) := by
  have h1 := u64k k hp.2
  have h2 := u64s k (by omega)
  refine fnOk_eval [] good_nil mixed Try.func26 rfl rfl Try.ntmps26 (congrArg Array.toList Try.results26) (by simp) (by simp only [h1, h2, Int.natCast_nonneg, go_sem, Nat.reduceAdd, Nat.reduceLT, Nat.reduceBEq, Nat.reduceEqDiff, reduceIte, reduceCtorEq, Nat.reduceLeDiff, Int.reduceEq, Int.reduceLT, Int.reduceLE, Int.reduceSub, Int.reduceAdd, Int.reduceMul, Int.reduceNeg, Int.reduceToNat, Nat.reduceMul, Nat.reduceSub, Nat.reduceDiv, Int.reduceMod, Int.reduceDiv, Int.reduceTDiv, Int.reduceTMod]) (by simp only [h1, h2, Int.natCast_nonneg, go_sem, Nat.reduceAdd, Nat.reduceLT, Nat.reduceBEq, Nat.reduceEqDiff, reduceIte, reduceCtorEq, Nat.reduceLeDiff, Int.reduceEq, Int.reduceLT, Int.reduceLE, Int.reduceSub, Int.reduceAdd, Int.reduceMul, Int.reduceNeg, Int.reduceToNat, Nat.reduceMul, Nat.reduceSub, Nat.reduceDiv, Int.reduceMod, Int.reduceDiv, Int.reduceTDiv, Int.reduceTMod]) ?_
  simp only [h1, h2, Int.natCast_nonneg, go_sem, Nat.reduceAdd, Nat.reduceLT, Nat.reduceBEq, Nat.reduceEqDiff, reduceIte, reduceCtorEq, Nat.reduceLeDiff, Int.reduceEq, Int.reduceLT, Int.reduceLE, Int.reduceSub, Int.reduceAdd, Int.reduceMul, Int.reduceNeg, Int.reduceToNat, Nat.reduceMul, Nat.reduceSub, Nat.reduceDiv, Int.reduceMod, Int.reduceDiv, Int.reduceTDiv, Int.reduceTMod]
  repeat' (first
    | ((with_reducible refine split_guard ?_ ?_) <;> intro hb <;> simp only [hb, h1, h2, Int.natCast_nonneg, go_sem, Nat.reduceAdd, Nat.reduceLT, Nat.reduceBEq, Nat.reduceEqDiff, reduceIte, reduceCtorEq, Nat.reduceLeDiff, Int.reduceEq, Int.reduceLT, Int.reduceLE, Int.reduceSub, Int.reduceAdd, Int.reduceMul, Int.reduceNeg, Int.reduceToNat, Nat.reduceMul, Nat.reduceSub, Nat.reduceDiv, Int.reduceMod, Int.reduceDiv, Int.reduceTDiv, Int.reduceTMod])
    | ((with_reducible refine split_cond ?_ ?_) <;> intro hb <;> simp only [hb, h1, h2, Int.natCast_nonneg, go_sem, Nat.reduceAdd, Nat.reduceLT, Nat.reduceBEq, Nat.reduceEqDiff, reduceIte, reduceCtorEq, Nat.reduceLeDiff, Int.reduceEq, Int.reduceLT, Int.reduceLE, Int.reduceSub, Int.reduceAdd, Int.reduceMul, Int.reduceNeg, Int.reduceToNat, Nat.reduceMul, Nat.reduceSub, Nat.reduceDiv, Int.reduceMod, Int.reduceDiv, Int.reduceTDiv, Int.reduceTMod])
    | ((with_reducible refine split_guardY ?_ ?_) <;> intro hb <;> simp only [hb, h1, h2, Int.natCast_nonneg, go_sem, Nat.reduceAdd, Nat.reduceLT, Nat.reduceBEq, Nat.reduceEqDiff, reduceIte, reduceCtorEq, Nat.reduceLeDiff, Int.reduceEq, Int.reduceLT, Int.reduceLE, Int.reduceSub, Int.reduceAdd, Int.reduceMul, Int.reduceNeg, Int.reduceToNat, Nat.reduceMul, Nat.reduceSub, Nat.reduceDiv, Int.reduceMod, Int.reduceDiv, Int.reduceTDiv, Int.reduceTMod])
    | ((with_reducible refine and_orderN (by kernel_rfl) ?_ ?_) <;> (try simp only [h1, h2, Int.natCast_nonneg, go_sem, Nat.reduceAdd, Nat.reduceLT, Nat.reduceBEq, Nat.reduceEqDiff, reduceIte, reduceCtorEq, Nat.reduceLeDiff, Int.reduceEq, Int.reduceLT, Int.reduceLE, Int.reduceSub, Int.reduceAdd, Int.reduceMul, Int.reduceNeg, Int.reduceToNat, Nat.reduceMul, Nat.reduceSub, Nat.reduceDiv, Int.reduceMod, Int.reduceDiv, Int.reduceTDiv, Int.reduceTMod]))
    | ((with_reducible refine (and_orderN (A := True) (by kernel_rfl) ?_ trivial).1) <;> (try simp only [h1, h2, Int.natCast_nonneg, go_sem, Nat.reduceAdd, Nat.reduceLT, Nat.reduceBEq, Nat.reduceEqDiff, reduceIte, reduceCtorEq, Nat.reduceLeDiff, Int.reduceEq, Int.reduceLT, Int.reduceLE, Int.reduceSub, Int.reduceAdd, Int.reduceMul, Int.reduceNeg, Int.reduceToNat, Nat.reduceMul, Nat.reduceSub, Nat.reduceDiv, Int.reduceMod, Int.reduceDiv, Int.reduceTDiv, Int.reduceTMod]))
    | (with_reducible exact (show bitOf _ _ _ = true by decide +kernel))
    | (with_reducible refine and_nomen ?_ ?_)
    | (with_reducible refine nomen_p (by first | rfl | simp only [go_sem, Nat.reduceBEq, Nat.reduceLeDiff, Nat.reduceEqDiff, reduceCtorEq, reduceIte]) ?_)
    | (with_reducible refine nomen_s (by first | rfl | simp only [go_sem, Nat.reduceBEq, Nat.reduceLeDiff, Nat.reduceEqDiff, reduceCtorEq, reduceIte]) ?_)
    | (with_reducible refine nomen_setB0 _ _ _ ?_)
    | (with_reducible refine nomen_p0 (by first | rfl | simp only [go_sem, Nat.reduceBEq, Nat.reduceLeDiff, Nat.reduceEqDiff, reduceCtorEq, reduceIte]) ?_)
    | (with_reducible refine nomen_j ?_)
    | (with_reducible exact nomen_i (by first | rfl | simp only [go_sem, Nat.reduceBEq, Nat.reduceLeDiff, Nat.reduceEqDiff, reduceCtorEq, reduceIte]))
    | (with_reducible exact nomen_iB (by first | rfl | simp only [go_sem, Nat.reduceBEq, Nat.reduceLeDiff, Nat.reduceEqDiff, reduceCtorEq, reduceIte]) (by first | rfl | simp only [go_sem, Nat.reduceBEq, Nat.reduceLeDiff, Nat.reduceEqDiff, reduceCtorEq, reduceIte]) (by decide))
    | (with_reducible exact nomen_b)
    | (with_reducible refine leX_nil (by simp only [go_sem, Nat.reduceBEq, Nat.reduceLeDiff, Nat.reduceEqDiff, reduceCtorEq, reduceIte]) ?_)
    | ((with_reducible refine leX_put ?_ ?_) <;> (try simp only [h1, h2, Int.natCast_nonneg, go_sem, Nat.reduceAdd, Nat.reduceLT, Nat.reduceBEq, Nat.reduceEqDiff, reduceIte, reduceCtorEq, Nat.reduceLeDiff, Int.reduceEq, Int.reduceLT, Int.reduceLE, Int.reduceSub, Int.reduceAdd, Int.reduceMul, Int.reduceNeg, Int.reduceToNat, Nat.reduceMul, Nat.reduceSub, Nat.reduceDiv, Int.reduceMod, Int.reduceDiv, Int.reduceTDiv, Int.reduceTMod]))
    | (with_reducible refine leX_boxnil ?_)
    | ((with_reducible refine leX_box ?_ ?_) <;> (try simp only [h1, h2, Int.natCast_nonneg, go_sem, Nat.reduceAdd, Nat.reduceLT, Nat.reduceBEq, Nat.reduceEqDiff, reduceIte, reduceCtorEq, Nat.reduceLeDiff, Int.reduceEq, Int.reduceLT, Int.reduceLE, Int.reduceSub, Int.reduceAdd, Int.reduceMul, Int.reduceNeg, Int.reduceToNat, Nat.reduceMul, Nat.reduceSub, Nat.reduceDiv, Int.reduceMod, Int.reduceDiv, Int.reduceTDiv, Int.reduceTMod]))
    | (with_reducible refine leX_boxnone ?_)
    | (with_reducible exact leX_base rfl)
    | (with_reducible refine leX_junkF ?_)
    | (with_reducible exact kp_refl)
    | (with_reducible refine kp_fx rfl (by first | exact Or.inl rfl | (refine Or.inr ?_; simp only [go_sem, Nat.reduceBEq, Nat.reduceLeDiff, Nat.reduceEqDiff, reduceCtorEq, reduceIte])) ?_)
    | (with_reducible refine kp_put rfl ?_)
    | (with_reducible refine kp_setB (by first | exact Or.inl rfl | (refine Or.inr ?_; simp only [go_sem, Nat.reduceBEq, Nat.reduceLeDiff, Nat.reduceEqDiff, reduceCtorEq, reduceIte])) ?_)
    | (with_reducible refine kp_junkF (by decide) ?_)
    | (with_reducible refine fx_put (by first | rfl | simp only [go_sem, Nat.reduceBEq, Nat.reduceLeDiff, Nat.reduceEqDiff, reduceCtorEq, reduceIte]) ?_)
    | (with_reducible refine fx_setB (by first | rfl | simp only [go_sem, Nat.reduceBEq, Nat.reduceLeDiff, Nat.reduceEqDiff, reduceCtorEq, reduceIte]) ?_)
    | (with_reducible refine fx_setN ?_)
    | (with_reducible refine fx_junkF ?_)
    | (with_reducible exact fx_init (by first | rfl | simp only [go_sem, Nat.reduceBEq, Nat.reduceLeDiff, Nat.reduceEqDiff, reduceCtorEq, reduceIte]))
    | (with_reducible exact fx_initB (by first | rfl | simp only [go_sem, Nat.reduceBEq, Nat.reduceLeDiff, Nat.reduceEqDiff, reduceCtorEq, reduceIte]) (by first | rfl | simp only [go_sem, Nat.reduceBEq, Nat.reduceLeDiff, Nat.reduceEqDiff, reduceCtorEq, reduceIte]) rfl (by decide) (by decide))
    | (with_reducible exact fx_base)
    | (with_reducible refine And.intro ?_ ?_))
  all_goals refine leafN ?_
  rw [wShl_u rfl _ _ (show k ≤ 32 by omega), wShr_u _ _ _ (show 32 - k ≤ 32 by omega), wOr_u rfl (Nat.mod_lt _ (by decide)) (Nat.lt_of_le_of_lt (Nat.div_le_self _ _) hp.1)]
  exact congrArg _ (rot_or hp.1 (by omega))
noncomputable def rotG : List AV → Option AV := ofRel fun args r => ∃ (x : Nat) (k : Nat), args = [W x, I k] ∧ (x < 4294967296 ∧ k < 32) ∧ r = W (rotN x k)
@[go_sem] theorem rotG_eq (x : Nat) (k : Nat) (hp : x < 4294967296 ∧ k < 32) : rotG [W x, I k] = some (W (rotN x k)) :=
  ofRel_eq ⟨x, k, rfl, hp, rfl⟩ (by rintro _ ⟨x', k', e, _, rfl⟩; simp [IL_injEq, castL_inj, Int.ofNat_inj] at e; first | (obtain ⟨rfl, rfl⟩ := e; rfl) | (obtain ⟨rfl, rfl⟩ := e; exact ⟨rfl, rfl⟩) | (simp [e]) | (simp_all))
theorem rot_good : Good cfg 26 rotG := fun args r h => by
  obtain ⟨_, _, rfl, hp, rfl⟩ := ofRel_some h; exact ⟨rot_ok _ _ hp, rfl⟩

theorem quo20 (t : Nat) (h : t < 4294967296) : IntKind.i64.wrap ((t : Int).tdiv 20) = ((t / 20 : Nat) : Int) := by
  rw [show (20 : Int) = ((20 : Nat) : Int) from rfl, Int.tdiv_eq_ediv_of_nonneg (Int.natCast_nonneg _), ← Int.natCast_ediv, wrap_i64 _ (by omega)]
theorem ceq (a b : Nat) : ((a : Int) = (b : Int)) = (a = b) := propext Int.ofNat_inj
theorem mix_ok (t : Nat) (b : Nat) (c : Nat) (d : Nat) (hp : t < 4294967296 ∧ b < 4294967296 ∧ c < 4294967296 ∧ d < 4294967296) : FnOk cfg 27 [I t, W b, W c, W d] (W (fN t b c d)) := by
  have hq := quo20 t (by omega)
  obtain ⟨ht, hb, hc, hd⟩ := hp
  have l1 : b &&& c < 4294967296 := and_lt (w := 32) hb
  have l2 : (4294967295 - b) &&& d < 4294967296 := Nat.lt_of_le_of_lt Nat.and_le_right hd
  have l3 : b &&& d < 4294967296 := and_lt (w := 32) hb
  have l4 : c &&& d < 4294967296 := and_lt (w := 32) hc
  have l5 : (b &&& c) ||| (b &&& d) < 4294967296 := or_lt (w := 32) l1 l3
  have l6 : b ^^^ c < 4294967296 := xor_lt (w := 32) hb hc
  have e1 := wAnd_u (k := .u32) rfl hb hc
  have e2 : wNot .u32 (b : Int) = ((4294967295 - b : Nat) : Int) := wNot_u (k := .u32) rfl hb
  have e3 := wAnd_u (k := .u32) rfl (show 4294967295 - b < 4294967296 by omega) hd
  have e4 := wAnd_u (k := .u32) rfl hb hd
  have e5 := wAnd_u (k := .u32) rfl hc hd
  have e6 := wOr_u (k := .u32) rfl l1 l2
  have e7 := wOr_u (k := .u32) rfl l1 l3
  have e8 := wOr_u (k := .u32) rfl l5 l4
  have e9 := wXor_u (k := .u32) rfl hb hc
  have e10 := wXor_u (k := .u32) rfl l6 hd
  refine fnOk_eval [] good_nil mixed Try.func27 rfl rfl Try.ntmps27 (congrArg Array.toList Try.results27) (by simp) (by simp only [hq, e1, e2, e3, e4, e5, e6, e7, e8, e9, e10, go_sem, Nat.reduceAdd, Nat.reduceLT, Nat.reduceBEq, Nat.reduceEqDiff, reduceIte, reduceCtorEq, Nat.reduceLeDiff, Int.reduceEq, Int.reduceLT, Int.reduceLE, Int.reduceSub, Int.reduceAdd, Int.reduceMul, Int.reduceNeg, Int.reduceToNat, Nat.reduceMul, Nat.reduceSub, Nat.reduceDiv, Int.reduceMod, Int.reduceDiv, Int.reduceTDiv, Int.reduceTMod]) (by simp only [hq, e1, e2, e3, e4, e5, e6, e7, e8, e9, e10, go_sem, Nat.reduceAdd, Nat.reduceLT, Nat.reduceBEq, Nat.reduceEqDiff, reduceIte, reduceCtorEq, Nat.reduceLeDiff, Int.reduceEq, Int.reduceLT, Int.reduceLE, Int.reduceSub, Int.reduceAdd, Int.reduceMul, Int.reduceNeg, Int.reduceToNat, Nat.reduceMul, Nat.reduceSub, Nat.reduceDiv, Int.reduceMod, Int.reduceDiv, Int.reduceTDiv, Int.reduceTMod]) ?_
  simp only [hq, e1, e2, e3, e4, e5, e6, e7, e8, e9, e10, go_sem, Nat.reduceAdd, Nat.reduceLT, Nat.reduceBEq, Nat.reduceEqDiff, reduceIte, reduceCtorEq, Nat.reduceLeDiff, Int.reduceEq, Int.reduceLT, Int.reduceLE, Int.reduceSub, Int.reduceAdd, Int.reduceMul, Int.reduceNeg, Int.reduceToNat, Nat.reduceMul, Nat.reduceSub, Nat.reduceDiv, Int.reduceMod, Int.reduceDiv, Int.reduceTDiv, Int.reduceTMod]
  repeat' (first
    | ((with_reducible refine split_guard ?_ ?_) <;> intro hb <;> simp only [hb, hq, e1, e2, e3, e4, e5, e6, e7, e8, e9, e10, go_sem, Nat.reduceAdd, Nat.reduceLT, Nat.reduceBEq, Nat.reduceEqDiff, reduceIte, reduceCtorEq, Nat.reduceLeDiff, Int.reduceEq, Int.reduceLT, Int.reduceLE, Int.reduceSub, Int.reduceAdd, Int.reduceMul, Int.reduceNeg, Int.reduceToNat, Nat.reduceMul, Nat.reduceSub, Nat.reduceDiv, Int.reduceMod, Int.reduceDiv, Int.reduceTDiv, Int.reduceTMod])
    | ((with_reducible refine split_cond ?_ ?_) <;> intro hb <;> simp only [hb, hq, e1, e2, e3, e4, e5, e6, e7, e8, e9, e10, go_sem, Nat.reduceAdd, Nat.reduceLT, Nat.reduceBEq, Nat.reduceEqDiff, reduceIte, reduceCtorEq, Nat.reduceLeDiff, Int.reduceEq, Int.reduceLT, Int.reduceLE, Int.reduceSub, Int.reduceAdd, Int.reduceMul, Int.reduceNeg, Int.reduceToNat, Nat.reduceMul, Nat.reduceSub, Nat.reduceDiv, Int.reduceMod, Int.reduceDiv, Int.reduceTDiv, Int.reduceTMod])
    | ((with_reducible refine split_guardY ?_ ?_) <;> intro hb <;> simp only [hb, hq, e1, e2, e3, e4, e5, e6, e7, e8, e9, e10, go_sem, Nat.reduceAdd, Nat.reduceLT, Nat.reduceBEq, Nat.reduceEqDiff, reduceIte, reduceCtorEq, Nat.reduceLeDiff, Int.reduceEq, Int.reduceLT, Int.reduceLE, Int.reduceSub, Int.reduceAdd, Int.reduceMul, Int.reduceNeg, Int.reduceToNat, Nat.reduceMul, Nat.reduceSub, Nat.reduceDiv, Int.reduceMod, Int.reduceDiv, Int.reduceTDiv, Int.reduceTMod])
    | ((with_reducible refine and_orderN (by kernel_rfl) ?_ ?_) <;> (try simp only [hq, e1, e2, e3, e4, e5, e6, e7, e8, e9, e10, go_sem, Nat.reduceAdd, Nat.reduceLT, Nat.reduceBEq, Nat.reduceEqDiff, reduceIte, reduceCtorEq, Nat.reduceLeDiff, Int.reduceEq, Int.reduceLT, Int.reduceLE, Int.reduceSub, Int.reduceAdd, Int.reduceMul, Int.reduceNeg, Int.reduceToNat, Nat.reduceMul, Nat.reduceSub, Nat.reduceDiv, Int.reduceMod, Int.reduceDiv, Int.reduceTDiv, Int.reduceTMod]))
    | ((with_reducible refine (and_orderN (A := True) (by kernel_rfl) ?_ trivial).1) <;> (try simp only [hq, e1, e2, e3, e4, e5, e6, e7, e8, e9, e10, go_sem, Nat.reduceAdd, Nat.reduceLT, Nat.reduceBEq, Nat.reduceEqDiff, reduceIte, reduceCtorEq, Nat.reduceLeDiff, Int.reduceEq, Int.reduceLT, Int.reduceLE, Int.reduceSub, Int.reduceAdd, Int.reduceMul, Int.reduceNeg, Int.reduceToNat, Nat.reduceMul, Nat.reduceSub, Nat.reduceDiv, Int.reduceMod, Int.reduceDiv, Int.reduceTDiv, Int.reduceTMod]))
    | (with_reducible exact (show bitOf _ _ _ = true by decide +kernel))
    | (with_reducible refine and_nomen ?_ ?_)
    | (with_reducible refine nomen_p (by first | rfl | simp only [go_sem, Nat.reduceBEq, Nat.reduceLeDiff, Nat.reduceEqDiff, reduceCtorEq, reduceIte]) ?_)
    | (with_reducible refine nomen_s (by first | rfl | simp only [go_sem, Nat.reduceBEq, Nat.reduceLeDiff, Nat.reduceEqDiff, reduceCtorEq, reduceIte]) ?_)
    | (with_reducible refine nomen_setB0 _ _ _ ?_)
    | (with_reducible refine nomen_p0 (by first | rfl | simp only [go_sem, Nat.reduceBEq, Nat.reduceLeDiff, Nat.reduceEqDiff, reduceCtorEq, reduceIte]) ?_)
    | (with_reducible refine nomen_j ?_)
    | (with_reducible exact nomen_i (by first | rfl | simp only [go_sem, Nat.reduceBEq, Nat.reduceLeDiff, Nat.reduceEqDiff, reduceCtorEq, reduceIte]))
    | (with_reducible exact nomen_iB (by first | rfl | simp only [go_sem, Nat.reduceBEq, Nat.reduceLeDiff, Nat.reduceEqDiff, reduceCtorEq, reduceIte]) (by first | rfl | simp only [go_sem, Nat.reduceBEq, Nat.reduceLeDiff, Nat.reduceEqDiff, reduceCtorEq, reduceIte]) (by decide))
    | (with_reducible exact nomen_b)
    | (with_reducible refine leX_nil (by simp only [go_sem, Nat.reduceBEq, Nat.reduceLeDiff, Nat.reduceEqDiff, reduceCtorEq, reduceIte]) ?_)
    | ((with_reducible refine leX_put ?_ ?_) <;> (try simp only [hq, e1, e2, e3, e4, e5, e6, e7, e8, e9, e10, go_sem, Nat.reduceAdd, Nat.reduceLT, Nat.reduceBEq, Nat.reduceEqDiff, reduceIte, reduceCtorEq, Nat.reduceLeDiff, Int.reduceEq, Int.reduceLT, Int.reduceLE, Int.reduceSub, Int.reduceAdd, Int.reduceMul, Int.reduceNeg, Int.reduceToNat, Nat.reduceMul, Nat.reduceSub, Nat.reduceDiv, Int.reduceMod, Int.reduceDiv, Int.reduceTDiv, Int.reduceTMod]))
    | (with_reducible refine leX_boxnil ?_)
    | ((with_reducible refine leX_box ?_ ?_) <;> (try simp only [hq, e1, e2, e3, e4, e5, e6, e7, e8, e9, e10, go_sem, Nat.reduceAdd, Nat.reduceLT, Nat.reduceBEq, Nat.reduceEqDiff, reduceIte, reduceCtorEq, Nat.reduceLeDiff, Int.reduceEq, Int.reduceLT, Int.reduceLE, Int.reduceSub, Int.reduceAdd, Int.reduceMul, Int.reduceNeg, Int.reduceToNat, Nat.reduceMul, Nat.reduceSub, Nat.reduceDiv, Int.reduceMod, Int.reduceDiv, Int.reduceTDiv, Int.reduceTMod]))
    | (with_reducible refine leX_boxnone ?_)
    | (with_reducible exact leX_base rfl)
    | (with_reducible refine leX_junkF ?_)
    | (with_reducible exact kp_refl)
    | (with_reducible refine kp_fx rfl (by first | exact Or.inl rfl | (refine Or.inr ?_; simp only [go_sem, Nat.reduceBEq, Nat.reduceLeDiff, Nat.reduceEqDiff, reduceCtorEq, reduceIte])) ?_)
    | (with_reducible refine kp_put rfl ?_)
    | (with_reducible refine kp_setB (by first | exact Or.inl rfl | (refine Or.inr ?_; simp only [go_sem, Nat.reduceBEq, Nat.reduceLeDiff, Nat.reduceEqDiff, reduceCtorEq, reduceIte])) ?_)
    | (with_reducible refine kp_junkF (by decide) ?_)
    | (with_reducible refine fx_put (by first | rfl | simp only [go_sem, Nat.reduceBEq, Nat.reduceLeDiff, Nat.reduceEqDiff, reduceCtorEq, reduceIte]) ?_)
    | (with_reducible refine fx_setB (by first | rfl | simp only [go_sem, Nat.reduceBEq, Nat.reduceLeDiff, Nat.reduceEqDiff, reduceCtorEq, reduceIte]) ?_)
    | (with_reducible refine fx_setN ?_)
    | (with_reducible refine fx_junkF ?_)
    | (with_reducible exact fx_init (by first | rfl | simp only [go_sem, Nat.reduceBEq, Nat.reduceLeDiff, Nat.reduceEqDiff, reduceCtorEq, reduceIte]))
    | (with_reducible exact fx_initB (by first | rfl | simp only [go_sem, Nat.reduceBEq, Nat.reduceLeDiff, Nat.reduceEqDiff, reduceCtorEq, reduceIte]) (by first | rfl | simp only [go_sem, Nat.reduceBEq, Nat.reduceLeDiff, Nat.reduceEqDiff, reduceCtorEq, reduceIte]) rfl (by decide) (by decide))
    | (with_reducible exact fx_base)
    | (with_reducible refine And.intro ?_ ?_))
  all_goals refine leafN ?_
  all_goals simp only [decide_eq_true_eq, decide_eq_false_iff_not] at *
  all_goals refine congrArg _ ?_
  · rw [fN, if_pos (by omega)]
  · rw [fN, if_neg (by omega), if_pos (by omega)]
  · rw [fN, if_neg (by omega), if_neg (by omega)]
noncomputable def mixG : List AV → Option AV := ofRel fun args r => ∃ (t : Nat) (b : Nat) (c : Nat) (d : Nat), args = [I t, W b, W c, W d] ∧ (t < 4294967296 ∧ b < 4294967296 ∧ c < 4294967296 ∧ d < 4294967296) ∧ r = W (fN t b c d)
@[go_sem] theorem mixG_eq (t : Nat) (b : Nat) (c : Nat) (d : Nat) (hp : t < 4294967296 ∧ b < 4294967296 ∧ c < 4294967296 ∧ d < 4294967296) : mixG [I t, W b, W c, W d] = some (W (fN t b c d)) :=
  ofRel_eq ⟨t, b, c, d, rfl, hp, rfl⟩ (by rintro _ ⟨t', b', c', d', e, _, rfl⟩; simp [IL_injEq, castL_inj, Int.ofNat_inj] at e; first | (obtain ⟨rfl, rfl, rfl, rfl⟩ := e; rfl) | (obtain ⟨rfl, rfl, rfl, rfl⟩ := e; exact ⟨rfl, rfl⟩) | (simp [e]) | (simp_all))
theorem mix_good : Good cfg 27 mixG := fun args r h => by
  obtain ⟨_, _, _, _, rfl, hp, rfl⟩ := ofRel_some h; exact ⟨mix_ok _ _ _ _ hp, rfl⟩

theorem con_ok (t : Nat) (hp : t < 4294967296) : FnOk cfg 28 [I t] (W (kN t)) := by
  have hq := quo20 t (by omega)
  refine fnOk_eval [] good_nil mixed Try.func28 rfl rfl Try.ntmps28 (congrArg Array.toList Try.results28) (by simp) (by simp only [hq, go_sem, Nat.reduceAdd, Nat.reduceLT, Nat.reduceBEq, Nat.reduceEqDiff, reduceIte, reduceCtorEq, Nat.reduceLeDiff, Int.reduceEq, Int.reduceLT, Int.reduceLE, Int.reduceSub, Int.reduceAdd, Int.reduceMul, Int.reduceNeg, Int.reduceToNat, Nat.reduceMul, Nat.reduceSub, Nat.reduceDiv, Int.reduceMod, Int.reduceDiv, Int.reduceTDiv, Int.reduceTMod]) (by simp only [hq, go_sem, Nat.reduceAdd, Nat.reduceLT, Nat.reduceBEq, Nat.reduceEqDiff, reduceIte, reduceCtorEq, Nat.reduceLeDiff, Int.reduceEq, Int.reduceLT, Int.reduceLE, Int.reduceSub, Int.reduceAdd, Int.reduceMul, Int.reduceNeg, Int.reduceToNat, Nat.reduceMul, Nat.reduceSub, Nat.reduceDiv, Int.reduceMod, Int.reduceDiv, Int.reduceTDiv, Int.reduceTMod]) ?_
  simp only [hq, go_sem, Nat.reduceAdd, Nat.reduceLT, Nat.reduceBEq, Nat.reduceEqDiff, reduceIte, reduceCtorEq, Nat.reduceLeDiff, Int.reduceEq, Int.reduceLT, Int.reduceLE, Int.reduceSub, Int.reduceAdd, Int.reduceMul, Int.reduceNeg, Int.reduceToNat, Nat.reduceMul, Nat.reduceSub, Nat.reduceDiv, Int.reduceMod, Int.reduceDiv, Int.reduceTDiv, Int.reduceTMod]
  repeat' (first
    | ((with_reducible refine split_guard ?_ ?_) <;> intro hb <;> simp only [hb, hq, go_sem, Nat.reduceAdd, Nat.reduceLT, Nat.reduceBEq, Nat.reduceEqDiff, reduceIte, reduceCtorEq, Nat.reduceLeDiff, Int.reduceEq, Int.reduceLT, Int.reduceLE, Int.reduceSub, Int.reduceAdd, Int.reduceMul, Int.reduceNeg, Int.reduceToNat, Nat.reduceMul, Nat.reduceSub, Nat.reduceDiv, Int.reduceMod, Int.reduceDiv, Int.reduceTDiv, Int.reduceTMod])
    | ((with_reducible refine split_cond ?_ ?_) <;> intro hb <;> simp only [hb, hq, go_sem, Nat.reduceAdd, Nat.reduceLT, Nat.reduceBEq, Nat.reduceEqDiff, reduceIte, reduceCtorEq, Nat.reduceLeDiff, Int.reduceEq, Int.reduceLT, Int.reduceLE, Int.reduceSub, Int.reduceAdd, Int.reduceMul, Int.reduceNeg, Int.reduceToNat, Nat.reduceMul, Nat.reduceSub, Nat.reduceDiv, Int.reduceMod, Int.reduceDiv, Int.reduceTDiv, Int.reduceTMod])
    | ((with_reducible refine split_guardY ?_ ?_) <;> intro hb <;> simp only [hb, hq, go_sem, Nat.reduceAdd, Nat.reduceLT, Nat.reduceBEq, Nat.reduceEqDiff, reduceIte, reduceCtorEq, Nat.reduceLeDiff, Int.reduceEq, Int.reduceLT, Int.reduceLE, Int.reduceSub, Int.reduceAdd, Int.reduceMul, Int.reduceNeg, Int.reduceToNat, Nat.reduceMul, Nat.reduceSub, Nat.reduceDiv, Int.reduceMod, Int.reduceDiv, Int.reduceTDiv, Int.reduceTMod])
    | ((with_reducible refine and_orderN (by kernel_rfl) ?_ ?_) <;> (try simp only [hq, go_sem, Nat.reduceAdd, Nat.reduceLT, Nat.reduceBEq, Nat.reduceEqDiff, reduceIte, reduceCtorEq, Nat.reduceLeDiff, Int.reduceEq, Int.reduceLT, Int.reduceLE, Int.reduceSub, Int.reduceAdd, Int.reduceMul, Int.reduceNeg, Int.reduceToNat, Nat.reduceMul, Nat.reduceSub, Nat.reduceDiv, Int.reduceMod, Int.reduceDiv, Int.reduceTDiv, Int.reduceTMod]))
    | ((with_reducible refine (and_orderN (A := True) (by kernel_rfl) ?_ trivial).1) <;> (try simp only [hq, go_sem, Nat.reduceAdd, Nat.reduceLT, Nat.reduceBEq, Nat.reduceEqDiff, reduceIte, reduceCtorEq, Nat.reduceLeDiff, Int.reduceEq, Int.reduceLT, Int.reduceLE, Int.reduceSub, Int.reduceAdd, Int.reduceMul, Int.reduceNeg, Int.reduceToNat, Nat.reduceMul, Nat.reduceSub, Nat.reduceDiv, Int.reduceMod, Int.reduceDiv, Int.reduceTDiv, Int.reduceTMod]))
    | (with_reducible exact (show bitOf _ _ _ = true by decide +kernel))
    | (with_reducible refine and_nomen ?_ ?_)
    | (with_reducible refine nomen_p (by first | rfl | simp only [go_sem, Nat.reduceBEq, Nat.reduceLeDiff, Nat.reduceEqDiff, reduceCtorEq, reduceIte]) ?_)
    | (with_reducible refine nomen_s (by first | rfl | simp only [go_sem, Nat.reduceBEq, Nat.reduceLeDiff, Nat.reduceEqDiff, reduceCtorEq, reduceIte]) ?_)
    | (with_reducible refine nomen_setB0 _ _ _ ?_)
    | (with_reducible refine nomen_p0 (by first | rfl | simp only [go_sem, Nat.reduceBEq, Nat.reduceLeDiff, Nat.reduceEqDiff, reduceCtorEq, reduceIte]) ?_)
    | (with_reducible refine nomen_j ?_)
    | (with_reducible exact nomen_i (by first | rfl | simp only [go_sem, Nat.reduceBEq, Nat.reduceLeDiff, Nat.reduceEqDiff, reduceCtorEq, reduceIte]))
    | (with_reducible exact nomen_iB (by first | rfl | simp only [go_sem, Nat.reduceBEq, Nat.reduceLeDiff, Nat.reduceEqDiff, reduceCtorEq, reduceIte]) (by first | rfl | simp only [go_sem, Nat.reduceBEq, Nat.reduceLeDiff, Nat.reduceEqDiff, reduceCtorEq, reduceIte]) (by decide))
    | (with_reducible exact nomen_b)
    | (with_reducible refine leX_nil (by simp only [go_sem, Nat.reduceBEq, Nat.reduceLeDiff, Nat.reduceEqDiff, reduceCtorEq, reduceIte]) ?_)
    | ((with_reducible refine leX_put ?_ ?_) <;> (try simp only [hq, go_sem, Nat.reduceAdd, Nat.reduceLT, Nat.reduceBEq, Nat.reduceEqDiff, reduceIte, reduceCtorEq, Nat.reduceLeDiff, Int.reduceEq, Int.reduceLT, Int.reduceLE, Int.reduceSub, Int.reduceAdd, Int.reduceMul, Int.reduceNeg, Int.reduceToNat, Nat.reduceMul, Nat.reduceSub, Nat.reduceDiv, Int.reduceMod, Int.reduceDiv, Int.reduceTDiv, Int.reduceTMod]))
    | (with_reducible refine leX_boxnil ?_)
    | ((with_reducible refine leX_box ?_ ?_) <;> (try simp only [hq, go_sem, Nat.reduceAdd, Nat.reduceLT, Nat.reduceBEq, Nat.reduceEqDiff, reduceIte, reduceCtorEq, Nat.reduceLeDiff, Int.reduceEq, Int.reduceLT, Int.reduceLE, Int.reduceSub, Int.reduceAdd, Int.reduceMul, Int.reduceNeg, Int.reduceToNat, Nat.reduceMul, Nat.reduceSub, Nat.reduceDiv, Int.reduceMod, Int.reduceDiv, Int.reduceTDiv, Int.reduceTMod]))
    | (with_reducible refine leX_boxnone ?_)
    | (with_reducible exact leX_base rfl)
    | (with_reducible refine leX_junkF ?_)
    | (with_reducible exact kp_refl)
    | (with_reducible refine kp_fx rfl (by first | exact Or.inl rfl | (refine Or.inr ?_; simp only [go_sem, Nat.reduceBEq, Nat.reduceLeDiff, Nat.reduceEqDiff, reduceCtorEq, reduceIte])) ?_)
    | (with_reducible refine kp_put rfl ?_)
    | (with_reducible refine kp_setB (by first | exact Or.inl rfl | (refine Or.inr ?_; simp only [go_sem, Nat.reduceBEq, Nat.reduceLeDiff, Nat.reduceEqDiff, reduceCtorEq, reduceIte])) ?_)
    | (with_reducible refine kp_junkF (by decide) ?_)
    | (with_reducible refine fx_put (by first | rfl | simp only [go_sem, Nat.reduceBEq, Nat.reduceLeDiff, Nat.reduceEqDiff, reduceCtorEq, reduceIte]) ?_)
    | (with_reducible refine fx_setB (by first | rfl | simp only [go_sem, Nat.reduceBEq, Nat.reduceLeDiff, Nat.reduceEqDiff, reduceCtorEq, reduceIte]) ?_)
    | (with_reducible refine fx_setN ?_)
    | (with_reducible refine fx_junkF ?_)
    | (with_reducible exact fx_init (by first | rfl | simp only [go_sem, Nat.reduceBEq, Nat.reduceLeDiff, Nat.reduceEqDiff, reduceCtorEq, reduceIte]))
    | (with_reducible exact fx_initB (by first | rfl | simp only [go_sem, Nat.reduceBEq, Nat.reduceLeDiff, Nat.reduceEqDiff, reduceCtorEq, reduceIte]) (by first | rfl | simp only [go_sem, Nat.reduceBEq, Nat.reduceLeDiff, Nat.reduceEqDiff, reduceCtorEq, reduceIte]) rfl (by decide) (by decide))
    | (with_reducible exact fx_base)
    | (with_reducible refine And.intro ?_ ?_))
  all_goals simp only [decide_eq_true_eq, decide_eq_false_iff_not] at *
  · rw [kN, if_pos (by omega)]; rfl
  · rw [kN, if_neg (by omega), if_pos (by omega)]; rfl
  · rw [kN, if_neg (by omega), if_neg (by omega), if_pos (by omega)]; rfl
  · rw [kN, if_neg (by omega), if_neg (by omega), if_neg (by omega)]; rfl
noncomputable def conG : List AV → Option AV := ofRel fun args r => ∃ (t : Nat), args = [I t] ∧ (t < 4294967296) ∧ r = W (kN t)
@[go_sem] theorem conG_eq (t : Nat) (hp : t < 4294967296) : conG [I t] = some (W (kN t)) :=
  ofRel_eq ⟨t, rfl, hp, rfl⟩ (by rintro _ ⟨t', e, _, rfl⟩; simp [IL_injEq, castL_inj, Int.ofNat_inj] at e; first | (obtain ⟨rfl⟩ := e; rfl) | (obtain ⟨rfl⟩ := e; exact ⟨rfl, rfl⟩) | (simp [e]) | (simp_all))
theorem con_good : Good cfg 28 conG := fun args r h => by
  obtain ⟨_, rfl, hp, rfl⟩ := ofRel_some h; exact ⟨con_ok _ hp, rfl⟩

theorem turn_ok (x : Nat) (k : Nat) (hp : x < 4294967296 ∧ k < 32) : FnOk cfg 24 [I x, I k] (I (rotN x k)) := by
  have hl : x * 2 ^ k < 9223372036854775808 := by
    have h1 : (2:Nat) ^ k ≤ 2 ^ 31 := Nat.pow_le_pow_right (by omega) (by omega)
    have h2 : x * 2 ^ k ≤ x * 2 ^ 31 := Nat.mul_le_mul_left _ h1
    omega
  have c1 : IntKind.u64.wrap (k : Int) = (k : Int) := by rw [wrap_u64, Nat.mod_eq_of_lt (by omega)]
  have c2 := wShl_i x k (by omega) hl
  have c3 : ((x * 2 ^ k : Nat) : Int).tmod 4294967296 = ((x * 2 ^ k % 4294967296 : Nat) : Int) := by
    rw [Int.tmod_eq_emod_of_nonneg (Int.natCast_nonneg _), Int.natCast_emod]; rfl
  have c4 : IntKind.i64.wrap (32 - (k : Int)) = ((32 - k : Nat) : Int) := by
    rw [show (32 : Int) - (k : Int) = ((32 - k : Nat) : Int) by omega, wrap_i64 _ (by omega)]
  have c5 : IntKind.u64.wrap ((32 - k : Nat) : Int) = ((32 - k : Nat) : Int) := by rw [wrap_u64, Nat.mod_eq_of_lt (by omega)]
  have c6 := wShr_u .i64 x (32 - k) (show 32 - k ≤ 64 by omega)
  refine fnOk_eval [] good_nil mixed Try.func24 rfl rfl Try.ntmps24 (congrArg Array.toList Try.results24) (by simp) (by simp only [c1, c2, c3, c4, c5, c6, Int.natCast_nonneg, go_sem, Nat.reduceAdd, Nat.reduceLT, Nat.reduceBEq, Nat.reduceEqDiff, reduceIte, reduceCtorEq, Nat.reduceLeDiff, Int.reduceEq, Int.reduceLT, Int.reduceLE, Int.reduceSub, Int.reduceAdd, Int.reduceMul, Int.reduceNeg, Int.reduceToNat, Nat.reduceMul, Nat.reduceSub, Nat.reduceDiv, Int.reduceMod, Int.reduceDiv, Int.reduceTDiv, Int.reduceTMod]) (by simp only [c1, c2, c3, c4, c5, c6, Int.natCast_nonneg, go_sem, Nat.reduceAdd, Nat.reduceLT, Nat.reduceBEq, Nat.reduceEqDiff, reduceIte, reduceCtorEq, Nat.reduceLeDiff, Int.reduceEq, Int.reduceLT, Int.reduceLE, Int.reduceSub, Int.reduceAdd, Int.reduceMul, Int.reduceNeg, Int.reduceToNat, Nat.reduceMul, Nat.reduceSub, Nat.reduceDiv, Int.reduceMod, Int.reduceDiv, Int.reduceTDiv, Int.reduceTMod]) ?_
  simp only [c1, c2, c3, c4, c5, c6, Int.natCast_nonneg, go_sem, Nat.reduceAdd, Nat.reduceLT, Nat.reduceBEq, Nat.reduceEqDiff, reduceIte, reduceCtorEq, Nat.reduceLeDiff, Int.reduceEq, Int.reduceLT, Int.reduceLE, Int.reduceSub, Int.reduceAdd, Int.reduceMul, Int.reduceNeg, Int.reduceToNat, Nat.reduceMul, Nat.reduceSub, Nat.reduceDiv, Int.reduceMod, Int.reduceDiv, Int.reduceTDiv, Int.reduceTMod]
  repeat' (first
    | ((with_reducible refine split_guard ?_ ?_) <;> intro hb <;> simp only [hb, c1, c2, c3, c4, c5, c6, Int.natCast_nonneg, go_sem, Nat.reduceAdd, Nat.reduceLT, Nat.reduceBEq, Nat.reduceEqDiff, reduceIte, reduceCtorEq, Nat.reduceLeDiff, Int.reduceEq, Int.reduceLT, Int.reduceLE, Int.reduceSub, Int.reduceAdd, Int.reduceMul, Int.reduceNeg, Int.reduceToNat, Nat.reduceMul, Nat.reduceSub, Nat.reduceDiv, Int.reduceMod, Int.reduceDiv, Int.reduceTDiv, Int.reduceTMod])
    | ((with_reducible refine split_cond ?_ ?_) <;> intro hb <;> simp only [hb, c1, c2, c3, c4, c5, c6, Int.natCast_nonneg, go_sem, Nat.reduceAdd, Nat.reduceLT, Nat.reduceBEq, Nat.reduceEqDiff, reduceIte, reduceCtorEq, Nat.reduceLeDiff, Int.reduceEq, Int.reduceLT, Int.reduceLE, Int.reduceSub, Int.reduceAdd, Int.reduceMul, Int.reduceNeg, Int.reduceToNat, Nat.reduceMul, Nat.reduceSub, Nat.reduceDiv, Int.reduceMod, Int.reduceDiv, Int.reduceTDiv, Int.reduceTMod])
    | ((with_reducible refine split_guardY ?_ ?_) <;> intro hb <;> simp only [hb, c1, c2, c3, c4, c5, c6, Int.natCast_nonneg, go_sem, Nat.reduceAdd, Nat.reduceLT, Nat.reduceBEq, Nat.reduceEqDiff, reduceIte, reduceCtorEq, Nat.reduceLeDiff, Int.reduceEq, Int.reduceLT, Int.reduceLE, Int.reduceSub, Int.reduceAdd, Int.reduceMul, Int.reduceNeg, Int.reduceToNat, Nat.reduceMul, Nat.reduceSub, Nat.reduceDiv, Int.reduceMod, Int.reduceDiv, Int.reduceTDiv, Int.reduceTMod])
    | ((with_reducible refine and_orderN (by kernel_rfl) ?_ ?_) <;> (try simp only [c1, c2, c3, c4, c5, c6, Int.natCast_nonneg, go_sem, Nat.reduceAdd, Nat.reduceLT, Nat.reduceBEq, Nat.reduceEqDiff, reduceIte, reduceCtorEq, Nat.reduceLeDiff, Int.reduceEq, Int.reduceLT, Int.reduceLE, Int.reduceSub, Int.reduceAdd, Int.reduceMul, Int.reduceNeg, Int.reduceToNat, Nat.reduceMul, Nat.reduceSub, Nat.reduceDiv, Int.reduceMod, Int.reduceDiv, Int.reduceTDiv, Int.reduceTMod]))
    | ((with_reducible refine (and_orderN (A := True) (by kernel_rfl) ?_ trivial).1) <;> (try simp only [c1, c2, c3, c4, c5, c6, Int.natCast_nonneg, go_sem, Nat.reduceAdd, Nat.reduceLT, Nat.reduceBEq, Nat.reduceEqDiff, reduceIte, reduceCtorEq, Nat.reduceLeDiff, Int.reduceEq, Int.reduceLT, Int.reduceLE, Int.reduceSub, Int.reduceAdd, Int.reduceMul, Int.reduceNeg, Int.reduceToNat, Nat.reduceMul, Nat.reduceSub, Nat.reduceDiv, Int.reduceMod, Int.reduceDiv, Int.reduceTDiv, Int.reduceTMod]))
    | (with_reducible exact (show bitOf _ _ _ = true by decide +kernel))
    | (with_reducible refine and_nomen ?_ ?_)
    | (with_reducible refine nomen_p (by first | rfl | simp only [go_sem, Nat.reduceBEq, Nat.reduceLeDiff, Nat.reduceEqDiff, reduceCtorEq, reduceIte]) ?_)
    | (with_reducible refine nomen_s (by first | rfl | simp only [go_sem, Nat.reduceBEq, Nat.reduceLeDiff, Nat.reduceEqDiff, reduceCtorEq, reduceIte]) ?_)
    | (with_reducible refine nomen_setB0 _ _ _ ?_)
    | (with_reducible refine nomen_p0 (by first | rfl | simp only [go_sem, Nat.reduceBEq, Nat.reduceLeDiff, Nat.reduceEqDiff, reduceCtorEq, reduceIte]) ?_)
    | (with_reducible refine nomen_j ?_)
    | (with_reducible exact nomen_i (by first | rfl | simp only [go_sem, Nat.reduceBEq, Nat.reduceLeDiff, Nat.reduceEqDiff, reduceCtorEq, reduceIte]))
    | (with_reducible exact nomen_iB (by first | rfl | simp only [go_sem, Nat.reduceBEq, Nat.reduceLeDiff, Nat.reduceEqDiff, reduceCtorEq, reduceIte]) (by first | rfl | simp only [go_sem, Nat.reduceBEq, Nat.reduceLeDiff, Nat.reduceEqDiff, reduceCtorEq, reduceIte]) (by decide))
    | (with_reducible exact nomen_b)
    | (with_reducible refine leX_nil (by simp only [go_sem, Nat.reduceBEq, Nat.reduceLeDiff, Nat.reduceEqDiff, reduceCtorEq, reduceIte]) ?_)
    | ((with_reducible refine leX_put ?_ ?_) <;> (try simp only [c1, c2, c3, c4, c5, c6, Int.natCast_nonneg, go_sem, Nat.reduceAdd, Nat.reduceLT, Nat.reduceBEq, Nat.reduceEqDiff, reduceIte, reduceCtorEq, Nat.reduceLeDiff, Int.reduceEq, Int.reduceLT, Int.reduceLE, Int.reduceSub, Int.reduceAdd, Int.reduceMul, Int.reduceNeg, Int.reduceToNat, Nat.reduceMul, Nat.reduceSub, Nat.reduceDiv, Int.reduceMod, Int.reduceDiv, Int.reduceTDiv, Int.reduceTMod]))
    | (with_reducible refine leX_boxnil ?_)
    | ((with_reducible refine leX_box ?_ ?_) <;> (try simp only [c1, c2, c3, c4, c5, c6, Int.natCast_nonneg, go_sem, Nat.reduceAdd, Nat.reduceLT, Nat.reduceBEq, Nat.reduceEqDiff, reduceIte, reduceCtorEq, Nat.reduceLeDiff, Int.reduceEq, Int.reduceLT, Int.reduceLE, Int.reduceSub, Int.reduceAdd, Int.reduceMul, Int.reduceNeg, Int.reduceToNat, Nat.reduceMul, Nat.reduceSub, Nat.reduceDiv, Int.reduceMod, Int.reduceDiv, Int.reduceTDiv, Int.reduceTMod]))
    | (with_reducible refine leX_boxnone ?_)
    | (with_reducible exact leX_base rfl)
    | (with_reducible refine leX_junkF ?_)
    | (with_reducible exact kp_refl)
    | (with_reducible refine kp_fx rfl (by first | exact Or.inl rfl | (refine Or.inr ?_; simp only [go_sem, Nat.reduceBEq, Nat.reduceLeDiff, Nat.reduceEqDiff, reduceCtorEq, reduceIte])) ?_)
    | (with_reducible refine kp_put rfl ?_)
    | (with_reducible refine kp_setB (by first | exact Or.inl rfl | (refine Or.inr ?_; simp only [go_sem, Nat.reduceBEq, Nat.reduceLeDiff, Nat.reduceEqDiff, reduceCtorEq, reduceIte])) ?_)
    | (with_reducible refine kp_junkF (by decide) ?_)
    | (with_reducible refine fx_put (by first | rfl | simp only [go_sem, Nat.reduceBEq, Nat.reduceLeDiff, Nat.reduceEqDiff, reduceCtorEq, reduceIte]) ?_)
    | (with_reducible refine fx_setB (by first | rfl | simp only [go_sem, Nat.reduceBEq, Nat.reduceLeDiff, Nat.reduceEqDiff, reduceCtorEq, reduceIte]) ?_)
    | (with_reducible refine fx_setN ?_)
    | (with_reducible refine fx_junkF ?_)
    | (with_reducible exact fx_init (by first | rfl | simp only [go_sem, Nat.reduceBEq, Nat.reduceLeDiff, Nat.reduceEqDiff, reduceCtorEq, reduceIte]))
    | (with_reducible exact fx_initB (by first | rfl | simp only [go_sem, Nat.reduceBEq, Nat.reduceLeDiff, Nat.reduceEqDiff, reduceCtorEq, reduceIte]) (by first | rfl | simp only [go_sem, Nat.reduceBEq, Nat.reduceLeDiff, Nat.reduceEqDiff, reduceCtorEq, reduceIte]) rfl (by decide) (by decide))
    | (with_reducible exact fx_base)
    | (with_reducible refine And.intro ?_ ?_))
  all_goals refine leafN ?_
  rw [← Int.natCast_add, wrap_i64 _ (by have := rotN_lt hp.1 (show k ≤ 32 by omega); unfold rotN at this; omega)]; rfl
noncomputable def turnG : List AV → Option AV := ofRel fun args r => ∃ (x : Nat) (k : Nat), args = [I x, I k] ∧ (x < 4294967296 ∧ k < 32) ∧ r = I (rotN x k)
@[go_sem] theorem turnG_eq (x : Nat) (k : Nat) (hp : x < 4294967296 ∧ k < 32) : turnG [I x, I k] = some (I (rotN x k)) :=
  ofRel_eq ⟨x, k, rfl, hp, rfl⟩ (by rintro _ ⟨x', k', e, _, rfl⟩; simp [IL_injEq, castL_inj, Int.ofNat_inj] at e; first | (obtain ⟨rfl, rfl⟩ := e; rfl) | (obtain ⟨rfl, rfl⟩ := e; exact ⟨rfl, rfl⟩) | (simp [e]) | (simp_all))
theorem turn_good : Good cfg 24 turnG := fun args r h => by
  obtain ⟨_, _, rfl, hp, rfl⟩ := ofRel_some h; exact ⟨turn_ok _ _ hp, rfl⟩

theorem set_next (L : List Nat) (t n x : Nat) (hL : L.length = t) (ht : t < n) : setL (castL (L ++ List.replicate (n - t) 0)) t (x : Int) = castL ((L ++ [x]) ++ List.replicate (n - (t + 1)) 0) := by
  rw [setL_castL _ _ _ (by simp <;> omega)]
  congr 1
  have : n - t = (n - (t + 1)) + 1 := by omega
  rw [this, List.replicate_succ, List.set_append_right _ _ (by omega)]
  simp [hL]
theorem sp0 (b : List Nat) : sp b 0 = [] := rfl
theorem lit_or (a b c d : Nat) (ha : a < 256) (hb : b < 256) (hc : c < 256) (hd : d < 256) :
    wOr .u32 (wOr .u32 (wOr .u32 ((a * 16777216 : Nat) : Int) ((b * 65536 : Nat) : Int)) ((c * 256 : Nat) : Int)) ((d : Nat) : Int) = ((a * 16777216 + b * 65536 + c * 256 + d : Nat) : Int) := by
  have e1 : a * 16777216 ||| b * 65536 = a * 16777216 + b * 65536 := by
    rw [Nat.mul_comm a, show 16777216 = 2 ^ 24 from rfl, Nat.two_pow_add_eq_or_of_lt (by omega)]
  have e2 : (a * 16777216 + b * 65536) ||| c * 256 = a * 16777216 + b * 65536 + c * 256 := by
    rw [show a * 16777216 + b * 65536 = 2 ^ 16 * (a * 256 + b) by omega, Nat.two_pow_add_eq_or_of_lt (by omega)]
  have e3 : (a * 16777216 + b * 65536 + c * 256) ||| d = a * 16777216 + b * 65536 + c * 256 + d := by
    rw [show a * 16777216 + b * 65536 + c * 256 = 2 ^ 8 * (a * 65536 + b * 256 + c) by omega, Nat.two_pow_add_eq_or_of_lt (by omega)]
  rw [wOr_u (k := .u32) rfl (show _ < 4294967296 by omega) (show _ < 4294967296 by omega), e1, wOr_u (k := .u32) rfl (show _ < 4294967296 by omega) (show _ < 4294967296 by omega), e2, wOr_u (k := .u32) rfl (show _ < 4294967296 by omega) (show _ < 4294967296 by omega), e3]
theorem i64n (n : Nat) (h : n < 9223372036854775808) : IntKind.i64.wrap (n : Int) = (n : Int) := wrap_i64 n h
theorem spread_ok (b : List Nat) (hp : b.length = 64 ∧ ∀ x ∈ b, x < 256) : FnOk cfg 25 [BL b] (WA (w80 b)) := by
  refine fnOk_eval [(26, plain rotG)] (good_cons rot_good good_nil) mixed Try.func25 rfl rfl Try.ntmps25 (congrArg Array.toList Try.results25) (by simp) (by simp only [go_sem, Nat.reduceAdd, Nat.reduceLT, Nat.reduceBEq, Nat.reduceEqDiff, reduceIte, reduceCtorEq, Nat.reduceLeDiff, Int.reduceEq, Int.reduceLT, Int.reduceLE, Int.reduceSub, Int.reduceAdd, Int.reduceMul, Int.reduceNeg, Int.reduceToNat, Nat.reduceMul, Nat.reduceSub, Nat.reduceDiv, Int.reduceMod, Int.reduceDiv, Int.reduceTDiv, Int.reduceTMod]) (by simp only [go_sem, Nat.reduceAdd, Nat.reduceLT, Nat.reduceBEq, Nat.reduceEqDiff, reduceIte, reduceCtorEq, Nat.reduceLeDiff, Int.reduceEq, Int.reduceLT, Int.reduceLE, Int.reduceSub, Int.reduceAdd, Int.reduceMul, Int.reduceNeg, Int.reduceToNat, Nat.reduceMul, Nat.reduceSub, Nat.reduceDiv, Int.reduceMod, Int.reduceDiv, Int.reduceTDiv, Int.reduceTMod]) ?_
  simp only [go_sem, Nat.reduceAdd, Nat.reduceLT, Nat.reduceBEq, Nat.reduceEqDiff, reduceIte, reduceCtorEq, Nat.reduceLeDiff, Int.reduceEq, Int.reduceLT, Int.reduceLE, Int.reduceSub, Int.reduceAdd, Int.reduceMul, Int.reduceNeg, Int.reduceToNat, Nat.reduceMul, Nat.reduceSub, Nat.reduceDiv, Int.reduceMod, Int.reduceDiv, Int.reduceTDiv, Int.reduceTMod]
  repeat' (first
    | ((with_reducible refine split_guard ?_ ?_) <;> intro hb <;> simp only [hb, go_sem, Nat.reduceAdd, Nat.reduceLT, Nat.reduceBEq, Nat.reduceEqDiff, reduceIte, reduceCtorEq, Nat.reduceLeDiff, Int.reduceEq, Int.reduceLT, Int.reduceLE, Int.reduceSub, Int.reduceAdd, Int.reduceMul, Int.reduceNeg, Int.reduceToNat, Nat.reduceMul, Nat.reduceSub, Nat.reduceDiv, Int.reduceMod, Int.reduceDiv, Int.reduceTDiv, Int.reduceTMod])
    | ((with_reducible refine split_cond ?_ ?_) <;> intro hb <;> simp only [hb, go_sem, Nat.reduceAdd, Nat.reduceLT, Nat.reduceBEq, Nat.reduceEqDiff, reduceIte, reduceCtorEq, Nat.reduceLeDiff, Int.reduceEq, Int.reduceLT, Int.reduceLE, Int.reduceSub, Int.reduceAdd, Int.reduceMul, Int.reduceNeg, Int.reduceToNat, Nat.reduceMul, Nat.reduceSub, Nat.reduceDiv, Int.reduceMod, Int.reduceDiv, Int.reduceTDiv, Int.reduceTMod])
    | ((with_reducible refine split_guardY ?_ ?_) <;> intro hb <;> simp only [hb, go_sem, Nat.reduceAdd, Nat.reduceLT, Nat.reduceBEq, Nat.reduceEqDiff, reduceIte, reduceCtorEq, Nat.reduceLeDiff, Int.reduceEq, Int.reduceLT, Int.reduceLE, Int.reduceSub, Int.reduceAdd, Int.reduceMul, Int.reduceNeg, Int.reduceToNat, Nat.reduceMul, Nat.reduceSub, Nat.reduceDiv, Int.reduceMod, Int.reduceDiv, Int.reduceTDiv, Int.reduceTMod])
    | ((with_reducible refine and_orderN (by kernel_rfl) ?_ ?_) <;> (try simp only [go_sem, Nat.reduceAdd, Nat.reduceLT, Nat.reduceBEq, Nat.reduceEqDiff, reduceIte, reduceCtorEq, Nat.reduceLeDiff, Int.reduceEq, Int.reduceLT, Int.reduceLE, Int.reduceSub, Int.reduceAdd, Int.reduceMul, Int.reduceNeg, Int.reduceToNat, Nat.reduceMul, Nat.reduceSub, Nat.reduceDiv, Int.reduceMod, Int.reduceDiv, Int.reduceTDiv, Int.reduceTMod]))
    | ((with_reducible refine (and_orderN (A := True) (by kernel_rfl) ?_ trivial).1) <;> (try simp only [go_sem, Nat.reduceAdd, Nat.reduceLT, Nat.reduceBEq, Nat.reduceEqDiff, reduceIte, reduceCtorEq, Nat.reduceLeDiff, Int.reduceEq, Int.reduceLT, Int.reduceLE, Int.reduceSub, Int.reduceAdd, Int.reduceMul, Int.reduceNeg, Int.reduceToNat, Nat.reduceMul, Nat.reduceSub, Nat.reduceDiv, Int.reduceMod, Int.reduceDiv, Int.reduceTDiv, Int.reduceTMod]))
    | (with_reducible exact (show bitOf _ _ _ = true by decide +kernel))
    | (with_reducible refine and_nomen ?_ ?_)
    | (with_reducible refine nomen_p (by first | rfl | simp only [go_sem, Nat.reduceBEq, Nat.reduceLeDiff, Nat.reduceEqDiff, reduceCtorEq, reduceIte]) ?_)
    | (with_reducible refine nomen_s (by first | rfl | simp only [go_sem, Nat.reduceBEq, Nat.reduceLeDiff, Nat.reduceEqDiff, reduceCtorEq, reduceIte]) ?_)
    | (with_reducible refine nomen_setB0 _ _ _ ?_)
    | (with_reducible refine nomen_p0 (by first | rfl | simp only [go_sem, Nat.reduceBEq, Nat.reduceLeDiff, Nat.reduceEqDiff, reduceCtorEq, reduceIte]) ?_)
    | (with_reducible refine nomen_j ?_)
    | (with_reducible exact nomen_i (by first | rfl | simp only [go_sem, Nat.reduceBEq, Nat.reduceLeDiff, Nat.reduceEqDiff, reduceCtorEq, reduceIte]))
    | (with_reducible exact nomen_iB (by first | rfl | simp only [go_sem, Nat.reduceBEq, Nat.reduceLeDiff, Nat.reduceEqDiff, reduceCtorEq, reduceIte]) (by first | rfl | simp only [go_sem, Nat.reduceBEq, Nat.reduceLeDiff, Nat.reduceEqDiff, reduceCtorEq, reduceIte]) (by decide))
    | (with_reducible exact nomen_b)
    | (with_reducible refine leX_nil (by simp only [go_sem, Nat.reduceBEq, Nat.reduceLeDiff, Nat.reduceEqDiff, reduceCtorEq, reduceIte]) ?_)
    | ((with_reducible refine leX_put ?_ ?_) <;> (try simp only [go_sem, Nat.reduceAdd, Nat.reduceLT, Nat.reduceBEq, Nat.reduceEqDiff, reduceIte, reduceCtorEq, Nat.reduceLeDiff, Int.reduceEq, Int.reduceLT, Int.reduceLE, Int.reduceSub, Int.reduceAdd, Int.reduceMul, Int.reduceNeg, Int.reduceToNat, Nat.reduceMul, Nat.reduceSub, Nat.reduceDiv, Int.reduceMod, Int.reduceDiv, Int.reduceTDiv, Int.reduceTMod]))
    | (with_reducible refine leX_boxnil ?_)
    | ((with_reducible refine leX_box ?_ ?_) <;> (try simp only [go_sem, Nat.reduceAdd, Nat.reduceLT, Nat.reduceBEq, Nat.reduceEqDiff, reduceIte, reduceCtorEq, Nat.reduceLeDiff, Int.reduceEq, Int.reduceLT, Int.reduceLE, Int.reduceSub, Int.reduceAdd, Int.reduceMul, Int.reduceNeg, Int.reduceToNat, Nat.reduceMul, Nat.reduceSub, Nat.reduceDiv, Int.reduceMod, Int.reduceDiv, Int.reduceTDiv, Int.reduceTMod]))
    | (with_reducible refine leX_boxnone ?_)
    | (with_reducible exact leX_base rfl)
    | (with_reducible refine leX_junkF ?_)
    | (with_reducible exact kp_refl)
    | (with_reducible refine kp_fx rfl (by first | exact Or.inl rfl | (refine Or.inr ?_; simp only [go_sem, Nat.reduceBEq, Nat.reduceLeDiff, Nat.reduceEqDiff, reduceCtorEq, reduceIte])) ?_)
    | (with_reducible refine kp_put rfl ?_)
    | (with_reducible refine kp_setB (by first | exact Or.inl rfl | (refine Or.inr ?_; simp only [go_sem, Nat.reduceBEq, Nat.reduceLeDiff, Nat.reduceEqDiff, reduceCtorEq, reduceIte])) ?_)
    | (with_reducible refine kp_junkF (by decide) ?_)
    | (with_reducible refine fx_put (by first | rfl | simp only [go_sem, Nat.reduceBEq, Nat.reduceLeDiff, Nat.reduceEqDiff, reduceCtorEq, reduceIte]) ?_)
    | (with_reducible refine fx_setB (by first | rfl | simp only [go_sem, Nat.reduceBEq, Nat.reduceLeDiff, Nat.reduceEqDiff, reduceCtorEq, reduceIte]) ?_)
    | (with_reducible refine fx_setN ?_)
    | (with_reducible refine fx_junkF ?_)
    | (with_reducible exact fx_init (by first | rfl | simp only [go_sem, Nat.reduceBEq, Nat.reduceLeDiff, Nat.reduceEqDiff, reduceCtorEq, reduceIte]))
    | (with_reducible exact fx_initB (by first | rfl | simp only [go_sem, Nat.reduceBEq, Nat.reduceLeDiff, Nat.reduceEqDiff, reduceCtorEq, reduceIte]) (by first | rfl | simp only [go_sem, Nat.reduceBEq, Nat.reduceLeDiff, Nat.reduceEqDiff, reduceCtorEq, reduceIte]) rfl (by decide) (by decide))
    | (with_reducible exact fx_base)
    | (with_reducible refine And.intro ?_ ?_))
  refine loop_at (α := Nat) 4 (fun t => [(5, I t)]) (fun t => [(3, some ⟨IL .u32 (castL (sp b t ++ List.replicate (80 - t) 0)), 0, false, false⟩)]) (fun t => t ≤ 80) (fun t => 80 - t) 0 (le_sw [] rfl rfl ?_) ?_ ?_
  · (try dsimp only)
    simp only [sp0, castL_replicate, List.nil_append, go_sem, Nat.reduceAdd, Nat.reduceLT, Nat.reduceBEq, Nat.reduceEqDiff, reduceIte, reduceCtorEq, Nat.reduceLeDiff, Int.reduceEq, Int.reduceLT, Int.reduceLE, Int.reduceSub, Int.reduceAdd, Int.reduceMul, Int.reduceNeg, Int.reduceToNat, Nat.reduceMul, Nat.reduceSub, Nat.reduceDiv, Int.reduceMod, Int.reduceDiv, Int.reduceTDiv, Int.reduceTMod]
    repeat' (first
      | ((with_reducible refine split_guard ?_ ?_) <;> intro hb <;> simp only [hb, sp0, castL_replicate, List.nil_append, go_sem, Nat.reduceAdd, Nat.reduceLT, Nat.reduceBEq, Nat.reduceEqDiff, reduceIte, reduceCtorEq, Nat.reduceLeDiff, Int.reduceEq, Int.reduceLT, Int.reduceLE, Int.reduceSub, Int.reduceAdd, Int.reduceMul, Int.reduceNeg, Int.reduceToNat, Nat.reduceMul, Nat.reduceSub, Nat.reduceDiv, Int.reduceMod, Int.reduceDiv, Int.reduceTDiv, Int.reduceTMod])
      | ((with_reducible refine split_cond ?_ ?_) <;> intro hb <;> simp only [hb, sp0, castL_replicate, List.nil_append, go_sem, Nat.reduceAdd, Nat.reduceLT, Nat.reduceBEq, Nat.reduceEqDiff, reduceIte, reduceCtorEq, Nat.reduceLeDiff, Int.reduceEq, Int.reduceLT, Int.reduceLE, Int.reduceSub, Int.reduceAdd, Int.reduceMul, Int.reduceNeg, Int.reduceToNat, Nat.reduceMul, Nat.reduceSub, Nat.reduceDiv, Int.reduceMod, Int.reduceDiv, Int.reduceTDiv, Int.reduceTMod])
      | ((with_reducible refine split_guardY ?_ ?_) <;> intro hb <;> simp only [hb, sp0, castL_replicate, List.nil_append, go_sem, Nat.reduceAdd, Nat.reduceLT, Nat.reduceBEq, Nat.reduceEqDiff, reduceIte, reduceCtorEq, Nat.reduceLeDiff, Int.reduceEq, Int.reduceLT, Int.reduceLE, Int.reduceSub, Int.reduceAdd, Int.reduceMul, Int.reduceNeg, Int.reduceToNat, Nat.reduceMul, Nat.reduceSub, Nat.reduceDiv, Int.reduceMod, Int.reduceDiv, Int.reduceTDiv, Int.reduceTMod])
      | ((with_reducible refine and_orderN (by kernel_rfl) ?_ ?_) <;> (try simp only [sp0, castL_replicate, List.nil_append, go_sem, Nat.reduceAdd, Nat.reduceLT, Nat.reduceBEq, Nat.reduceEqDiff, reduceIte, reduceCtorEq, Nat.reduceLeDiff, Int.reduceEq, Int.reduceLT, Int.reduceLE, Int.reduceSub, Int.reduceAdd, Int.reduceMul, Int.reduceNeg, Int.reduceToNat, Nat.reduceMul, Nat.reduceSub, Nat.reduceDiv, Int.reduceMod, Int.reduceDiv, Int.reduceTDiv, Int.reduceTMod]))
      | ((with_reducible refine (and_orderN (A := True) (by kernel_rfl) ?_ trivial).1) <;> (try simp only [sp0, castL_replicate, List.nil_append, go_sem, Nat.reduceAdd, Nat.reduceLT, Nat.reduceBEq, Nat.reduceEqDiff, reduceIte, reduceCtorEq, Nat.reduceLeDiff, Int.reduceEq, Int.reduceLT, Int.reduceLE, Int.reduceSub, Int.reduceAdd, Int.reduceMul, Int.reduceNeg, Int.reduceToNat, Nat.reduceMul, Nat.reduceSub, Nat.reduceDiv, Int.reduceMod, Int.reduceDiv, Int.reduceTDiv, Int.reduceTMod]))
      | (with_reducible exact (show bitOf _ _ _ = true by decide +kernel))
      | (with_reducible refine and_nomen ?_ ?_)
      | (with_reducible refine nomen_p (by first | rfl | simp only [go_sem, Nat.reduceBEq, Nat.reduceLeDiff, Nat.reduceEqDiff, reduceCtorEq, reduceIte]) ?_)
      | (with_reducible refine nomen_s (by first | rfl | simp only [go_sem, Nat.reduceBEq, Nat.reduceLeDiff, Nat.reduceEqDiff, reduceCtorEq, reduceIte]) ?_)
      | (with_reducible refine nomen_setB0 _ _ _ ?_)
      | (with_reducible refine nomen_p0 (by first | rfl | simp only [go_sem, Nat.reduceBEq, Nat.reduceLeDiff, Nat.reduceEqDiff, reduceCtorEq, reduceIte]) ?_)
      | (with_reducible refine nomen_j ?_)
      | (with_reducible exact nomen_i (by first | rfl | simp only [go_sem, Nat.reduceBEq, Nat.reduceLeDiff, Nat.reduceEqDiff, reduceCtorEq, reduceIte]))
      | (with_reducible exact nomen_iB (by first | rfl | simp only [go_sem, Nat.reduceBEq, Nat.reduceLeDiff, Nat.reduceEqDiff, reduceCtorEq, reduceIte]) (by first | rfl | simp only [go_sem, Nat.reduceBEq, Nat.reduceLeDiff, Nat.reduceEqDiff, reduceCtorEq, reduceIte]) (by decide))
      | (with_reducible exact nomen_b)
      | (with_reducible refine leX_nil (by simp only [go_sem, Nat.reduceBEq, Nat.reduceLeDiff, Nat.reduceEqDiff, reduceCtorEq, reduceIte]) ?_)
      | ((with_reducible refine leX_put ?_ ?_) <;> (try simp only [sp0, castL_replicate, List.nil_append, go_sem, Nat.reduceAdd, Nat.reduceLT, Nat.reduceBEq, Nat.reduceEqDiff, reduceIte, reduceCtorEq, Nat.reduceLeDiff, Int.reduceEq, Int.reduceLT, Int.reduceLE, Int.reduceSub, Int.reduceAdd, Int.reduceMul, Int.reduceNeg, Int.reduceToNat, Nat.reduceMul, Nat.reduceSub, Nat.reduceDiv, Int.reduceMod, Int.reduceDiv, Int.reduceTDiv, Int.reduceTMod]))
      | (with_reducible refine leX_boxnil ?_)
      | ((with_reducible refine leX_box ?_ ?_) <;> (try simp only [sp0, castL_replicate, List.nil_append, go_sem, Nat.reduceAdd, Nat.reduceLT, Nat.reduceBEq, Nat.reduceEqDiff, reduceIte, reduceCtorEq, Nat.reduceLeDiff, Int.reduceEq, Int.reduceLT, Int.reduceLE, Int.reduceSub, Int.reduceAdd, Int.reduceMul, Int.reduceNeg, Int.reduceToNat, Nat.reduceMul, Nat.reduceSub, Nat.reduceDiv, Int.reduceMod, Int.reduceDiv, Int.reduceTDiv, Int.reduceTMod]))
      | (with_reducible refine leX_boxnone ?_)
      | (with_reducible exact leX_base rfl)
      | (with_reducible refine leX_junkF ?_)
      | (with_reducible exact kp_refl)
      | (with_reducible refine kp_fx rfl (by first | exact Or.inl rfl | (refine Or.inr ?_; simp only [go_sem, Nat.reduceBEq, Nat.reduceLeDiff, Nat.reduceEqDiff, reduceCtorEq, reduceIte])) ?_)
      | (with_reducible refine kp_put rfl ?_)
      | (with_reducible refine kp_setB (by first | exact Or.inl rfl | (refine Or.inr ?_; simp only [go_sem, Nat.reduceBEq, Nat.reduceLeDiff, Nat.reduceEqDiff, reduceCtorEq, reduceIte])) ?_)
      | (with_reducible refine kp_junkF (by decide) ?_)
      | (with_reducible refine fx_put (by first | rfl | simp only [go_sem, Nat.reduceBEq, Nat.reduceLeDiff, Nat.reduceEqDiff, reduceCtorEq, reduceIte]) ?_)
      | (with_reducible refine fx_setB (by first | rfl | simp only [go_sem, Nat.reduceBEq, Nat.reduceLeDiff, Nat.reduceEqDiff, reduceCtorEq, reduceIte]) ?_)
      | (with_reducible refine fx_setN ?_)
      | (with_reducible refine fx_junkF ?_)
      | (with_reducible exact fx_init (by first | rfl | simp only [go_sem, Nat.reduceBEq, Nat.reduceLeDiff, Nat.reduceEqDiff, reduceCtorEq, reduceIte]))
      | (with_reducible exact fx_initB (by first | rfl | simp only [go_sem, Nat.reduceBEq, Nat.reduceLeDiff, Nat.reduceEqDiff, reduceCtorEq, reduceIte]) (by first | rfl | simp only [go_sem, Nat.reduceBEq, Nat.reduceLeDiff, Nat.reduceEqDiff, reduceCtorEq, reduceIte]) rfl (by decide) (by decide))
      | (with_reducible exact fx_base)
      | (with_reducible refine And.intro ?_ ?_))
    skip
  · (try dsimp only)
    first | omega | exact ⟨by omega, by omega⟩ | skip
  · intro t hk
    try dsimp only at hk
    have hs := sp_lt hp.2 t
    have g : ∀ i, nthN (sp b t ++ List.replicate (80 - t) 0) i < 4294967296 := fun i => nthN_all (p := fun x => x < 4294967296) (by
      intro x hx
      rcases List.mem_append.1 hx with h | h
      · exact hs x h
      · have := (List.mem_replicate.1 h).2
        omega) (by omega) i
    have gb : ∀ i, nthN b i < 256 := fun i => nthN_all hp.2 (by omega) i
    have w3 : IntKind.i64.wrap ((t : Int) - 3) = (t : Int) - 3 := IntWalk.i64_in _ (by omega)
    have w8 : IntKind.i64.wrap ((t : Int) - 8) = (t : Int) - 8 := IntWalk.i64_in _ (by omega)
    have w14 : IntKind.i64.wrap ((t : Int) - 14) = (t : Int) - 14 := IntWalk.i64_in _ (by omega)
    have w16 : IntKind.i64.wrap ((t : Int) - 16) = (t : Int) - 16 := IntWalk.i64_in _ (by omega)
    have n3 : ((t : Int) - 3).toNat = t - 3 := by omega
    have n8 : ((t : Int) - 8).toNat = t - 8 := by omega
    have n14 : ((t : Int) - 14).toNat = t - 14 := by omega
    have n16 : ((t : Int) - 16).toNat = t - 16 := by omega
    have q0 : IntKind.i64.wrap (4 * (t : Int)) = ((4 * t : Nat) : Int) := i64n (4 * t) (by omega)
    have q1 : IntKind.i64.wrap (((4 * t : Nat) : Int) + 1) = ((4 * t + 1 : Nat) : Int) := i64n (4 * t + 1) (by omega)
    have q2 : IntKind.i64.wrap (((4 * t : Nat) : Int) + 2) = ((4 * t + 2 : Nat) : Int) := i64n (4 * t + 2) (by omega)
    have q3 : IntKind.i64.wrap (((4 * t : Nat) : Int) + 3) = ((4 * t + 3 : Nat) : Int) := i64n (4 * t + 3) (by omega)
    have q9 : IntKind.i64.wrap ((t : Int) + 1) = ((t + 1 : Nat) : Int) := i64n (t + 1) (by omega)
    have gw : ∀ i, IntKind.u32.wrap ((nthN b i : Nat) : Int) = ((nthN b i : Nat) : Int) := fun i => by rw [wrap_u32, Nat.mod_eq_of_lt (by have := gb i; omega)]
    have s24 : ∀ i, wShl .u32 ((nthN b i : Nat) : Int) 24 = ((nthN b i * 16777216 : Nat) : Int) := fun i => by
      rw [show (24 : Int) = ((24 : Nat) : Int) from rfl, wShl_u rfl _ _ (by decide)]
      have := gb i
      exact congrArg _ (Nat.mod_eq_of_lt (show nthN b i * 2 ^ 24 < 2 ^ 32 by omega))
    have s16 : ∀ i, wShl .u32 ((nthN b i : Nat) : Int) 16 = ((nthN b i * 65536 : Nat) : Int) := fun i => by
      rw [show (16 : Int) = ((16 : Nat) : Int) from rfl, wShl_u rfl _ _ (by decide)]
      have := gb i
      exact congrArg _ (Nat.mod_eq_of_lt (show nthN b i * 2 ^ 16 < 2 ^ 32 by omega))
    have s8 : ∀ i, wShl .u32 ((nthN b i : Nat) : Int) 8 = ((nthN b i * 256 : Nat) : Int) := fun i => by
      rw [show (8 : Int) = ((8 : Nat) : Int) from rfl, wShl_u rfl _ _ (by decide)]
      have := gb i
      exact congrArg _ (Nat.mod_eq_of_lt (show nthN b i * 2 ^ 8 < 2 ^ 32 by omega))
    have sw := lit_or (nthN b (4 * t)) (nthN b (4 * t + 1)) (nthN b (4 * t + 2)) (nthN b (4 * t + 3)) (gb _) (gb _) (gb _) (gb _)
    have hx1 := wXor_u (k := .u32) rfl (g (t - 3)) (g (t - 8))
    have hr1 := xor_lt (w := 32) (g (t - 3)) (g (t - 8))
    have hx2 := wXor_u (k := .u32) rfl hr1 (g (t - 14))
    have hr2 := xor_lt (w := 32) hr1 (g (t - 14))
    have hx3 := wXor_u (k := .u32) rfl hr2 (g (t - 16))
    have hr := xor_lt (w := 32) hr2 (g (t - 16))
    have hrot : rotG [W (nthN (sp b t ++ List.replicate (80 - t) 0) (t - 3) ^^^ nthN (sp b t ++ List.replicate (80 - t) 0) (t - 8) ^^^ nthN (sp b t ++ List.replicate (80 - t) 0) (t - 14) ^^^ nthN (sp b t ++ List.replicate (80 - t) 0) (t - 16)), I 1] = some (W (rotN (nthN (sp b t ++ List.replicate (80 - t) 0) (t - 3) ^^^ nthN (sp b t ++ List.replicate (80 - t) 0) (t - 8) ^^^ nthN (sp b t ++ List.replicate (80 - t) 0) (t - 14) ^^^ nthN (sp b t ++ List.replicate (80 - t) 0) (t - 16)) 1)) := rotG_eq _ 1 ⟨hr, by decide⟩
    have hL := sp_len b t
    have g3 : 16 ≤ t → nthN (sp b t ++ List.replicate (80 - t) 0) (t - 3) = nthN (sp b t) (t - 3) := fun h => nthN_append_left (by omega)
    have g8 : 16 ≤ t → nthN (sp b t ++ List.replicate (80 - t) 0) (t - 8) = nthN (sp b t) (t - 8) := fun h => nthN_append_left (by omega)
    have g14 : 16 ≤ t → nthN (sp b t ++ List.replicate (80 - t) 0) (t - 14) = nthN (sp b t) (t - 14) := fun h => nthN_append_left (by omega)
    have g16 : 16 ≤ t → nthN (sp b t ++ List.replicate (80 - t) 0) (t - 16) = nthN (sp b t) (t - 16) := fun h => nthN_append_left (by omega)
    try dsimp only
    simp only [Int.natCast_nonneg, sp_len, w3, w8, w14, w16, n3, n8, n14, n16, q0, q1, q2, q3, q9, gw, s24, s16, s8, hx1, hx2, hx3, sw, hrot, go_sem, Nat.reduceAdd, Nat.reduceLT, Nat.reduceBEq, Nat.reduceEqDiff, reduceIte, reduceCtorEq, Nat.reduceLeDiff, Int.reduceEq, Int.reduceLT, Int.reduceLE, Int.reduceSub, Int.reduceAdd, Int.reduceMul, Int.reduceNeg, Int.reduceToNat, Nat.reduceMul, Nat.reduceSub, Nat.reduceDiv, Int.reduceMod, Int.reduceDiv, Int.reduceTDiv, Int.reduceTMod]
    repeat' (first
      | ((with_reducible refine split_guard ?_ ?_) <;> intro hb <;> simp only [hb, Int.natCast_nonneg, sp_len, w3, w8, w14, w16, n3, n8, n14, n16, q0, q1, q2, q3, q9, gw, s24, s16, s8, hx1, hx2, hx3, sw, hrot, go_sem, Nat.reduceAdd, Nat.reduceLT, Nat.reduceBEq, Nat.reduceEqDiff, reduceIte, reduceCtorEq, Nat.reduceLeDiff, Int.reduceEq, Int.reduceLT, Int.reduceLE, Int.reduceSub, Int.reduceAdd, Int.reduceMul, Int.reduceNeg, Int.reduceToNat, Nat.reduceMul, Nat.reduceSub, Nat.reduceDiv, Int.reduceMod, Int.reduceDiv, Int.reduceTDiv, Int.reduceTMod])
      | ((with_reducible refine split_cond ?_ ?_) <;> intro hb <;> simp only [hb, Int.natCast_nonneg, sp_len, w3, w8, w14, w16, n3, n8, n14, n16, q0, q1, q2, q3, q9, gw, s24, s16, s8, hx1, hx2, hx3, sw, hrot, go_sem, Nat.reduceAdd, Nat.reduceLT, Nat.reduceBEq, Nat.reduceEqDiff, reduceIte, reduceCtorEq, Nat.reduceLeDiff, Int.reduceEq, Int.reduceLT, Int.reduceLE, Int.reduceSub, Int.reduceAdd, Int.reduceMul, Int.reduceNeg, Int.reduceToNat, Nat.reduceMul, Nat.reduceSub, Nat.reduceDiv, Int.reduceMod, Int.reduceDiv, Int.reduceTDiv, Int.reduceTMod])
      | ((with_reducible refine split_guardY ?_ ?_) <;> intro hb <;> simp only [hb, Int.natCast_nonneg, sp_len, w3, w8, w14, w16, n3, n8, n14, n16, q0, q1, q2, q3, q9, gw, s24, s16, s8, hx1, hx2, hx3, sw, hrot, go_sem, Nat.reduceAdd, Nat.reduceLT, Nat.reduceBEq, Nat.reduceEqDiff, reduceIte, reduceCtorEq, Nat.reduceLeDiff, Int.reduceEq, Int.reduceLT, Int.reduceLE, Int.reduceSub, Int.reduceAdd, Int.reduceMul, Int.reduceNeg, Int.reduceToNat, Nat.reduceMul, Nat.reduceSub, Nat.reduceDiv, Int.reduceMod, Int.reduceDiv, Int.reduceTDiv, Int.reduceTMod])
      | ((with_reducible refine and_orderN (by kernel_rfl) ?_ ?_) <;> (try simp only [Int.natCast_nonneg, sp_len, w3, w8, w14, w16, n3, n8, n14, n16, q0, q1, q2, q3, q9, gw, s24, s16, s8, hx1, hx2, hx3, sw, hrot, go_sem, Nat.reduceAdd, Nat.reduceLT, Nat.reduceBEq, Nat.reduceEqDiff, reduceIte, reduceCtorEq, Nat.reduceLeDiff, Int.reduceEq, Int.reduceLT, Int.reduceLE, Int.reduceSub, Int.reduceAdd, Int.reduceMul, Int.reduceNeg, Int.reduceToNat, Nat.reduceMul, Nat.reduceSub, Nat.reduceDiv, Int.reduceMod, Int.reduceDiv, Int.reduceTDiv, Int.reduceTMod]))
      | ((with_reducible refine (and_orderN (A := True) (by kernel_rfl) ?_ trivial).1) <;> (try simp only [Int.natCast_nonneg, sp_len, w3, w8, w14, w16, n3, n8, n14, n16, q0, q1, q2, q3, q9, gw, s24, s16, s8, hx1, hx2, hx3, sw, hrot, go_sem, Nat.reduceAdd, Nat.reduceLT, Nat.reduceBEq, Nat.reduceEqDiff, reduceIte, reduceCtorEq, Nat.reduceLeDiff, Int.reduceEq, Int.reduceLT, Int.reduceLE, Int.reduceSub, Int.reduceAdd, Int.reduceMul, Int.reduceNeg, Int.reduceToNat, Nat.reduceMul, Nat.reduceSub, Nat.reduceDiv, Int.reduceMod, Int.reduceDiv, Int.reduceTDiv, Int.reduceTMod]))
      | (with_reducible exact (show bitOf _ _ _ = true by decide +kernel))
      | (with_reducible refine and_nomen ?_ ?_)
      | (with_reducible refine nomen_p (by first | rfl | simp only [go_sem, Nat.reduceBEq, Nat.reduceLeDiff, Nat.reduceEqDiff, reduceCtorEq, reduceIte]) ?_)
      | (with_reducible refine nomen_s (by first | rfl | simp only [go_sem, Nat.reduceBEq, Nat.reduceLeDiff, Nat.reduceEqDiff, reduceCtorEq, reduceIte]) ?_)
      | (with_reducible refine nomen_setB0 _ _ _ ?_)
      | (with_reducible refine nomen_p0 (by first | rfl | simp only [go_sem, Nat.reduceBEq, Nat.reduceLeDiff, Nat.reduceEqDiff, reduceCtorEq, reduceIte]) ?_)
      | (with_reducible refine nomen_j ?_)
      | (with_reducible exact nomen_i (by first | rfl | simp only [go_sem, Nat.reduceBEq, Nat.reduceLeDiff, Nat.reduceEqDiff, reduceCtorEq, reduceIte]))
      | (with_reducible exact nomen_iB (by first | rfl | simp only [go_sem, Nat.reduceBEq, Nat.reduceLeDiff, Nat.reduceEqDiff, reduceCtorEq, reduceIte]) (by first | rfl | simp only [go_sem, Nat.reduceBEq, Nat.reduceLeDiff, Nat.reduceEqDiff, reduceCtorEq, reduceIte]) (by decide))
      | (with_reducible exact nomen_b)
      | (with_reducible refine leX_nil (by simp only [go_sem, Nat.reduceBEq, Nat.reduceLeDiff, Nat.reduceEqDiff, reduceCtorEq, reduceIte]) ?_)
      | ((with_reducible refine leX_put ?_ ?_) <;> (try simp only [Int.natCast_nonneg, sp_len, w3, w8, w14, w16, n3, n8, n14, n16, q0, q1, q2, q3, q9, gw, s24, s16, s8, hx1, hx2, hx3, sw, hrot, go_sem, Nat.reduceAdd, Nat.reduceLT, Nat.reduceBEq, Nat.reduceEqDiff, reduceIte, reduceCtorEq, Nat.reduceLeDiff, Int.reduceEq, Int.reduceLT, Int.reduceLE, Int.reduceSub, Int.reduceAdd, Int.reduceMul, Int.reduceNeg, Int.reduceToNat, Nat.reduceMul, Nat.reduceSub, Nat.reduceDiv, Int.reduceMod, Int.reduceDiv, Int.reduceTDiv, Int.reduceTMod]))
      | (with_reducible refine leX_boxnil ?_)
      | ((with_reducible refine leX_box ?_ ?_) <;> (try simp only [Int.natCast_nonneg, sp_len, w3, w8, w14, w16, n3, n8, n14, n16, q0, q1, q2, q3, q9, gw, s24, s16, s8, hx1, hx2, hx3, sw, hrot, go_sem, Nat.reduceAdd, Nat.reduceLT, Nat.reduceBEq, Nat.reduceEqDiff, reduceIte, reduceCtorEq, Nat.reduceLeDiff, Int.reduceEq, Int.reduceLT, Int.reduceLE, Int.reduceSub, Int.reduceAdd, Int.reduceMul, Int.reduceNeg, Int.reduceToNat, Nat.reduceMul, Nat.reduceSub, Nat.reduceDiv, Int.reduceMod, Int.reduceDiv, Int.reduceTDiv, Int.reduceTMod]))
      | (with_reducible refine leX_boxnone ?_)
      | (with_reducible exact leX_base rfl)
      | (with_reducible refine leX_junkF ?_)
      | (with_reducible exact kp_refl)
      | (with_reducible refine kp_fx rfl (by first | exact Or.inl rfl | (refine Or.inr ?_; simp only [go_sem, Nat.reduceBEq, Nat.reduceLeDiff, Nat.reduceEqDiff, reduceCtorEq, reduceIte])) ?_)
      | (with_reducible refine kp_put rfl ?_)
      | (with_reducible refine kp_setB (by first | exact Or.inl rfl | (refine Or.inr ?_; simp only [go_sem, Nat.reduceBEq, Nat.reduceLeDiff, Nat.reduceEqDiff, reduceCtorEq, reduceIte])) ?_)
      | (with_reducible refine kp_junkF (by decide) ?_)
      | (with_reducible refine fx_put (by first | rfl | simp only [go_sem, Nat.reduceBEq, Nat.reduceLeDiff, Nat.reduceEqDiff, reduceCtorEq, reduceIte]) ?_)
      | (with_reducible refine fx_setB (by first | rfl | simp only [go_sem, Nat.reduceBEq, Nat.reduceLeDiff, Nat.reduceEqDiff, reduceCtorEq, reduceIte]) ?_)
      | (with_reducible refine fx_setN ?_)
      | (with_reducible refine fx_junkF ?_)
      | (with_reducible exact fx_init (by first | rfl | simp only [go_sem, Nat.reduceBEq, Nat.reduceLeDiff, Nat.reduceEqDiff, reduceCtorEq, reduceIte]))
      | (with_reducible exact fx_initB (by first | rfl | simp only [go_sem, Nat.reduceBEq, Nat.reduceLeDiff, Nat.reduceEqDiff, reduceCtorEq, reduceIte]) (by first | rfl | simp only [go_sem, Nat.reduceBEq, Nat.reduceLeDiff, Nat.reduceEqDiff, reduceCtorEq, reduceIte]) rfl (by decide) (by decide))
      | (with_reducible exact fx_base)
      | ((with_reducible refine again_of (t + 1) (le_sw [] rfl rfl ?_) ?_ ?_) <;> (try dsimp only) <;> (try simp only [go_sem, Nat.reduceAdd, Nat.reduceLT, Nat.reduceBEq, Nat.reduceEqDiff, reduceIte, reduceCtorEq, Nat.reduceLeDiff, Int.reduceEq, Int.reduceLT, Int.reduceLE, Int.reduceSub, Int.reduceAdd, Int.reduceMul, Int.reduceNeg, Int.reduceToNat, Nat.reduceMul, Nat.reduceSub, Nat.reduceDiv, Int.reduceMod, Int.reduceDiv, Int.reduceTDiv, Int.reduceTMod]))
      | (with_reducible refine And.intro ?_ ?_))
    all_goals (try simp only [Bool.not_eq_true', Bool.not_eq_false', Bool.and_eq_true, Bool.and_eq_false_iff, decide_eq_true_eq, decide_eq_false_iff_not, Bool.or_eq_true, Bool.or_eq_false_iff, Bool.not_true, Bool.not_false, Bool.false_eq_true, false_iff, true_iff, bne_iff_ne, beq_iff_eq, ne_eq, iff_true, iff_false, not_and, not_or, List.length_append, List.length_drop, List.length_take, List.length_replicate, List.length_range] at *)
    all_goals (try omega)
    · have h16 : t < 16 := by omega
      have e : sp b (t + 1) = sp b t ++ [wordN b (4 * t)] := by rw [sp, if_pos h16]
      rw [set_next _ t 80 _ hL (by omega), e]; rfl
    · have h16 : 16 ≤ t := by omega
      have e : sp b (t + 1) = sp b t ++ [rotN (nthN (sp b t) (t - 3) ^^^ nthN (sp b t) (t - 8) ^^^ nthN (sp b t) (t - 14) ^^^ nthN (sp b t) (t - 16)) 1] := by rw [sp, if_neg (by omega)]
      rw [set_next _ t 80 _ hL (by omega), e, g3 h16, g8 h16, g14 h16, g16 h16]
    · have e80 : w80 b = sp b t := by
        rw [w80_eq]
        congr 1; omega
      rw [e80]
      have e : List.take 80 (sp b t ++ List.replicate (80 - t) 0) = sp b t := by
        have : 80 - t = 0 := by omega
        rw [this, List.replicate_zero, List.append_nil]; exact List.take_of_length_le (by omega)
      have hl : (castL (sp b t)).length = 80 := by simp [castL, hL]; omega
      rw [e, layL_full (by simp [hl]), List.take_of_length_le (by omega)]
noncomputable def spreadG : List AV → Option AV := ofRel fun args r => ∃ (b : List Nat), args = [BL b] ∧ (b.length = 64 ∧ ∀ x ∈ b, x < 256) ∧ r = WA (w80 b)
@[go_sem] theorem spreadG_eq (b : List Nat) (hp : b.length = 64 ∧ ∀ x ∈ b, x < 256) : spreadG [BL b] = some (WA (w80 b)) :=
  ofRel_eq ⟨b, rfl, hp, rfl⟩ (by rintro _ ⟨b', e, _, rfl⟩; simp [IL_injEq, castL_inj, Int.ofNat_inj] at e; first | (obtain ⟨rfl⟩ := e; rfl) | (obtain ⟨rfl⟩ := e; exact ⟨rfl, rfl⟩) | (simp [e]) | (simp_all))
theorem spread_good : Good cfg 25 spreadG := fun args r h => by
  obtain ⟨_, rfl, hp, rfl⟩ := ofRel_some h; exact ⟨spread_ok _ hp, rfl⟩

end Go.Proofs.Ytnhdfmnmciminaa.Sh
