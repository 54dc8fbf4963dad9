/-
  The contracts of the functions of layer 5 (greg), of its reference, and of its laws.
-/
import Derived.Test.YtnhdfmnmciminaaDoorTy
namespace Go.Proofs.YtnhdfmnmciminaaDoor
open Go Go.Ev
set_option linter.unusedSimpArgs false
set_option linter.unusedVariables false
set_option maxRecDepth 10000
set_option maxHeartbeats 4000000
@[go_sem] abbrev I (n : Int) : AV := .c (.lit (.int .i64 n))
@[go_sem] abbrev B (b : Bool) : AV := .c (.lit (.bool b))
@[go_sem] abbrev D (y m d : Int) : AV := .agg [.lit (.int .i64 y), .lit (.int .i64 m), .lit (.int .i64 d)]
theorem leafB {a b : Bool} (h : a = true ↔ b = true) : AV.c (.lit (.bool a)) = .c (.lit (.bool b)) := by rw [Bool.eq_iff_iff.2 h]
theorem leafI {k : IntKind} {a b : Int} (h : a = b) : AV.c (.lit (.int k a)) = .c (.lit (.int k b)) := by rw [h]
theorem tmod_z (y k : Int) : y.tmod k = 0 ↔ y % k = 0 := by rw [← Int.dvd_iff_tmod_eq_zero, ← Int.dvd_iff_emod_eq_zero]
/-- Has a year a day more? -/
def longY (y : Int) : Bool := decide (y % 400 = 0 ∨ y % 4 = 0 ∧ ¬ y % 100 = 0)
/-- A month's days. -/
def lenM (y m : Int) : Int := if m < 1 ∨ 12 < m then 0 else if m = 2 then (if longY y = true then 29 else 28) else if m = 4 ∨ m = 6 ∨ m = 9 ∨ m = 11 then 30 else 31
def dateOk (y m d : Int) : Bool := decide (1 ≤ d ∧ d ≤ lenM y m)
def inR (n : Int) : Bool := decide (-1099511627776 ≤ n ∧ n ≤ 1099511627776)

theorem leap_ok (y : Int) : FnOk cfg 9 [I y] (B (longY y)) := by
  refine fnOk_eval [] good_nil mixed Tryd.func9 rfl rfl Tryd.ntmps9 (congrArg Array.toList Tryd.results9) (by simp) (by rfl) (by rfl) ?_
  simp only [go_sem, Nat.reduceAdd, Nat.reduceLT, Nat.reduceBEq, Nat.reduceEqDiff, reduceIte, reduceCtorEq, Nat.reduceLeDiff, Int.reduceEq, Int.reduceLT, Int.reduceLE, decide_true, decide_false, Int.reduceSub, Int.reduceAdd, Int.reduceMul, Int.reduceNeg, Int.reduceToNat, Nat.reduceMul, Nat.reduceSub, Int.cast_ofNat_Int, Int.reduceMod, Int.reduceDiv, Int.reduceTDiv, Int.reduceTMod]
  repeat' (first
    | ((with_reducible refine split_guard ?_ ?_) <;> intro hb <;> simp only [hb, go_sem, Nat.reduceAdd, Nat.reduceLT, Nat.reduceBEq, Nat.reduceEqDiff, reduceIte, reduceCtorEq, Nat.reduceLeDiff, Int.reduceEq, Int.reduceLT, Int.reduceLE, decide_true, decide_false, Int.reduceSub, Int.reduceAdd, Int.reduceMul, Int.reduceNeg, Int.reduceToNat, Nat.reduceMul, Nat.reduceSub, Int.cast_ofNat_Int, Int.reduceMod, Int.reduceDiv, Int.reduceTDiv, Int.reduceTMod])
    | ((with_reducible refine split_cond ?_ ?_) <;> intro hb <;> simp only [hb, go_sem, Nat.reduceAdd, Nat.reduceLT, Nat.reduceBEq, Nat.reduceEqDiff, reduceIte, reduceCtorEq, Nat.reduceLeDiff, Int.reduceEq, Int.reduceLT, Int.reduceLE, decide_true, decide_false, Int.reduceSub, Int.reduceAdd, Int.reduceMul, Int.reduceNeg, Int.reduceToNat, Nat.reduceMul, Nat.reduceSub, Int.cast_ofNat_Int, Int.reduceMod, Int.reduceDiv, Int.reduceTDiv, Int.reduceTMod])
    | ((with_reducible refine split_guardY ?_ ?_) <;> intro hb <;> simp only [hb, go_sem, Nat.reduceAdd, Nat.reduceLT, Nat.reduceBEq, Nat.reduceEqDiff, reduceIte, reduceCtorEq, Nat.reduceLeDiff, Int.reduceEq, Int.reduceLT, Int.reduceLE, decide_true, decide_false, Int.reduceSub, Int.reduceAdd, Int.reduceMul, Int.reduceNeg, Int.reduceToNat, Nat.reduceMul, Nat.reduceSub, Int.cast_ofNat_Int, Int.reduceMod, Int.reduceDiv, Int.reduceTDiv, Int.reduceTMod])
    | (with_reducible refine and_order (by kernel_rfl) (by kernel_rfl) ?_)
    | (with_reducible exact orderOk_of (by kernel_rfl) (by kernel_rfl))
    | (with_reducible refine and_nomen ?_ ?_)
    | (with_reducible refine nomen_p (by kernel_rfl) ?_)
    | (with_reducible refine nomen_s (by kernel_rfl) ?_)
    | (with_reducible refine nomen_p0 (by kernel_rfl) ?_)
    | (with_reducible exact nomen_i (by kernel_rfl))
    | (with_reducible refine And.intro (by first | assumption | omega | (simp only [Bool.not_eq_true', Bool.not_eq_false', Bool.and_eq_true, Bool.and_eq_false_iff, decide_eq_true_eq, decide_eq_false_iff_not, Bool.or_eq_true, Bool.or_eq_false_iff, Bool.not_true, Bool.not_false, Bool.false_eq_true, false_iff, true_iff, bne_iff_ne, beq_iff_eq, ne_eq, iff_true, iff_false, not_and, not_or] at *; omega)) ?_)
    | ((with_reducible refine le_put ?_ ?_) <;> (try simp only [go_sem, Nat.reduceAdd, Nat.reduceLT, Nat.reduceBEq, Nat.reduceEqDiff, reduceIte, reduceCtorEq, Nat.reduceLeDiff, Int.reduceEq, Int.reduceLT, Int.reduceLE, decide_true, decide_false, Int.reduceSub, Int.reduceAdd, Int.reduceMul, Int.reduceNeg, Int.reduceToNat, Nat.reduceMul, Nat.reduceSub, Int.cast_ofNat_Int, Int.reduceMod, Int.reduceDiv, Int.reduceTDiv, Int.reduceTMod]))
    | ((with_reducible refine le_box ?_ ?_) <;> (try simp only [go_sem, Nat.reduceAdd, Nat.reduceLT, Nat.reduceBEq, Nat.reduceEqDiff, reduceIte, reduceCtorEq, Nat.reduceLeDiff, Int.reduceEq, Int.reduceLT, Int.reduceLE, decide_true, decide_false, Int.reduceSub, Int.reduceAdd, Int.reduceMul, Int.reduceNeg, Int.reduceToNat, Nat.reduceMul, Nat.reduceSub, Int.cast_ofNat_Int, Int.reduceMod, Int.reduceDiv, Int.reduceTDiv, Int.reduceTMod]))
    | (with_reducible exact le_base rfl)
    | (with_reducible exact nomen_b))
  all_goals refine leafB ?_
  all_goals simp only [longY, inR, tmod_z, Bool.not_eq_true', Bool.not_eq_false', Bool.and_eq_true, Bool.and_eq_false_iff, decide_eq_true_eq, decide_eq_false_iff_not, Bool.or_eq_true, Bool.or_eq_false_iff, Bool.not_true, Bool.not_false, Bool.false_eq_true, false_iff, true_iff, bne_iff_ne, beq_iff_eq, ne_eq, iff_true, iff_false, not_and, not_or] at *
  all_goals omega
noncomputable def leapG : List AV → Option AV := ofRel fun args r => ∃ (y : Int), args = [I y] ∧ r = B (longY y)
@[go_sem] theorem leapG_eq (y : Int) : leapG [I y] = some (B (longY y)) :=
  ofRel_eq ⟨y, rfl, rfl⟩ (by rintro _ ⟨y', e, rfl⟩; simp at e; first | (obtain ⟨rfl⟩ := e; rfl) | (simp [e]))
theorem leap_good : Good cfg 9 leapG := fun args r h => by
  obtain ⟨_, rfl, rfl⟩ := ofRel_some h; exact ⟨leap_ok _, rfl⟩

theorem long_ok (y : Int) : FnOk cfg 10 [I y] (B (longY y)) := by
  refine fnOk_eval [] good_nil mixed Tryd.func10 rfl rfl Tryd.ntmps10 (congrArg Array.toList Tryd.results10) (by simp) (by rfl) (by rfl) ?_
  simp only [go_sem, Nat.reduceAdd, Nat.reduceLT, Nat.reduceBEq, Nat.reduceEqDiff, reduceIte, reduceCtorEq, Nat.reduceLeDiff, Int.reduceEq, Int.reduceLT, Int.reduceLE, decide_true, decide_false, Int.reduceSub, Int.reduceAdd, Int.reduceMul, Int.reduceNeg, Int.reduceToNat, Nat.reduceMul, Nat.reduceSub, Int.cast_ofNat_Int, Int.reduceMod, Int.reduceDiv, Int.reduceTDiv, Int.reduceTMod]
  repeat' (first
    | ((with_reducible refine split_guard ?_ ?_) <;> intro hb <;> simp only [hb, go_sem, Nat.reduceAdd, Nat.reduceLT, Nat.reduceBEq, Nat.reduceEqDiff, reduceIte, reduceCtorEq, Nat.reduceLeDiff, Int.reduceEq, Int.reduceLT, Int.reduceLE, decide_true, decide_false, Int.reduceSub, Int.reduceAdd, Int.reduceMul, Int.reduceNeg, Int.reduceToNat, Nat.reduceMul, Nat.reduceSub, Int.cast_ofNat_Int, Int.reduceMod, Int.reduceDiv, Int.reduceTDiv, Int.reduceTMod])
    | ((with_reducible refine split_cond ?_ ?_) <;> intro hb <;> simp only [hb, go_sem, Nat.reduceAdd, Nat.reduceLT, Nat.reduceBEq, Nat.reduceEqDiff, reduceIte, reduceCtorEq, Nat.reduceLeDiff, Int.reduceEq, Int.reduceLT, Int.reduceLE, decide_true, decide_false, Int.reduceSub, Int.reduceAdd, Int.reduceMul, Int.reduceNeg, Int.reduceToNat, Nat.reduceMul, Nat.reduceSub, Int.cast_ofNat_Int, Int.reduceMod, Int.reduceDiv, Int.reduceTDiv, Int.reduceTMod])
    | ((with_reducible refine split_guardY ?_ ?_) <;> intro hb <;> simp only [hb, go_sem, Nat.reduceAdd, Nat.reduceLT, Nat.reduceBEq, Nat.reduceEqDiff, reduceIte, reduceCtorEq, Nat.reduceLeDiff, Int.reduceEq, Int.reduceLT, Int.reduceLE, decide_true, decide_false, Int.reduceSub, Int.reduceAdd, Int.reduceMul, Int.reduceNeg, Int.reduceToNat, Nat.reduceMul, Nat.reduceSub, Int.cast_ofNat_Int, Int.reduceMod, Int.reduceDiv, Int.reduceTDiv, Int.reduceTMod])
    | (with_reducible refine and_order (by kernel_rfl) (by kernel_rfl) ?_)
    | (with_reducible exact orderOk_of (by kernel_rfl) (by kernel_rfl))
    | (with_reducible refine and_nomen ?_ ?_)
    | (with_reducible refine nomen_p (by kernel_rfl) ?_)
    | (with_reducible refine nomen_s (by kernel_rfl) ?_)
    | (with_reducible refine nomen_p0 (by kernel_rfl) ?_)
    | (with_reducible exact nomen_i (by kernel_rfl))
    | (with_reducible refine And.intro (by first | assumption | omega | (simp only [Bool.not_eq_true', Bool.not_eq_false', Bool.and_eq_true, Bool.and_eq_false_iff, decide_eq_true_eq, decide_eq_false_iff_not, Bool.or_eq_true, Bool.or_eq_false_iff, Bool.not_true, Bool.not_false, Bool.false_eq_true, false_iff, true_iff, bne_iff_ne, beq_iff_eq, ne_eq, iff_true, iff_false, not_and, not_or] at *; omega)) ?_)
    | ((with_reducible refine le_put ?_ ?_) <;> (try simp only [go_sem, Nat.reduceAdd, Nat.reduceLT, Nat.reduceBEq, Nat.reduceEqDiff, reduceIte, reduceCtorEq, Nat.reduceLeDiff, Int.reduceEq, Int.reduceLT, Int.reduceLE, decide_true, decide_false, Int.reduceSub, Int.reduceAdd, Int.reduceMul, Int.reduceNeg, Int.reduceToNat, Nat.reduceMul, Nat.reduceSub, Int.cast_ofNat_Int, Int.reduceMod, Int.reduceDiv, Int.reduceTDiv, Int.reduceTMod]))
    | ((with_reducible refine le_box ?_ ?_) <;> (try simp only [go_sem, Nat.reduceAdd, Nat.reduceLT, Nat.reduceBEq, Nat.reduceEqDiff, reduceIte, reduceCtorEq, Nat.reduceLeDiff, Int.reduceEq, Int.reduceLT, Int.reduceLE, decide_true, decide_false, Int.reduceSub, Int.reduceAdd, Int.reduceMul, Int.reduceNeg, Int.reduceToNat, Nat.reduceMul, Nat.reduceSub, Int.cast_ofNat_Int, Int.reduceMod, Int.reduceDiv, Int.reduceTDiv, Int.reduceTMod]))
    | (with_reducible exact le_base rfl)
    | (with_reducible exact nomen_b))
  all_goals refine leafB ?_
  all_goals simp only [longY, inR, tmod_z, Bool.not_eq_true', Bool.not_eq_false', Bool.and_eq_true, Bool.and_eq_false_iff, decide_eq_true_eq, decide_eq_false_iff_not, Bool.or_eq_true, Bool.or_eq_false_iff, Bool.not_true, Bool.not_false, Bool.false_eq_true, false_iff, true_iff, bne_iff_ne, beq_iff_eq, ne_eq, iff_true, iff_false, not_and, not_or] at *
  all_goals omega
noncomputable def longG : List AV → Option AV := ofRel fun args r => ∃ (y : Int), args = [I y] ∧ r = B (longY y)
@[go_sem] theorem longG_eq (y : Int) : longG [I y] = some (B (longY y)) :=
  ofRel_eq ⟨y, rfl, rfl⟩ (by rintro _ ⟨y', e, rfl⟩; simp at e; first | (obtain ⟨rfl⟩ := e; rfl) | (simp [e]))
theorem long_good : Good cfg 10 longG := fun args r h => by
  obtain ⟨_, rfl, rfl⟩ := ofRel_some h; exact ⟨long_ok _, rfl⟩

theorem wrap_s (n : Int) (h : 0 ≤ n ∧ n ≤ 11) : IntKind.i64.wrap n = n := IntWalk.i64_in n (by omega)
theorem glen_ok (y : Int) (m : Int) : FnOk cfg 11 [I y, I m] (I (lenM y m)) := by
  have hm : m < 1 ∨ 12 < m ∨ m = 1 ∨ m = 2 ∨ m = 3 ∨ m = 4 ∨ m = 5 ∨ m = 6 ∨ m = 7 ∨ m = 8 ∨ m = 9 ∨ m = 10 ∨ m = 11 ∨ m = 12 := by omega
  refine fnOk_eval [(9, leapG)] (good_cons leap_good good_nil) mixed Tryd.func11 rfl rfl Tryd.ntmps11 (congrArg Array.toList Tryd.results11) (by simp) (by rfl) (by rfl) ?_
  rcases hm with h | h | rfl | rfl | rfl | rfl | rfl | rfl | rfl | rfl | rfl | rfl | rfl | rfl
  · have h1 : decide (m < 1) = true := by simpa using h
    have h2 : lenM y m = 0 := by simp [lenM, h]
    simp only [h1, h2, go_sem, Nat.reduceAdd, Nat.reduceLT, Nat.reduceBEq, Nat.reduceEqDiff, reduceIte, reduceCtorEq, Nat.reduceLeDiff, Int.reduceEq, Int.reduceLT, Int.reduceLE, decide_true, decide_false, Int.reduceSub, Int.reduceAdd, Int.reduceMul, Int.reduceNeg, Int.reduceToNat, Nat.reduceMul, Nat.reduceSub, Int.cast_ofNat_Int, Int.reduceMod, Int.reduceDiv, Int.reduceTDiv, Int.reduceTMod]
    repeat' (first
      | ((with_reducible refine split_guard ?_ ?_) <;> intro hb <;> simp only [hb, go_sem, Nat.reduceAdd, Nat.reduceLT, Nat.reduceBEq, Nat.reduceEqDiff, reduceIte, reduceCtorEq, Nat.reduceLeDiff, Int.reduceEq, Int.reduceLT, Int.reduceLE, decide_true, decide_false, Int.reduceSub, Int.reduceAdd, Int.reduceMul, Int.reduceNeg, Int.reduceToNat, Nat.reduceMul, Nat.reduceSub, Int.cast_ofNat_Int, Int.reduceMod, Int.reduceDiv, Int.reduceTDiv, Int.reduceTMod])
      | ((with_reducible refine split_cond ?_ ?_) <;> intro hb <;> simp only [hb, go_sem, Nat.reduceAdd, Nat.reduceLT, Nat.reduceBEq, Nat.reduceEqDiff, reduceIte, reduceCtorEq, Nat.reduceLeDiff, Int.reduceEq, Int.reduceLT, Int.reduceLE, decide_true, decide_false, Int.reduceSub, Int.reduceAdd, Int.reduceMul, Int.reduceNeg, Int.reduceToNat, Nat.reduceMul, Nat.reduceSub, Int.cast_ofNat_Int, Int.reduceMod, Int.reduceDiv, Int.reduceTDiv, Int.reduceTMod])
      | ((with_reducible refine split_guardY ?_ ?_) <;> intro hb <;> simp only [hb, go_sem, Nat.reduceAdd, Nat.reduceLT, Nat.reduceBEq, Nat.reduceEqDiff, reduceIte, reduceCtorEq, Nat.reduceLeDiff, Int.reduceEq, Int.reduceLT, Int.reduceLE, decide_true, decide_false, Int.reduceSub, Int.reduceAdd, Int.reduceMul, Int.reduceNeg, Int.reduceToNat, Nat.reduceMul, Nat.reduceSub, Int.cast_ofNat_Int, Int.reduceMod, Int.reduceDiv, Int.reduceTDiv, Int.reduceTMod])
      | (with_reducible refine and_order (by kernel_rfl) (by kernel_rfl) ?_)
      | (with_reducible exact orderOk_of (by kernel_rfl) (by kernel_rfl))
      | (with_reducible refine and_nomen ?_ ?_)
      | (with_reducible refine nomen_p (by kernel_rfl) ?_)
      | (with_reducible refine nomen_s (by kernel_rfl) ?_)
      | (with_reducible refine nomen_p0 (by kernel_rfl) ?_)
      | (with_reducible exact nomen_i (by kernel_rfl))
      | (with_reducible refine And.intro (by first | assumption | omega | (simp only [Bool.not_eq_true', Bool.not_eq_false', Bool.and_eq_true, Bool.and_eq_false_iff, decide_eq_true_eq, decide_eq_false_iff_not, Bool.or_eq_true, Bool.or_eq_false_iff, Bool.not_true, Bool.not_false, Bool.false_eq_true, false_iff, true_iff, bne_iff_ne, beq_iff_eq, ne_eq, iff_true, iff_false, not_and, not_or] at *; omega)) ?_)
      | ((with_reducible refine le_put ?_ ?_) <;> (try simp only [go_sem, Nat.reduceAdd, Nat.reduceLT, Nat.reduceBEq, Nat.reduceEqDiff, reduceIte, reduceCtorEq, Nat.reduceLeDiff, Int.reduceEq, Int.reduceLT, Int.reduceLE, decide_true, decide_false, Int.reduceSub, Int.reduceAdd, Int.reduceMul, Int.reduceNeg, Int.reduceToNat, Nat.reduceMul, Nat.reduceSub, Int.cast_ofNat_Int, Int.reduceMod, Int.reduceDiv, Int.reduceTDiv, Int.reduceTMod]))
      | ((with_reducible refine le_box ?_ ?_) <;> (try simp only [go_sem, Nat.reduceAdd, Nat.reduceLT, Nat.reduceBEq, Nat.reduceEqDiff, reduceIte, reduceCtorEq, Nat.reduceLeDiff, Int.reduceEq, Int.reduceLT, Int.reduceLE, decide_true, decide_false, Int.reduceSub, Int.reduceAdd, Int.reduceMul, Int.reduceNeg, Int.reduceToNat, Nat.reduceMul, Nat.reduceSub, Int.cast_ofNat_Int, Int.reduceMod, Int.reduceDiv, Int.reduceTDiv, Int.reduceTMod]))
      | (with_reducible exact le_base rfl)
      | (with_reducible exact nomen_b))
  · have h1 : decide (m < 1) = false := by simp; omega
    have h3 : decide (12 < m) = true := by simpa using h
    have h2 : lenM y m = 0 := by simp [lenM, h]
    simp only [h1, h2, h3, go_sem, Nat.reduceAdd, Nat.reduceLT, Nat.reduceBEq, Nat.reduceEqDiff, reduceIte, reduceCtorEq, Nat.reduceLeDiff, Int.reduceEq, Int.reduceLT, Int.reduceLE, decide_true, decide_false, Int.reduceSub, Int.reduceAdd, Int.reduceMul, Int.reduceNeg, Int.reduceToNat, Nat.reduceMul, Nat.reduceSub, Int.cast_ofNat_Int, Int.reduceMod, Int.reduceDiv, Int.reduceTDiv, Int.reduceTMod]
    repeat' (first
      | ((with_reducible refine split_guard ?_ ?_) <;> intro hb <;> simp only [hb, go_sem, Nat.reduceAdd, Nat.reduceLT, Nat.reduceBEq, Nat.reduceEqDiff, reduceIte, reduceCtorEq, Nat.reduceLeDiff, Int.reduceEq, Int.reduceLT, Int.reduceLE, decide_true, decide_false, Int.reduceSub, Int.reduceAdd, Int.reduceMul, Int.reduceNeg, Int.reduceToNat, Nat.reduceMul, Nat.reduceSub, Int.cast_ofNat_Int, Int.reduceMod, Int.reduceDiv, Int.reduceTDiv, Int.reduceTMod])
      | ((with_reducible refine split_cond ?_ ?_) <;> intro hb <;> simp only [hb, go_sem, Nat.reduceAdd, Nat.reduceLT, Nat.reduceBEq, Nat.reduceEqDiff, reduceIte, reduceCtorEq, Nat.reduceLeDiff, Int.reduceEq, Int.reduceLT, Int.reduceLE, decide_true, decide_false, Int.reduceSub, Int.reduceAdd, Int.reduceMul, Int.reduceNeg, Int.reduceToNat, Nat.reduceMul, Nat.reduceSub, Int.cast_ofNat_Int, Int.reduceMod, Int.reduceDiv, Int.reduceTDiv, Int.reduceTMod])
      | ((with_reducible refine split_guardY ?_ ?_) <;> intro hb <;> simp only [hb, go_sem, Nat.reduceAdd, Nat.reduceLT, Nat.reduceBEq, Nat.reduceEqDiff, reduceIte, reduceCtorEq, Nat.reduceLeDiff, Int.reduceEq, Int.reduceLT, Int.reduceLE, decide_true, decide_false, Int.reduceSub, Int.reduceAdd, Int.reduceMul, Int.reduceNeg, Int.reduceToNat, Nat.reduceMul, Nat.reduceSub, Int.cast_ofNat_Int, Int.reduceMod, Int.reduceDiv, Int.reduceTDiv, Int.reduceTMod])
      | (with_reducible refine and_order (by kernel_rfl) (by kernel_rfl) ?_)
      | (with_reducible exact orderOk_of (by kernel_rfl) (by kernel_rfl))
      | (with_reducible refine and_nomen ?_ ?_)
      | (with_reducible refine nomen_p (by kernel_rfl) ?_)
      | (with_reducible refine nomen_s (by kernel_rfl) ?_)
      | (with_reducible refine nomen_p0 (by kernel_rfl) ?_)
      | (with_reducible exact nomen_i (by kernel_rfl))
      | (with_reducible refine And.intro (by first | assumption | omega | (simp only [Bool.not_eq_true', Bool.not_eq_false', Bool.and_eq_true, Bool.and_eq_false_iff, decide_eq_true_eq, decide_eq_false_iff_not, Bool.or_eq_true, Bool.or_eq_false_iff, Bool.not_true, Bool.not_false, Bool.false_eq_true, false_iff, true_iff, bne_iff_ne, beq_iff_eq, ne_eq, iff_true, iff_false, not_and, not_or] at *; omega)) ?_)
      | ((with_reducible refine le_put ?_ ?_) <;> (try simp only [go_sem, Nat.reduceAdd, Nat.reduceLT, Nat.reduceBEq, Nat.reduceEqDiff, reduceIte, reduceCtorEq, Nat.reduceLeDiff, Int.reduceEq, Int.reduceLT, Int.reduceLE, decide_true, decide_false, Int.reduceSub, Int.reduceAdd, Int.reduceMul, Int.reduceNeg, Int.reduceToNat, Nat.reduceMul, Nat.reduceSub, Int.cast_ofNat_Int, Int.reduceMod, Int.reduceDiv, Int.reduceTDiv, Int.reduceTMod]))
      | ((with_reducible refine le_box ?_ ?_) <;> (try simp only [go_sem, Nat.reduceAdd, Nat.reduceLT, Nat.reduceBEq, Nat.reduceEqDiff, reduceIte, reduceCtorEq, Nat.reduceLeDiff, Int.reduceEq, Int.reduceLT, Int.reduceLE, decide_true, decide_false, Int.reduceSub, Int.reduceAdd, Int.reduceMul, Int.reduceNeg, Int.reduceToNat, Nat.reduceMul, Nat.reduceSub, Int.cast_ofNat_Int, Int.reduceMod, Int.reduceDiv, Int.reduceTDiv, Int.reduceTMod]))
      | (with_reducible exact le_base rfl)
      | (with_reducible exact nomen_b))
  all_goals (simp only [lenM])
  all_goals (simp only [wrap_s, go_sem, Nat.reduceAdd, Nat.reduceLT, Nat.reduceBEq, Nat.reduceEqDiff, reduceIte, reduceCtorEq, Nat.reduceLeDiff, Int.reduceEq, Int.reduceLT, Int.reduceLE, decide_true, decide_false, Int.reduceSub, Int.reduceAdd, Int.reduceMul, Int.reduceNeg, Int.reduceToNat, Nat.reduceMul, Nat.reduceSub, Int.cast_ofNat_Int, Int.reduceMod, Int.reduceDiv, Int.reduceTDiv, Int.reduceTMod])
  repeat' (first
    | ((with_reducible refine split_guard ?_ ?_) <;> intro hb <;> simp only [hb, wrap_s, go_sem, Nat.reduceAdd, Nat.reduceLT, Nat.reduceBEq, Nat.reduceEqDiff, reduceIte, reduceCtorEq, Nat.reduceLeDiff, Int.reduceEq, Int.reduceLT, Int.reduceLE, decide_true, decide_false, Int.reduceSub, Int.reduceAdd, Int.reduceMul, Int.reduceNeg, Int.reduceToNat, Nat.reduceMul, Nat.reduceSub, Int.cast_ofNat_Int, Int.reduceMod, Int.reduceDiv, Int.reduceTDiv, Int.reduceTMod])
    | ((with_reducible refine split_cond ?_ ?_) <;> intro hb <;> simp only [hb, wrap_s, go_sem, Nat.reduceAdd, Nat.reduceLT, Nat.reduceBEq, Nat.reduceEqDiff, reduceIte, reduceCtorEq, Nat.reduceLeDiff, Int.reduceEq, Int.reduceLT, Int.reduceLE, decide_true, decide_false, Int.reduceSub, Int.reduceAdd, Int.reduceMul, Int.reduceNeg, Int.reduceToNat, Nat.reduceMul, Nat.reduceSub, Int.cast_ofNat_Int, Int.reduceMod, Int.reduceDiv, Int.reduceTDiv, Int.reduceTMod])
    | ((with_reducible refine split_guardY ?_ ?_) <;> intro hb <;> simp only [hb, wrap_s, go_sem, Nat.reduceAdd, Nat.reduceLT, Nat.reduceBEq, Nat.reduceEqDiff, reduceIte, reduceCtorEq, Nat.reduceLeDiff, Int.reduceEq, Int.reduceLT, Int.reduceLE, decide_true, decide_false, Int.reduceSub, Int.reduceAdd, Int.reduceMul, Int.reduceNeg, Int.reduceToNat, Nat.reduceMul, Nat.reduceSub, Int.cast_ofNat_Int, Int.reduceMod, Int.reduceDiv, Int.reduceTDiv, Int.reduceTMod])
    | (with_reducible refine and_order (by kernel_rfl) (by kernel_rfl) ?_)
    | (with_reducible exact orderOk_of (by kernel_rfl) (by kernel_rfl))
    | (with_reducible refine and_nomen ?_ ?_)
    | (with_reducible refine nomen_p (by kernel_rfl) ?_)
    | (with_reducible refine nomen_s (by kernel_rfl) ?_)
    | (with_reducible refine nomen_p0 (by kernel_rfl) ?_)
    | (with_reducible exact nomen_i (by kernel_rfl))
    | (with_reducible refine And.intro (by first | assumption | omega | (simp only [Bool.not_eq_true', Bool.not_eq_false', Bool.and_eq_true, Bool.and_eq_false_iff, decide_eq_true_eq, decide_eq_false_iff_not, Bool.or_eq_true, Bool.or_eq_false_iff, Bool.not_true, Bool.not_false, Bool.false_eq_true, false_iff, true_iff, bne_iff_ne, beq_iff_eq, ne_eq, iff_true, iff_false, not_and, not_or] at *; omega)) ?_)
    | ((with_reducible refine le_put ?_ ?_) <;> (try simp only [wrap_s, go_sem, Nat.reduceAdd, Nat.reduceLT, Nat.reduceBEq, Nat.reduceEqDiff, reduceIte, reduceCtorEq, Nat.reduceLeDiff, Int.reduceEq, Int.reduceLT, Int.reduceLE, decide_true, decide_false, Int.reduceSub, Int.reduceAdd, Int.reduceMul, Int.reduceNeg, Int.reduceToNat, Nat.reduceMul, Nat.reduceSub, Int.cast_ofNat_Int, Int.reduceMod, Int.reduceDiv, Int.reduceTDiv, Int.reduceTMod]))
    | ((with_reducible refine le_box ?_ ?_) <;> (try simp only [wrap_s, go_sem, Nat.reduceAdd, Nat.reduceLT, Nat.reduceBEq, Nat.reduceEqDiff, reduceIte, reduceCtorEq, Nat.reduceLeDiff, Int.reduceEq, Int.reduceLT, Int.reduceLE, decide_true, decide_false, Int.reduceSub, Int.reduceAdd, Int.reduceMul, Int.reduceNeg, Int.reduceToNat, Nat.reduceMul, Nat.reduceSub, Int.cast_ofNat_Int, Int.reduceMod, Int.reduceDiv, Int.reduceTDiv, Int.reduceTMod]))
    | (with_reducible exact le_base rfl)
    | (with_reducible exact nomen_b))
noncomputable def glenG : List AV → Option AV := ofRel fun args r => ∃ (y : Int) (m : Int), args = [I y, I m] ∧ r = I (lenM y m)
@[go_sem] theorem glenG_eq (y : Int) (m : Int) : glenG [I y, I m] = some (I (lenM y m)) :=
  ofRel_eq ⟨y, m, rfl, rfl⟩ (by rintro _ ⟨y', m', e, rfl⟩; simp at e; first | (obtain ⟨rfl, rfl⟩ := e; rfl) | (simp [e]))
theorem glen_good : Good cfg 11 glenG := fun args r h => by
  obtain ⟨_, _, rfl, rfl⟩ := ofRel_some h; exact ⟨glen_ok _ _, rfl⟩

theorem rlen_ok (y : Int) (m : Int) : FnOk cfg 12 [I y, I m] (I (lenM y m)) := by
  have hm : m < 1 ∨ 12 < m ∨ m = 1 ∨ m = 2 ∨ m = 3 ∨ m = 4 ∨ m = 5 ∨ m = 6 ∨ m = 7 ∨ m = 8 ∨ m = 9 ∨ m = 10 ∨ m = 11 ∨ m = 12 := by omega
  refine fnOk_eval [(10, longG)] (good_cons long_good good_nil) mixed Tryd.func12 rfl rfl Tryd.ntmps12 (congrArg Array.toList Tryd.results12) (by simp) (by rfl) (by rfl) ?_
  rcases hm with h | h | rfl | rfl | rfl | rfl | rfl | rfl | rfl | rfl | rfl | rfl | rfl | rfl
  · have h1 : decide (m < 1) = true := by simpa using h
    have h2 : lenM y m = 0 := by simp [lenM, h]
    simp only [h1, h2, go_sem, Nat.reduceAdd, Nat.reduceLT, Nat.reduceBEq, Nat.reduceEqDiff, reduceIte, reduceCtorEq, Nat.reduceLeDiff, Int.reduceEq, Int.reduceLT, Int.reduceLE, decide_true, decide_false, Int.reduceSub, Int.reduceAdd, Int.reduceMul, Int.reduceNeg, Int.reduceToNat, Nat.reduceMul, Nat.reduceSub, Int.cast_ofNat_Int, Int.reduceMod, Int.reduceDiv, Int.reduceTDiv, Int.reduceTMod]
    repeat' (first
      | ((with_reducible refine split_guard ?_ ?_) <;> intro hb <;> simp only [hb, go_sem, Nat.reduceAdd, Nat.reduceLT, Nat.reduceBEq, Nat.reduceEqDiff, reduceIte, reduceCtorEq, Nat.reduceLeDiff, Int.reduceEq, Int.reduceLT, Int.reduceLE, decide_true, decide_false, Int.reduceSub, Int.reduceAdd, Int.reduceMul, Int.reduceNeg, Int.reduceToNat, Nat.reduceMul, Nat.reduceSub, Int.cast_ofNat_Int, Int.reduceMod, Int.reduceDiv, Int.reduceTDiv, Int.reduceTMod])
      | ((with_reducible refine split_cond ?_ ?_) <;> intro hb <;> simp only [hb, go_sem, Nat.reduceAdd, Nat.reduceLT, Nat.reduceBEq, Nat.reduceEqDiff, reduceIte, reduceCtorEq, Nat.reduceLeDiff, Int.reduceEq, Int.reduceLT, Int.reduceLE, decide_true, decide_false, Int.reduceSub, Int.reduceAdd, Int.reduceMul, Int.reduceNeg, Int.reduceToNat, Nat.reduceMul, Nat.reduceSub, Int.cast_ofNat_Int, Int.reduceMod, Int.reduceDiv, Int.reduceTDiv, Int.reduceTMod])
      | ((with_reducible refine split_guardY ?_ ?_) <;> intro hb <;> simp only [hb, go_sem, Nat.reduceAdd, Nat.reduceLT, Nat.reduceBEq, Nat.reduceEqDiff, reduceIte, reduceCtorEq, Nat.reduceLeDiff, Int.reduceEq, Int.reduceLT, Int.reduceLE, decide_true, decide_false, Int.reduceSub, Int.reduceAdd, Int.reduceMul, Int.reduceNeg, Int.reduceToNat, Nat.reduceMul, Nat.reduceSub, Int.cast_ofNat_Int, Int.reduceMod, Int.reduceDiv, Int.reduceTDiv, Int.reduceTMod])
      | (with_reducible refine and_order (by kernel_rfl) (by kernel_rfl) ?_)
      | (with_reducible exact orderOk_of (by kernel_rfl) (by kernel_rfl))
      | (with_reducible refine and_nomen ?_ ?_)
      | (with_reducible refine nomen_p (by kernel_rfl) ?_)
      | (with_reducible refine nomen_s (by kernel_rfl) ?_)
      | (with_reducible refine nomen_p0 (by kernel_rfl) ?_)
      | (with_reducible exact nomen_i (by kernel_rfl))
      | (with_reducible refine And.intro (by first | assumption | omega | (simp only [Bool.not_eq_true', Bool.not_eq_false', Bool.and_eq_true, Bool.and_eq_false_iff, decide_eq_true_eq, decide_eq_false_iff_not, Bool.or_eq_true, Bool.or_eq_false_iff, Bool.not_true, Bool.not_false, Bool.false_eq_true, false_iff, true_iff, bne_iff_ne, beq_iff_eq, ne_eq, iff_true, iff_false, not_and, not_or] at *; omega)) ?_)
      | ((with_reducible refine le_put ?_ ?_) <;> (try simp only [go_sem, Nat.reduceAdd, Nat.reduceLT, Nat.reduceBEq, Nat.reduceEqDiff, reduceIte, reduceCtorEq, Nat.reduceLeDiff, Int.reduceEq, Int.reduceLT, Int.reduceLE, decide_true, decide_false, Int.reduceSub, Int.reduceAdd, Int.reduceMul, Int.reduceNeg, Int.reduceToNat, Nat.reduceMul, Nat.reduceSub, Int.cast_ofNat_Int, Int.reduceMod, Int.reduceDiv, Int.reduceTDiv, Int.reduceTMod]))
      | ((with_reducible refine le_box ?_ ?_) <;> (try simp only [go_sem, Nat.reduceAdd, Nat.reduceLT, Nat.reduceBEq, Nat.reduceEqDiff, reduceIte, reduceCtorEq, Nat.reduceLeDiff, Int.reduceEq, Int.reduceLT, Int.reduceLE, decide_true, decide_false, Int.reduceSub, Int.reduceAdd, Int.reduceMul, Int.reduceNeg, Int.reduceToNat, Nat.reduceMul, Nat.reduceSub, Int.cast_ofNat_Int, Int.reduceMod, Int.reduceDiv, Int.reduceTDiv, Int.reduceTMod]))
      | (with_reducible exact le_base rfl)
      | (with_reducible exact nomen_b))
  · have h1 : decide (m < 1) = false := by simp; omega
    have h3 : decide (12 < m) = true := by simpa using h
    have h2 : lenM y m = 0 := by simp [lenM, h]
    simp only [h1, h2, h3, go_sem, Nat.reduceAdd, Nat.reduceLT, Nat.reduceBEq, Nat.reduceEqDiff, reduceIte, reduceCtorEq, Nat.reduceLeDiff, Int.reduceEq, Int.reduceLT, Int.reduceLE, decide_true, decide_false, Int.reduceSub, Int.reduceAdd, Int.reduceMul, Int.reduceNeg, Int.reduceToNat, Nat.reduceMul, Nat.reduceSub, Int.cast_ofNat_Int, Int.reduceMod, Int.reduceDiv, Int.reduceTDiv, Int.reduceTMod]
    repeat' (first
      | ((with_reducible refine split_guard ?_ ?_) <;> intro hb <;> simp only [hb, go_sem, Nat.reduceAdd, Nat.reduceLT, Nat.reduceBEq, Nat.reduceEqDiff, reduceIte, reduceCtorEq, Nat.reduceLeDiff, Int.reduceEq, Int.reduceLT, Int.reduceLE, decide_true, decide_false, Int.reduceSub, Int.reduceAdd, Int.reduceMul, Int.reduceNeg, Int.reduceToNat, Nat.reduceMul, Nat.reduceSub, Int.cast_ofNat_Int, Int.reduceMod, Int.reduceDiv, Int.reduceTDiv, Int.reduceTMod])
      | ((with_reducible refine split_cond ?_ ?_) <;> intro hb <;> simp only [hb, go_sem, Nat.reduceAdd, Nat.reduceLT, Nat.reduceBEq, Nat.reduceEqDiff, reduceIte, reduceCtorEq, Nat.reduceLeDiff, Int.reduceEq, Int.reduceLT, Int.reduceLE, decide_true, decide_false, Int.reduceSub, Int.reduceAdd, Int.reduceMul, Int.reduceNeg, Int.reduceToNat, Nat.reduceMul, Nat.reduceSub, Int.cast_ofNat_Int, Int.reduceMod, Int.reduceDiv, Int.reduceTDiv, Int.reduceTMod])
      | ((with_reducible refine split_guardY ?_ ?_) <;> intro hb <;> simp only [hb, go_sem, Nat.reduceAdd, Nat.reduceLT, Nat.reduceBEq, Nat.reduceEqDiff, reduceIte, reduceCtorEq, Nat.reduceLeDiff, Int.reduceEq, Int.reduceLT, Int.reduceLE, decide_true, decide_false, Int.reduceSub, Int.reduceAdd, Int.reduceMul, Int.reduceNeg, Int.reduceToNat, Nat.reduceMul, Nat.reduceSub, Int.cast_ofNat_Int, Int.reduceMod, Int.reduceDiv, Int.reduceTDiv, Int.reduceTMod])
      | (with_reducible refine and_order (by kernel_rfl) (by kernel_rfl) ?_)
      | (with_reducible exact orderOk_of (by kernel_rfl) (by kernel_rfl))
      | (with_reducible refine and_nomen ?_ ?_)
      | (with_reducible refine nomen_p (by kernel_rfl) ?_)
      | (with_reducible refine nomen_s (by kernel_rfl) ?_)
      | (with_reducible refine nomen_p0 (by kernel_rfl) ?_)
      | (with_reducible exact nomen_i (by kernel_rfl))
      | (with_reducible refine And.intro (by first | assumption | omega | (simp only [Bool.not_eq_true', Bool.not_eq_false', Bool.and_eq_true, Bool.and_eq_false_iff, decide_eq_true_eq, decide_eq_false_iff_not, Bool.or_eq_true, Bool.or_eq_false_iff, Bool.not_true, Bool.not_false, Bool.false_eq_true, false_iff, true_iff, bne_iff_ne, beq_iff_eq, ne_eq, iff_true, iff_false, not_and, not_or] at *; omega)) ?_)
      | ((with_reducible refine le_put ?_ ?_) <;> (try simp only [go_sem, Nat.reduceAdd, Nat.reduceLT, Nat.reduceBEq, Nat.reduceEqDiff, reduceIte, reduceCtorEq, Nat.reduceLeDiff, Int.reduceEq, Int.reduceLT, Int.reduceLE, decide_true, decide_false, Int.reduceSub, Int.reduceAdd, Int.reduceMul, Int.reduceNeg, Int.reduceToNat, Nat.reduceMul, Nat.reduceSub, Int.cast_ofNat_Int, Int.reduceMod, Int.reduceDiv, Int.reduceTDiv, Int.reduceTMod]))
      | ((with_reducible refine le_box ?_ ?_) <;> (try simp only [go_sem, Nat.reduceAdd, Nat.reduceLT, Nat.reduceBEq, Nat.reduceEqDiff, reduceIte, reduceCtorEq, Nat.reduceLeDiff, Int.reduceEq, Int.reduceLT, Int.reduceLE, decide_true, decide_false, Int.reduceSub, Int.reduceAdd, Int.reduceMul, Int.reduceNeg, Int.reduceToNat, Nat.reduceMul, Nat.reduceSub, Int.cast_ofNat_Int, Int.reduceMod, Int.reduceDiv, Int.reduceTDiv, Int.reduceTMod]))
      | (with_reducible exact le_base rfl)
      | (with_reducible exact nomen_b))
  all_goals (simp only [lenM])
  all_goals (simp only [wrap_s, go_sem, Nat.reduceAdd, Nat.reduceLT, Nat.reduceBEq, Nat.reduceEqDiff, reduceIte, reduceCtorEq, Nat.reduceLeDiff, Int.reduceEq, Int.reduceLT, Int.reduceLE, decide_true, decide_false, Int.reduceSub, Int.reduceAdd, Int.reduceMul, Int.reduceNeg, Int.reduceToNat, Nat.reduceMul, Nat.reduceSub, Int.cast_ofNat_Int, Int.reduceMod, Int.reduceDiv, Int.reduceTDiv, Int.reduceTMod])
  repeat' (first
    | ((with_reducible refine split_guard ?_ ?_) <;> intro hb <;> simp only [hb, wrap_s, go_sem, Nat.reduceAdd, Nat.reduceLT, Nat.reduceBEq, Nat.reduceEqDiff, reduceIte, reduceCtorEq, Nat.reduceLeDiff, Int.reduceEq, Int.reduceLT, Int.reduceLE, decide_true, decide_false, Int.reduceSub, Int.reduceAdd, Int.reduceMul, Int.reduceNeg, Int.reduceToNat, Nat.reduceMul, Nat.reduceSub, Int.cast_ofNat_Int, Int.reduceMod, Int.reduceDiv, Int.reduceTDiv, Int.reduceTMod])
    | ((with_reducible refine split_cond ?_ ?_) <;> intro hb <;> simp only [hb, wrap_s, go_sem, Nat.reduceAdd, Nat.reduceLT, Nat.reduceBEq, Nat.reduceEqDiff, reduceIte, reduceCtorEq, Nat.reduceLeDiff, Int.reduceEq, Int.reduceLT, Int.reduceLE, decide_true, decide_false, Int.reduceSub, Int.reduceAdd, Int.reduceMul, Int.reduceNeg, Int.reduceToNat, Nat.reduceMul, Nat.reduceSub, Int.cast_ofNat_Int, Int.reduceMod, Int.reduceDiv, Int.reduceTDiv, Int.reduceTMod])
    | ((with_reducible refine split_guardY ?_ ?_) <;> intro hb <;> simp only [hb, wrap_s, go_sem, Nat.reduceAdd, Nat.reduceLT, Nat.reduceBEq, Nat.reduceEqDiff, reduceIte, reduceCtorEq, Nat.reduceLeDiff, Int.reduceEq, Int.reduceLT, Int.reduceLE, decide_true, decide_false, Int.reduceSub, Int.reduceAdd, Int.reduceMul, Int.reduceNeg, Int.reduceToNat, Nat.reduceMul, Nat.reduceSub, Int.cast_ofNat_Int, Int.reduceMod, Int.reduceDiv, Int.reduceTDiv, Int.reduceTMod])
    | (with_reducible refine and_order (by kernel_rfl) (by kernel_rfl) ?_)
    | (with_reducible exact orderOk_of (by kernel_rfl) (by kernel_rfl))
    | (with_reducible refine and_nomen ?_ ?_)
    | (with_reducible refine nomen_p (by kernel_rfl) ?_)
    | (with_reducible refine nomen_s (by kernel_rfl) ?_)
    | (with_reducible refine nomen_p0 (by kernel_rfl) ?_)
    | (with_reducible exact nomen_i (by kernel_rfl))
    | (with_reducible refine And.intro (by first | assumption | omega | (simp only [Bool.not_eq_true', Bool.not_eq_false', Bool.and_eq_true, Bool.and_eq_false_iff, decide_eq_true_eq, decide_eq_false_iff_not, Bool.or_eq_true, Bool.or_eq_false_iff, Bool.not_true, Bool.not_false, Bool.false_eq_true, false_iff, true_iff, bne_iff_ne, beq_iff_eq, ne_eq, iff_true, iff_false, not_and, not_or] at *; omega)) ?_)
    | ((with_reducible refine le_put ?_ ?_) <;> (try simp only [wrap_s, go_sem, Nat.reduceAdd, Nat.reduceLT, Nat.reduceBEq, Nat.reduceEqDiff, reduceIte, reduceCtorEq, Nat.reduceLeDiff, Int.reduceEq, Int.reduceLT, Int.reduceLE, decide_true, decide_false, Int.reduceSub, Int.reduceAdd, Int.reduceMul, Int.reduceNeg, Int.reduceToNat, Nat.reduceMul, Nat.reduceSub, Int.cast_ofNat_Int, Int.reduceMod, Int.reduceDiv, Int.reduceTDiv, Int.reduceTMod]))
    | ((with_reducible refine le_box ?_ ?_) <;> (try simp only [wrap_s, go_sem, Nat.reduceAdd, Nat.reduceLT, Nat.reduceBEq, Nat.reduceEqDiff, reduceIte, reduceCtorEq, Nat.reduceLeDiff, Int.reduceEq, Int.reduceLT, Int.reduceLE, decide_true, decide_false, Int.reduceSub, Int.reduceAdd, Int.reduceMul, Int.reduceNeg, Int.reduceToNat, Nat.reduceMul, Nat.reduceSub, Int.cast_ofNat_Int, Int.reduceMod, Int.reduceDiv, Int.reduceTDiv, Int.reduceTMod]))
    | (with_reducible exact le_base rfl)
    | (with_reducible exact nomen_b))
noncomputable def rlenG : List AV → Option AV := ofRel fun args r => ∃ (y : Int) (m : Int), args = [I y, I m] ∧ r = I (lenM y m)
@[go_sem] theorem rlenG_eq (y : Int) (m : Int) : rlenG [I y, I m] = some (I (lenM y m)) :=
  ofRel_eq ⟨y, m, rfl, rfl⟩ (by rintro _ ⟨y', m', e, rfl⟩; simp at e; first | (obtain ⟨rfl, rfl⟩ := e; rfl) | (simp [e]))
theorem rlen_good : Good cfg 12 rlenG := fun args r h => by
  obtain ⟨_, _, rfl, rfl⟩ := ofRel_some h; exact ⟨rlen_ok _ _, rfl⟩

theorem i64_in' (n : Int) (h : -9223372036854775808 ≤ n ∧ n ≤ 9223372036854775807) : IntKind.i64.wrap n = n := IntWalk.i64_in n h
theorem tdiv_nn (a b : Int) (h : 0 ≤ a) : a.tdiv b = a / b := Int.tdiv_eq_ediv_of_nonneg h
/-- greg's floor, and the reference's. -/
def floorW (a b : Int) : Int := if a.tmod b < 0 then IntKind.i64.wrap (IntKind.i64.wrap (a.tdiv b) - 1) else IntKind.i64.wrap (a.tdiv b)
def rfW (a b : Int) : Int := if a < IntKind.i64.wrap (IntKind.i64.wrap (a.tdiv b) * b) then IntKind.i64.wrap (IntKind.i64.wrap (a.tdiv b) - 1) else IntKind.i64.wrap (a.tdiv b)
theorem tdiv_facts (a b : Int) (hb : 0 < b) : a.tdiv b * b + a.tmod b = a ∧ (0 ≤ a → 0 ≤ a.tmod b ∧ a.tmod b < b) ∧ (a ≤ 0 → -b < a.tmod b ∧ a.tmod b ≤ 0) := by
  refine ⟨by rw [Int.mul_comm]; exact Int.mul_tdiv_add_tmod a b, fun h => ⟨Int.tmod_nonneg _ h, Int.tmod_lt_of_pos _ hb⟩, fun h => ?_⟩
  have h1 := Int.tmod_lt_of_pos (-a) hb
  have h2 := Int.tmod_nonneg b (show 0 ≤ -a by omega)
  rw [Int.neg_tmod] at h1 h2
  omega
theorem ediv_is {a b q r : Int} (hb : 0 < b) (h : q * b + r = a) (h0 : 0 ≤ r) (h1 : r < b) : a / b = q := by
  have e : a = b * q + r := by rw [Int.mul_comm]; exact h.symm
  rw [e, Int.mul_add_ediv_left _ _ (by omega), Int.ediv_eq_zero_of_lt h0 h1, Int.add_zero]
theorem tdiv_range (a b : Int) (hb : 0 < b) (h : -1000000000000000000 ≤ a ∧ a ≤ 1000000000000000000) : -1000000000000000000 ≤ a.tdiv b ∧ a.tdiv b ≤ 1000000000000000000 := by
  have h1 := Int.natAbs_tdiv_le_natAbs a b
  omega
theorem floorW_eq (a b : Int) (h : 0 < b ∧ -1000000000000000000 ≤ a ∧ a ≤ 1000000000000000000) : floorW a b = a / b := by
  obtain ⟨e, h1, h2⟩ := tdiv_facts a b h.1
  have hr := tdiv_range a b h.1 h.2
  rw [floorW, i64_in' (a.tdiv b) (by omega)]
  split
  · rw [i64_in' _ (by omega)]
    refine (ediv_is (r := a.tmod b + b) h.1 ?_ (by omega) (by omega)).symm
    rw [Int.sub_mul]; omega
  · exact (ediv_is (r := a.tmod b) h.1 e (by omega) (by omega)).symm
theorem rfW_eq (a b : Int) (h : 0 < b ∧ -1000000000000000000 ≤ a ∧ a ≤ 1000000000000000000) : rfW a b = a / b := by
  obtain ⟨e, h1, h2⟩ := tdiv_facts a b h.1
  have hr := tdiv_range a b h.1 h.2
  have hm : -b < a.tmod b ∧ a.tmod b < b := by omega
  have habs : -1000000000000000000 ≤ a.tdiv b * b ∧ a.tdiv b * b ≤ 1000000000000000000 := by
    rcases Int.le_total 0 a with hp | hp
    · have := h1 hp
      have q0 : 0 ≤ a.tdiv b := Int.tdiv_nonneg hp (by omega)
      have := Int.mul_nonneg q0 (show 0 ≤ b by omega)
      omega
    · have := h2 hp
      have q0 : 0 ≤ (-a).tdiv b := Int.tdiv_nonneg (by omega) (by omega)
      rw [Int.neg_tdiv] at q0
      have := Int.mul_nonneg q0 (show 0 ≤ b by omega)
      rw [Int.neg_mul] at this
      omega
  rw [rfW, i64_in' (a.tdiv b) (by omega), i64_in' (a.tdiv b * b) (by omega)]
  split
  · rw [i64_in' _ (by omega)]
    refine (ediv_is (r := a.tmod b + b) h.1 ?_ (by omega) (by omega)).symm
    rw [Int.sub_mul]; omega
  · exact (ediv_is (r := a.tmod b) h.1 e (by omega) (by omega)).symm

theorem floor_ok (a : Int) (b : Int) (hp : ¬ b = 0) : FnOk cfg 20 [I a, I b] (I (floorW a b)) := by
  refine fnOk_eval [] good_nil mixed Tryd.func20 rfl rfl Tryd.ntmps20 (congrArg Array.toList Tryd.results20) (by simp) (by rfl) (by rfl) ?_
  simp only [go_sem, Nat.reduceAdd, Nat.reduceLT, Nat.reduceBEq, Nat.reduceEqDiff, reduceIte, reduceCtorEq, Nat.reduceLeDiff, Int.reduceEq, Int.reduceLT, Int.reduceLE, decide_true, decide_false, Int.reduceSub, Int.reduceAdd, Int.reduceMul, Int.reduceNeg, Int.reduceToNat, Nat.reduceMul, Nat.reduceSub, Int.cast_ofNat_Int, Int.reduceMod, Int.reduceDiv, Int.reduceTDiv, Int.reduceTMod]
  repeat' (first
    | ((with_reducible refine split_guard ?_ ?_) <;> intro hb <;> simp only [hb, go_sem, Nat.reduceAdd, Nat.reduceLT, Nat.reduceBEq, Nat.reduceEqDiff, reduceIte, reduceCtorEq, Nat.reduceLeDiff, Int.reduceEq, Int.reduceLT, Int.reduceLE, decide_true, decide_false, Int.reduceSub, Int.reduceAdd, Int.reduceMul, Int.reduceNeg, Int.reduceToNat, Nat.reduceMul, Nat.reduceSub, Int.cast_ofNat_Int, Int.reduceMod, Int.reduceDiv, Int.reduceTDiv, Int.reduceTMod])
    | ((with_reducible refine split_cond ?_ ?_) <;> intro hb <;> simp only [hb, go_sem, Nat.reduceAdd, Nat.reduceLT, Nat.reduceBEq, Nat.reduceEqDiff, reduceIte, reduceCtorEq, Nat.reduceLeDiff, Int.reduceEq, Int.reduceLT, Int.reduceLE, decide_true, decide_false, Int.reduceSub, Int.reduceAdd, Int.reduceMul, Int.reduceNeg, Int.reduceToNat, Nat.reduceMul, Nat.reduceSub, Int.cast_ofNat_Int, Int.reduceMod, Int.reduceDiv, Int.reduceTDiv, Int.reduceTMod])
    | ((with_reducible refine split_guardY ?_ ?_) <;> intro hb <;> simp only [hb, go_sem, Nat.reduceAdd, Nat.reduceLT, Nat.reduceBEq, Nat.reduceEqDiff, reduceIte, reduceCtorEq, Nat.reduceLeDiff, Int.reduceEq, Int.reduceLT, Int.reduceLE, decide_true, decide_false, Int.reduceSub, Int.reduceAdd, Int.reduceMul, Int.reduceNeg, Int.reduceToNat, Nat.reduceMul, Nat.reduceSub, Int.cast_ofNat_Int, Int.reduceMod, Int.reduceDiv, Int.reduceTDiv, Int.reduceTMod])
    | (with_reducible refine and_order (by kernel_rfl) (by kernel_rfl) ?_)
    | (with_reducible exact orderOk_of (by kernel_rfl) (by kernel_rfl))
    | (with_reducible refine and_nomen ?_ ?_)
    | (with_reducible refine nomen_p (by kernel_rfl) ?_)
    | (with_reducible refine nomen_s (by kernel_rfl) ?_)
    | (with_reducible refine nomen_p0 (by kernel_rfl) ?_)
    | (with_reducible exact nomen_i (by kernel_rfl))
    | (with_reducible refine And.intro (by first | assumption | omega | (simp only [Bool.not_eq_true', Bool.not_eq_false', Bool.and_eq_true, Bool.and_eq_false_iff, decide_eq_true_eq, decide_eq_false_iff_not, Bool.or_eq_true, Bool.or_eq_false_iff, Bool.not_true, Bool.not_false, Bool.false_eq_true, false_iff, true_iff, bne_iff_ne, beq_iff_eq, ne_eq, iff_true, iff_false, not_and, not_or] at *; omega)) ?_)
    | ((with_reducible refine le_put ?_ ?_) <;> (try simp only [go_sem, Nat.reduceAdd, Nat.reduceLT, Nat.reduceBEq, Nat.reduceEqDiff, reduceIte, reduceCtorEq, Nat.reduceLeDiff, Int.reduceEq, Int.reduceLT, Int.reduceLE, decide_true, decide_false, Int.reduceSub, Int.reduceAdd, Int.reduceMul, Int.reduceNeg, Int.reduceToNat, Nat.reduceMul, Nat.reduceSub, Int.cast_ofNat_Int, Int.reduceMod, Int.reduceDiv, Int.reduceTDiv, Int.reduceTMod]))
    | ((with_reducible refine le_box ?_ ?_) <;> (try simp only [go_sem, Nat.reduceAdd, Nat.reduceLT, Nat.reduceBEq, Nat.reduceEqDiff, reduceIte, reduceCtorEq, Nat.reduceLeDiff, Int.reduceEq, Int.reduceLT, Int.reduceLE, decide_true, decide_false, Int.reduceSub, Int.reduceAdd, Int.reduceMul, Int.reduceNeg, Int.reduceToNat, Nat.reduceMul, Nat.reduceSub, Int.cast_ofNat_Int, Int.reduceMod, Int.reduceDiv, Int.reduceTDiv, Int.reduceTMod]))
    | (with_reducible exact le_base rfl)
    | (with_reducible exact nomen_b))
  all_goals (refine leafI ?_; simp only [decide_eq_true_eq, decide_eq_false_iff_not] at hb; simp only [floorW, hb, if_true, if_false])
noncomputable def floorG : List AV → Option AV := ofRel fun args r => ∃ (a : Int) (b : Int), args = [I a, I b] ∧ (¬ b = 0) ∧ r = I (floorW a b)
@[go_sem] theorem floorG_eq (a : Int) (b : Int) (hp : ¬ b = 0) : floorG [I a, I b] = some (I (floorW a b)) :=
  ofRel_eq ⟨a, b, rfl, hp, rfl⟩ (by rintro _ ⟨a', b', e, _, rfl⟩; simp at e; first | (obtain ⟨rfl, rfl⟩ := e; rfl) | (simp [e]))
theorem floor_good : Good cfg 20 floorG := fun args r h => by
  obtain ⟨_, _, rfl, hp, rfl⟩ := ofRel_some h; exact ⟨floor_ok _ _ hp, rfl⟩

theorem rfloor_ok (a : Int) (b : Int) (hp : ¬ b = 0) : FnOk cfg 23 [I a, I b] (I (rfW a b)) := by
  refine fnOk_eval [] good_nil mixed Tryd.func23 rfl rfl Tryd.ntmps23 (congrArg Array.toList Tryd.results23) (by simp) (by rfl) (by rfl) ?_
  simp only [go_sem, Nat.reduceAdd, Nat.reduceLT, Nat.reduceBEq, Nat.reduceEqDiff, reduceIte, reduceCtorEq, Nat.reduceLeDiff, Int.reduceEq, Int.reduceLT, Int.reduceLE, decide_true, decide_false, Int.reduceSub, Int.reduceAdd, Int.reduceMul, Int.reduceNeg, Int.reduceToNat, Nat.reduceMul, Nat.reduceSub, Int.cast_ofNat_Int, Int.reduceMod, Int.reduceDiv, Int.reduceTDiv, Int.reduceTMod]
  repeat' (first
    | ((with_reducible refine split_guard ?_ ?_) <;> intro hb <;> simp only [hb, go_sem, Nat.reduceAdd, Nat.reduceLT, Nat.reduceBEq, Nat.reduceEqDiff, reduceIte, reduceCtorEq, Nat.reduceLeDiff, Int.reduceEq, Int.reduceLT, Int.reduceLE, decide_true, decide_false, Int.reduceSub, Int.reduceAdd, Int.reduceMul, Int.reduceNeg, Int.reduceToNat, Nat.reduceMul, Nat.reduceSub, Int.cast_ofNat_Int, Int.reduceMod, Int.reduceDiv, Int.reduceTDiv, Int.reduceTMod])
    | ((with_reducible refine split_cond ?_ ?_) <;> intro hb <;> simp only [hb, go_sem, Nat.reduceAdd, Nat.reduceLT, Nat.reduceBEq, Nat.reduceEqDiff, reduceIte, reduceCtorEq, Nat.reduceLeDiff, Int.reduceEq, Int.reduceLT, Int.reduceLE, decide_true, decide_false, Int.reduceSub, Int.reduceAdd, Int.reduceMul, Int.reduceNeg, Int.reduceToNat, Nat.reduceMul, Nat.reduceSub, Int.cast_ofNat_Int, Int.reduceMod, Int.reduceDiv, Int.reduceTDiv, Int.reduceTMod])
    | ((with_reducible refine split_guardY ?_ ?_) <;> intro hb <;> simp only [hb, go_sem, Nat.reduceAdd, Nat.reduceLT, Nat.reduceBEq, Nat.reduceEqDiff, reduceIte, reduceCtorEq, Nat.reduceLeDiff, Int.reduceEq, Int.reduceLT, Int.reduceLE, decide_true, decide_false, Int.reduceSub, Int.reduceAdd, Int.reduceMul, Int.reduceNeg, Int.reduceToNat, Nat.reduceMul, Nat.reduceSub, Int.cast_ofNat_Int, Int.reduceMod, Int.reduceDiv, Int.reduceTDiv, Int.reduceTMod])
    | (with_reducible refine and_order (by kernel_rfl) (by kernel_rfl) ?_)
    | (with_reducible exact orderOk_of (by kernel_rfl) (by kernel_rfl))
    | (with_reducible refine and_nomen ?_ ?_)
    | (with_reducible refine nomen_p (by kernel_rfl) ?_)
    | (with_reducible refine nomen_s (by kernel_rfl) ?_)
    | (with_reducible refine nomen_p0 (by kernel_rfl) ?_)
    | (with_reducible exact nomen_i (by kernel_rfl))
    | (with_reducible refine And.intro (by first | assumption | omega | (simp only [Bool.not_eq_true', Bool.not_eq_false', Bool.and_eq_true, Bool.and_eq_false_iff, decide_eq_true_eq, decide_eq_false_iff_not, Bool.or_eq_true, Bool.or_eq_false_iff, Bool.not_true, Bool.not_false, Bool.false_eq_true, false_iff, true_iff, bne_iff_ne, beq_iff_eq, ne_eq, iff_true, iff_false, not_and, not_or] at *; omega)) ?_)
    | ((with_reducible refine le_put ?_ ?_) <;> (try simp only [go_sem, Nat.reduceAdd, Nat.reduceLT, Nat.reduceBEq, Nat.reduceEqDiff, reduceIte, reduceCtorEq, Nat.reduceLeDiff, Int.reduceEq, Int.reduceLT, Int.reduceLE, decide_true, decide_false, Int.reduceSub, Int.reduceAdd, Int.reduceMul, Int.reduceNeg, Int.reduceToNat, Nat.reduceMul, Nat.reduceSub, Int.cast_ofNat_Int, Int.reduceMod, Int.reduceDiv, Int.reduceTDiv, Int.reduceTMod]))
    | ((with_reducible refine le_box ?_ ?_) <;> (try simp only [go_sem, Nat.reduceAdd, Nat.reduceLT, Nat.reduceBEq, Nat.reduceEqDiff, reduceIte, reduceCtorEq, Nat.reduceLeDiff, Int.reduceEq, Int.reduceLT, Int.reduceLE, decide_true, decide_false, Int.reduceSub, Int.reduceAdd, Int.reduceMul, Int.reduceNeg, Int.reduceToNat, Nat.reduceMul, Nat.reduceSub, Int.cast_ofNat_Int, Int.reduceMod, Int.reduceDiv, Int.reduceTDiv, Int.reduceTMod]))
    | (with_reducible exact le_base rfl)
    | (with_reducible exact nomen_b))
  all_goals (refine leafI ?_; simp only [decide_eq_true_eq, decide_eq_false_iff_not] at hb; simp only [rfW, hb, if_true, if_false])
noncomputable def rfloorG : List AV → Option AV := ofRel fun args r => ∃ (a : Int) (b : Int), args = [I a, I b] ∧ (¬ b = 0) ∧ r = I (rfW a b)
@[go_sem] theorem rfloorG_eq (a : Int) (b : Int) (hp : ¬ b = 0) : rfloorG [I a, I b] = some (I (rfW a b)) :=
  ofRel_eq ⟨a, b, rfl, hp, rfl⟩ (by rintro _ ⟨a', b', e, _, rfl⟩; simp at e; first | (obtain ⟨rfl, rfl⟩ := e; rfl) | (simp [e]))
theorem rfloor_good : Good cfg 23 rfloorG := fun args r h => by
  obtain ⟨_, _, rfl, hp, rfl⟩ := ofRel_some h; exact ⟨rfloor_ok _ _ hp, rfl⟩

theorem gin_ok (n : Int) : FnOk cfg 21 [I n] (B (inR n)) := by
  refine fnOk_eval [] good_nil mixed Tryd.func21 rfl rfl Tryd.ntmps21 (congrArg Array.toList Tryd.results21) (by simp) (by rfl) (by rfl) ?_
  simp only [go_sem, Nat.reduceAdd, Nat.reduceLT, Nat.reduceBEq, Nat.reduceEqDiff, reduceIte, reduceCtorEq, Nat.reduceLeDiff, Int.reduceEq, Int.reduceLT, Int.reduceLE, decide_true, decide_false, Int.reduceSub, Int.reduceAdd, Int.reduceMul, Int.reduceNeg, Int.reduceToNat, Nat.reduceMul, Nat.reduceSub, Int.cast_ofNat_Int, Int.reduceMod, Int.reduceDiv, Int.reduceTDiv, Int.reduceTMod]
  repeat' (first
    | ((with_reducible refine split_guard ?_ ?_) <;> intro hb <;> simp only [hb, go_sem, Nat.reduceAdd, Nat.reduceLT, Nat.reduceBEq, Nat.reduceEqDiff, reduceIte, reduceCtorEq, Nat.reduceLeDiff, Int.reduceEq, Int.reduceLT, Int.reduceLE, decide_true, decide_false, Int.reduceSub, Int.reduceAdd, Int.reduceMul, Int.reduceNeg, Int.reduceToNat, Nat.reduceMul, Nat.reduceSub, Int.cast_ofNat_Int, Int.reduceMod, Int.reduceDiv, Int.reduceTDiv, Int.reduceTMod])
    | ((with_reducible refine split_cond ?_ ?_) <;> intro hb <;> simp only [hb, go_sem, Nat.reduceAdd, Nat.reduceLT, Nat.reduceBEq, Nat.reduceEqDiff, reduceIte, reduceCtorEq, Nat.reduceLeDiff, Int.reduceEq, Int.reduceLT, Int.reduceLE, decide_true, decide_false, Int.reduceSub, Int.reduceAdd, Int.reduceMul, Int.reduceNeg, Int.reduceToNat, Nat.reduceMul, Nat.reduceSub, Int.cast_ofNat_Int, Int.reduceMod, Int.reduceDiv, Int.reduceTDiv, Int.reduceTMod])
    | ((with_reducible refine split_guardY ?_ ?_) <;> intro hb <;> simp only [hb, go_sem, Nat.reduceAdd, Nat.reduceLT, Nat.reduceBEq, Nat.reduceEqDiff, reduceIte, reduceCtorEq, Nat.reduceLeDiff, Int.reduceEq, Int.reduceLT, Int.reduceLE, decide_true, decide_false, Int.reduceSub, Int.reduceAdd, Int.reduceMul, Int.reduceNeg, Int.reduceToNat, Nat.reduceMul, Nat.reduceSub, Int.cast_ofNat_Int, Int.reduceMod, Int.reduceDiv, Int.reduceTDiv, Int.reduceTMod])
    | (with_reducible refine and_order (by kernel_rfl) (by kernel_rfl) ?_)
    | (with_reducible exact orderOk_of (by kernel_rfl) (by kernel_rfl))
    | (with_reducible refine and_nomen ?_ ?_)
    | (with_reducible refine nomen_p (by kernel_rfl) ?_)
    | (with_reducible refine nomen_s (by kernel_rfl) ?_)
    | (with_reducible refine nomen_p0 (by kernel_rfl) ?_)
    | (with_reducible exact nomen_i (by kernel_rfl))
    | (with_reducible refine And.intro (by first | assumption | omega | (simp only [Bool.not_eq_true', Bool.not_eq_false', Bool.and_eq_true, Bool.and_eq_false_iff, decide_eq_true_eq, decide_eq_false_iff_not, Bool.or_eq_true, Bool.or_eq_false_iff, Bool.not_true, Bool.not_false, Bool.false_eq_true, false_iff, true_iff, bne_iff_ne, beq_iff_eq, ne_eq, iff_true, iff_false, not_and, not_or] at *; omega)) ?_)
    | ((with_reducible refine le_put ?_ ?_) <;> (try simp only [go_sem, Nat.reduceAdd, Nat.reduceLT, Nat.reduceBEq, Nat.reduceEqDiff, reduceIte, reduceCtorEq, Nat.reduceLeDiff, Int.reduceEq, Int.reduceLT, Int.reduceLE, decide_true, decide_false, Int.reduceSub, Int.reduceAdd, Int.reduceMul, Int.reduceNeg, Int.reduceToNat, Nat.reduceMul, Nat.reduceSub, Int.cast_ofNat_Int, Int.reduceMod, Int.reduceDiv, Int.reduceTDiv, Int.reduceTMod]))
    | ((with_reducible refine le_box ?_ ?_) <;> (try simp only [go_sem, Nat.reduceAdd, Nat.reduceLT, Nat.reduceBEq, Nat.reduceEqDiff, reduceIte, reduceCtorEq, Nat.reduceLeDiff, Int.reduceEq, Int.reduceLT, Int.reduceLE, decide_true, decide_false, Int.reduceSub, Int.reduceAdd, Int.reduceMul, Int.reduceNeg, Int.reduceToNat, Nat.reduceMul, Nat.reduceSub, Int.cast_ofNat_Int, Int.reduceMod, Int.reduceDiv, Int.reduceTDiv, Int.reduceTMod]))
    | (with_reducible exact le_base rfl)
    | (with_reducible exact nomen_b))
  all_goals refine leafB ?_
  all_goals simp only [longY, inR, tmod_z, Bool.not_eq_true', Bool.not_eq_false', Bool.and_eq_true, Bool.and_eq_false_iff, decide_eq_true_eq, decide_eq_false_iff_not, Bool.or_eq_true, Bool.or_eq_false_iff, Bool.not_true, Bool.not_false, Bool.false_eq_true, false_iff, true_iff, bne_iff_ne, beq_iff_eq, ne_eq, iff_true, iff_false, not_and, not_or] at *
  all_goals omega
noncomputable def ginG : List AV → Option AV := ofRel fun args r => ∃ (n : Int), args = [I n] ∧ r = B (inR n)
@[go_sem] theorem ginG_eq (n : Int) : ginG [I n] = some (B (inR n)) :=
  ofRel_eq ⟨n, rfl, rfl⟩ (by rintro _ ⟨n', e, rfl⟩; simp at e; first | (obtain ⟨rfl⟩ := e; rfl) | (simp [e]))
theorem gin_good : Good cfg 21 ginG := fun args r h => by
  obtain ⟨_, rfl, rfl⟩ := ofRel_some h; exact ⟨gin_ok _, rfl⟩

theorem rin_ok (n : Int) : FnOk cfg 18 [I n] (B (inR n)) := by
  refine fnOk_eval [] good_nil mixed Tryd.func18 rfl rfl Tryd.ntmps18 (congrArg Array.toList Tryd.results18) (by simp) (by rfl) (by rfl) ?_
  simp only [go_sem, Nat.reduceAdd, Nat.reduceLT, Nat.reduceBEq, Nat.reduceEqDiff, reduceIte, reduceCtorEq, Nat.reduceLeDiff, Int.reduceEq, Int.reduceLT, Int.reduceLE, decide_true, decide_false, Int.reduceSub, Int.reduceAdd, Int.reduceMul, Int.reduceNeg, Int.reduceToNat, Nat.reduceMul, Nat.reduceSub, Int.cast_ofNat_Int, Int.reduceMod, Int.reduceDiv, Int.reduceTDiv, Int.reduceTMod]
  repeat' (first
    | ((with_reducible refine split_guard ?_ ?_) <;> intro hb <;> simp only [hb, go_sem, Nat.reduceAdd, Nat.reduceLT, Nat.reduceBEq, Nat.reduceEqDiff, reduceIte, reduceCtorEq, Nat.reduceLeDiff, Int.reduceEq, Int.reduceLT, Int.reduceLE, decide_true, decide_false, Int.reduceSub, Int.reduceAdd, Int.reduceMul, Int.reduceNeg, Int.reduceToNat, Nat.reduceMul, Nat.reduceSub, Int.cast_ofNat_Int, Int.reduceMod, Int.reduceDiv, Int.reduceTDiv, Int.reduceTMod])
    | ((with_reducible refine split_cond ?_ ?_) <;> intro hb <;> simp only [hb, go_sem, Nat.reduceAdd, Nat.reduceLT, Nat.reduceBEq, Nat.reduceEqDiff, reduceIte, reduceCtorEq, Nat.reduceLeDiff, Int.reduceEq, Int.reduceLT, Int.reduceLE, decide_true, decide_false, Int.reduceSub, Int.reduceAdd, Int.reduceMul, Int.reduceNeg, Int.reduceToNat, Nat.reduceMul, Nat.reduceSub, Int.cast_ofNat_Int, Int.reduceMod, Int.reduceDiv, Int.reduceTDiv, Int.reduceTMod])
    | ((with_reducible refine split_guardY ?_ ?_) <;> intro hb <;> simp only [hb, go_sem, Nat.reduceAdd, Nat.reduceLT, Nat.reduceBEq, Nat.reduceEqDiff, reduceIte, reduceCtorEq, Nat.reduceLeDiff, Int.reduceEq, Int.reduceLT, Int.reduceLE, decide_true, decide_false, Int.reduceSub, Int.reduceAdd, Int.reduceMul, Int.reduceNeg, Int.reduceToNat, Nat.reduceMul, Nat.reduceSub, Int.cast_ofNat_Int, Int.reduceMod, Int.reduceDiv, Int.reduceTDiv, Int.reduceTMod])
    | (with_reducible refine and_order (by kernel_rfl) (by kernel_rfl) ?_)
    | (with_reducible exact orderOk_of (by kernel_rfl) (by kernel_rfl))
    | (with_reducible refine and_nomen ?_ ?_)
    | (with_reducible refine nomen_p (by kernel_rfl) ?_)
    | (with_reducible refine nomen_s (by kernel_rfl) ?_)
    | (with_reducible refine nomen_p0 (by kernel_rfl) ?_)
    | (with_reducible exact nomen_i (by kernel_rfl))
    | (with_reducible refine And.intro (by first | assumption | omega | (simp only [Bool.not_eq_true', Bool.not_eq_false', Bool.and_eq_true, Bool.and_eq_false_iff, decide_eq_true_eq, decide_eq_false_iff_not, Bool.or_eq_true, Bool.or_eq_false_iff, Bool.not_true, Bool.not_false, Bool.false_eq_true, false_iff, true_iff, bne_iff_ne, beq_iff_eq, ne_eq, iff_true, iff_false, not_and, not_or] at *; omega)) ?_)
    | ((with_reducible refine le_put ?_ ?_) <;> (try simp only [go_sem, Nat.reduceAdd, Nat.reduceLT, Nat.reduceBEq, Nat.reduceEqDiff, reduceIte, reduceCtorEq, Nat.reduceLeDiff, Int.reduceEq, Int.reduceLT, Int.reduceLE, decide_true, decide_false, Int.reduceSub, Int.reduceAdd, Int.reduceMul, Int.reduceNeg, Int.reduceToNat, Nat.reduceMul, Nat.reduceSub, Int.cast_ofNat_Int, Int.reduceMod, Int.reduceDiv, Int.reduceTDiv, Int.reduceTMod]))
    | ((with_reducible refine le_box ?_ ?_) <;> (try simp only [go_sem, Nat.reduceAdd, Nat.reduceLT, Nat.reduceBEq, Nat.reduceEqDiff, reduceIte, reduceCtorEq, Nat.reduceLeDiff, Int.reduceEq, Int.reduceLT, Int.reduceLE, decide_true, decide_false, Int.reduceSub, Int.reduceAdd, Int.reduceMul, Int.reduceNeg, Int.reduceToNat, Nat.reduceMul, Nat.reduceSub, Int.cast_ofNat_Int, Int.reduceMod, Int.reduceDiv, Int.reduceTDiv, Int.reduceTMod]))
    | (with_reducible exact le_base rfl)
    | (with_reducible exact nomen_b))
  all_goals refine leafB ?_
  all_goals simp only [longY, inR, tmod_z, Bool.not_eq_true', Bool.not_eq_false', Bool.and_eq_true, Bool.and_eq_false_iff, decide_eq_true_eq, decide_eq_false_iff_not, Bool.or_eq_true, Bool.or_eq_false_iff, Bool.not_true, Bool.not_false, Bool.false_eq_true, false_iff, true_iff, bne_iff_ne, beq_iff_eq, ne_eq, iff_true, iff_false, not_and, not_or] at *
  all_goals omega
noncomputable def rinG : List AV → Option AV := ofRel fun args r => ∃ (n : Int), args = [I n] ∧ r = B (inR n)
@[go_sem] theorem rinG_eq (n : Int) : rinG [I n] = some (B (inR n)) :=
  ofRel_eq ⟨n, rfl, rfl⟩ (by rintro _ ⟨n', e, rfl⟩; simp at e; first | (obtain ⟨rfl⟩ := e; rfl) | (simp [e]))
theorem rin_good : Good cfg 18 rinG := fun args r h => by
  obtain ⟨_, rfl, rfl⟩ := ofRel_some h; exact ⟨rin_ok _, rfl⟩

theorem gvalid_ok (y : Int) (m : Int) (d : Int) : FnOk cfg 13 [D y m d] (B (dateOk y m d)) := by
  refine fnOk_eval [(11, glenG)] (good_cons glen_good good_nil) mixed Tryd.func13 rfl rfl Tryd.ntmps13 (congrArg Array.toList Tryd.results13) (by simp) (by rfl) (by rfl) ?_
  simp only [go_sem, Nat.reduceAdd, Nat.reduceLT, Nat.reduceBEq, Nat.reduceEqDiff, reduceIte, reduceCtorEq, Nat.reduceLeDiff, Int.reduceEq, Int.reduceLT, Int.reduceLE, decide_true, decide_false, Int.reduceSub, Int.reduceAdd, Int.reduceMul, Int.reduceNeg, Int.reduceToNat, Nat.reduceMul, Nat.reduceSub, Int.cast_ofNat_Int, Int.reduceMod, Int.reduceDiv, Int.reduceTDiv, Int.reduceTMod]
  repeat' (first
    | ((with_reducible refine split_guard ?_ ?_) <;> intro hb <;> simp only [hb, go_sem, Nat.reduceAdd, Nat.reduceLT, Nat.reduceBEq, Nat.reduceEqDiff, reduceIte, reduceCtorEq, Nat.reduceLeDiff, Int.reduceEq, Int.reduceLT, Int.reduceLE, decide_true, decide_false, Int.reduceSub, Int.reduceAdd, Int.reduceMul, Int.reduceNeg, Int.reduceToNat, Nat.reduceMul, Nat.reduceSub, Int.cast_ofNat_Int, Int.reduceMod, Int.reduceDiv, Int.reduceTDiv, Int.reduceTMod])
    | ((with_reducible refine split_cond ?_ ?_) <;> intro hb <;> simp only [hb, go_sem, Nat.reduceAdd, Nat.reduceLT, Nat.reduceBEq, Nat.reduceEqDiff, reduceIte, reduceCtorEq, Nat.reduceLeDiff, Int.reduceEq, Int.reduceLT, Int.reduceLE, decide_true, decide_false, Int.reduceSub, Int.reduceAdd, Int.reduceMul, Int.reduceNeg, Int.reduceToNat, Nat.reduceMul, Nat.reduceSub, Int.cast_ofNat_Int, Int.reduceMod, Int.reduceDiv, Int.reduceTDiv, Int.reduceTMod])
    | ((with_reducible refine split_guardY ?_ ?_) <;> intro hb <;> simp only [hb, go_sem, Nat.reduceAdd, Nat.reduceLT, Nat.reduceBEq, Nat.reduceEqDiff, reduceIte, reduceCtorEq, Nat.reduceLeDiff, Int.reduceEq, Int.reduceLT, Int.reduceLE, decide_true, decide_false, Int.reduceSub, Int.reduceAdd, Int.reduceMul, Int.reduceNeg, Int.reduceToNat, Nat.reduceMul, Nat.reduceSub, Int.cast_ofNat_Int, Int.reduceMod, Int.reduceDiv, Int.reduceTDiv, Int.reduceTMod])
    | (with_reducible refine and_order (by kernel_rfl) (by kernel_rfl) ?_)
    | (with_reducible exact orderOk_of (by kernel_rfl) (by kernel_rfl))
    | (with_reducible refine and_nomen ?_ ?_)
    | (with_reducible refine nomen_p (by kernel_rfl) ?_)
    | (with_reducible refine nomen_s (by kernel_rfl) ?_)
    | (with_reducible refine nomen_p0 (by kernel_rfl) ?_)
    | (with_reducible exact nomen_i (by kernel_rfl))
    | (with_reducible refine And.intro (by first | assumption | omega | (simp only [Bool.not_eq_true', Bool.not_eq_false', Bool.and_eq_true, Bool.and_eq_false_iff, decide_eq_true_eq, decide_eq_false_iff_not, Bool.or_eq_true, Bool.or_eq_false_iff, Bool.not_true, Bool.not_false, Bool.false_eq_true, false_iff, true_iff, bne_iff_ne, beq_iff_eq, ne_eq, iff_true, iff_false, not_and, not_or] at *; omega)) ?_)
    | ((with_reducible refine le_put ?_ ?_) <;> (try simp only [go_sem, Nat.reduceAdd, Nat.reduceLT, Nat.reduceBEq, Nat.reduceEqDiff, reduceIte, reduceCtorEq, Nat.reduceLeDiff, Int.reduceEq, Int.reduceLT, Int.reduceLE, decide_true, decide_false, Int.reduceSub, Int.reduceAdd, Int.reduceMul, Int.reduceNeg, Int.reduceToNat, Nat.reduceMul, Nat.reduceSub, Int.cast_ofNat_Int, Int.reduceMod, Int.reduceDiv, Int.reduceTDiv, Int.reduceTMod]))
    | ((with_reducible refine le_box ?_ ?_) <;> (try simp only [go_sem, Nat.reduceAdd, Nat.reduceLT, Nat.reduceBEq, Nat.reduceEqDiff, reduceIte, reduceCtorEq, Nat.reduceLeDiff, Int.reduceEq, Int.reduceLT, Int.reduceLE, decide_true, decide_false, Int.reduceSub, Int.reduceAdd, Int.reduceMul, Int.reduceNeg, Int.reduceToNat, Nat.reduceMul, Nat.reduceSub, Int.cast_ofNat_Int, Int.reduceMod, Int.reduceDiv, Int.reduceTDiv, Int.reduceTMod]))
    | (with_reducible exact le_base rfl)
    | (with_reducible exact nomen_b))
  all_goals refine leafB ?_
  all_goals simp only [dateOk, Bool.not_eq_true', Bool.not_eq_false', Bool.and_eq_true, Bool.and_eq_false_iff, decide_eq_true_eq, decide_eq_false_iff_not, Bool.or_eq_true, Bool.or_eq_false_iff, Bool.not_true, Bool.not_false, Bool.false_eq_true, false_iff, true_iff, bne_iff_ne, beq_iff_eq, ne_eq, iff_true, iff_false, not_and, not_or] at *
  all_goals omega
noncomputable def gvalidG : List AV → Option AV := ofRel fun args r => ∃ (y : Int) (m : Int) (d : Int), args = [D y m d] ∧ r = B (dateOk y m d)
@[go_sem] theorem gvalidG_eq (y : Int) (m : Int) (d : Int) : gvalidG [D y m d] = some (B (dateOk y m d)) :=
  ofRel_eq ⟨y, m, d, rfl, rfl⟩ (by rintro _ ⟨y', m', d', e, rfl⟩; simp at e; first | (obtain ⟨rfl, rfl, rfl⟩ := e; rfl) | (simp [e]))
theorem gvalid_good : Good cfg 13 gvalidG := fun args r h => by
  obtain ⟨_, _, _, rfl, rfl⟩ := ofRel_some h; exact ⟨gvalid_ok _ _ _, rfl⟩

theorem rvalid_ok (y : Int) (m : Int) (d : Int) : FnOk cfg 14 [D y m d] (B (dateOk y m d)) := by
  refine fnOk_eval [(12, rlenG)] (good_cons rlen_good good_nil) mixed Tryd.func14 rfl rfl Tryd.ntmps14 (congrArg Array.toList Tryd.results14) (by simp) (by rfl) (by rfl) ?_
  simp only [go_sem, Nat.reduceAdd, Nat.reduceLT, Nat.reduceBEq, Nat.reduceEqDiff, reduceIte, reduceCtorEq, Nat.reduceLeDiff, Int.reduceEq, Int.reduceLT, Int.reduceLE, decide_true, decide_false, Int.reduceSub, Int.reduceAdd, Int.reduceMul, Int.reduceNeg, Int.reduceToNat, Nat.reduceMul, Nat.reduceSub, Int.cast_ofNat_Int, Int.reduceMod, Int.reduceDiv, Int.reduceTDiv, Int.reduceTMod]
  repeat' (first
    | ((with_reducible refine split_guard ?_ ?_) <;> intro hb <;> simp only [hb, go_sem, Nat.reduceAdd, Nat.reduceLT, Nat.reduceBEq, Nat.reduceEqDiff, reduceIte, reduceCtorEq, Nat.reduceLeDiff, Int.reduceEq, Int.reduceLT, Int.reduceLE, decide_true, decide_false, Int.reduceSub, Int.reduceAdd, Int.reduceMul, Int.reduceNeg, Int.reduceToNat, Nat.reduceMul, Nat.reduceSub, Int.cast_ofNat_Int, Int.reduceMod, Int.reduceDiv, Int.reduceTDiv, Int.reduceTMod])
    | ((with_reducible refine split_cond ?_ ?_) <;> intro hb <;> simp only [hb, go_sem, Nat.reduceAdd, Nat.reduceLT, Nat.reduceBEq, Nat.reduceEqDiff, reduceIte, reduceCtorEq, Nat.reduceLeDiff, Int.reduceEq, Int.reduceLT, Int.reduceLE, decide_true, decide_false, Int.reduceSub, Int.reduceAdd, Int.reduceMul, Int.reduceNeg, Int.reduceToNat, Nat.reduceMul, Nat.reduceSub, Int.cast_ofNat_Int, Int.reduceMod, Int.reduceDiv, Int.reduceTDiv, Int.reduceTMod])
    | ((with_reducible refine split_guardY ?_ ?_) <;> intro hb <;> simp only [hb, go_sem, Nat.reduceAdd, Nat.reduceLT, Nat.reduceBEq, Nat.reduceEqDiff, reduceIte, reduceCtorEq, Nat.reduceLeDiff, Int.reduceEq, Int.reduceLT, Int.reduceLE, decide_true, decide_false, Int.reduceSub, Int.reduceAdd, Int.reduceMul, Int.reduceNeg, Int.reduceToNat, Nat.reduceMul, Nat.reduceSub, Int.cast_ofNat_Int, Int.reduceMod, Int.reduceDiv, Int.reduceTDiv, Int.reduceTMod])
    | (with_reducible refine and_order (by kernel_rfl) (by kernel_rfl) ?_)
    | (with_reducible exact orderOk_of (by kernel_rfl) (by kernel_rfl))
    | (with_reducible refine and_nomen ?_ ?_)
    | (with_reducible refine nomen_p (by kernel_rfl) ?_)
    | (with_reducible refine nomen_s (by kernel_rfl) ?_)
    | (with_reducible refine nomen_p0 (by kernel_rfl) ?_)
    | (with_reducible exact nomen_i (by kernel_rfl))
    | (with_reducible refine And.intro (by first | assumption | omega | (simp only [Bool.not_eq_true', Bool.not_eq_false', Bool.and_eq_true, Bool.and_eq_false_iff, decide_eq_true_eq, decide_eq_false_iff_not, Bool.or_eq_true, Bool.or_eq_false_iff, Bool.not_true, Bool.not_false, Bool.false_eq_true, false_iff, true_iff, bne_iff_ne, beq_iff_eq, ne_eq, iff_true, iff_false, not_and, not_or] at *; omega)) ?_)
    | ((with_reducible refine le_put ?_ ?_) <;> (try simp only [go_sem, Nat.reduceAdd, Nat.reduceLT, Nat.reduceBEq, Nat.reduceEqDiff, reduceIte, reduceCtorEq, Nat.reduceLeDiff, Int.reduceEq, Int.reduceLT, Int.reduceLE, decide_true, decide_false, Int.reduceSub, Int.reduceAdd, Int.reduceMul, Int.reduceNeg, Int.reduceToNat, Nat.reduceMul, Nat.reduceSub, Int.cast_ofNat_Int, Int.reduceMod, Int.reduceDiv, Int.reduceTDiv, Int.reduceTMod]))
    | ((with_reducible refine le_box ?_ ?_) <;> (try simp only [go_sem, Nat.reduceAdd, Nat.reduceLT, Nat.reduceBEq, Nat.reduceEqDiff, reduceIte, reduceCtorEq, Nat.reduceLeDiff, Int.reduceEq, Int.reduceLT, Int.reduceLE, decide_true, decide_false, Int.reduceSub, Int.reduceAdd, Int.reduceMul, Int.reduceNeg, Int.reduceToNat, Nat.reduceMul, Nat.reduceSub, Int.cast_ofNat_Int, Int.reduceMod, Int.reduceDiv, Int.reduceTDiv, Int.reduceTMod]))
    | (with_reducible exact le_base rfl)
    | (with_reducible exact nomen_b))
  all_goals refine leafB ?_
  all_goals simp only [dateOk, Bool.not_eq_true', Bool.not_eq_false', Bool.and_eq_true, Bool.and_eq_false_iff, decide_eq_true_eq, decide_eq_false_iff_not, Bool.or_eq_true, Bool.or_eq_false_iff, Bool.not_true, Bool.not_false, Bool.false_eq_true, false_iff, true_iff, bne_iff_ne, beq_iff_eq, ne_eq, iff_true, iff_false, not_and, not_or] at *
  all_goals omega
noncomputable def rvalidG : List AV → Option AV := ofRel fun args r => ∃ (y : Int) (m : Int) (d : Int), args = [D y m d] ∧ r = B (dateOk y m d)
@[go_sem] theorem rvalidG_eq (y : Int) (m : Int) (d : Int) : rvalidG [D y m d] = some (B (dateOk y m d)) :=
  ofRel_eq ⟨y, m, d, rfl, rfl⟩ (by rintro _ ⟨y', m', d', e, rfl⟩; simp at e; first | (obtain ⟨rfl, rfl, rfl⟩ := e; rfl) | (simp [e]))
theorem rvalid_good : Good cfg 14 rvalidG := fun args r h => by
  obtain ⟨_, _, _, rfl, rfl⟩ := ofRel_some h; exact ⟨rvalid_ok _ _ _, rfl⟩


/-- The first day of a year. -/
def firstY (y : Int) : Int := 365 * y + (y + 3) / 4 - (y + 99) / 100 + (y + 399) / 400 - 678941
def firstW (y : Int) : Int := IntKind.i64.wrap (IntKind.i64.wrap (IntKind.i64.wrap (IntKind.i64.wrap (IntKind.i64.wrap (365 * y) + rfW (IntKind.i64.wrap (y + 3)) 4) - rfW (IntKind.i64.wrap (y + 99)) 100) + rfW (IntKind.i64.wrap (y + 399)) 400) - 678941)
theorem firstW_eq (y : Int) (h : -1000000000000 ≤ y ∧ y ≤ 1000000000000) : firstW y = firstY y := by
  simp (disch := omega) only [firstW, firstY, i64_in', rfW_eq]
/-- A date's day, by greg; and the error. -/
def dayX (y m d : Int) : Int := y / 400 * 146097 + (y - y / 400 * 400) * 365 + (y - y / 400 * 400) / 4 - (y - y / 400 * 400) / 100 + (153 * m + 2) / 5 + d - 1 - 678881
def dayM (y m d : Int) : Int := if m < 3 then dayX (y - 1) (m - 3 + 12) d else dayX y (m - 3) d
def dayE (y m d : Int) : Int := if dateOk y m d = false then 5 else if y < -4000000000 ∨ 4000000000 < y then 2 else if inR (dayM y m d) = false then 2 else 0
def dayN (y m d : Int) : Int := if dayE y m d = 0 then dayM y m d else 0
theorem dateOk_m {y m d : Int} (h : dateOk y m d = true) : 1 ≤ m ∧ m ≤ 12 ∧ 1 ≤ d ∧ d ≤ 31 := by
  rw [dateOk, decide_eq_true_eq, lenM] at h
  by_cases h1 : m < 1 ∨ 12 < m
  · rw [if_pos h1] at h; omega
  · rw [if_neg h1] at h
    have : (if m = 2 then (if longY y = true then 29 else 28) else if m = 4 ∨ m = 6 ∨ m = 9 ∨ m = 11 then 30 else (31 : Int)) ≤ 31 := by
      repeat' split
      all_goals omega
    omega
theorem and_I {a b c e : Int} {k k' : IntKind} (h1 : a = b) (h2 : c = e) : AV.c (.lit (.int k a)) = .c (.lit (.int k b)) ∧ AV.c (.lit (.int k' c)) = .c (.lit (.int k' e)) := by rw [h1, h2]; exact ⟨rfl, rfl⟩
theorem first_ok (y : Int) : FnOk cfg 22 [I y] (I (firstW y)) := by
  refine fnOk_eval [(23, rfloorG)] (good_cons rfloor_good good_nil) mixed Tryd.func22 rfl rfl Tryd.ntmps22 (congrArg Array.toList Tryd.results22) (by simp) (by rfl) (by rfl) ?_
  simp only [go_sem, Nat.reduceAdd, Nat.reduceLT, Nat.reduceBEq, Nat.reduceEqDiff, reduceIte, reduceCtorEq, Nat.reduceLeDiff, Int.reduceEq, Int.reduceLT, Int.reduceLE, decide_true, decide_false, Int.reduceSub, Int.reduceAdd, Int.reduceMul, Int.reduceNeg, Int.reduceToNat, Nat.reduceMul, Nat.reduceSub, Int.cast_ofNat_Int, Int.reduceMod, Int.reduceDiv, Int.reduceTDiv, Int.reduceTMod]
  repeat' (first
    | ((with_reducible refine split_guard ?_ ?_) <;> intro hb <;> simp only [hb, go_sem, Nat.reduceAdd, Nat.reduceLT, Nat.reduceBEq, Nat.reduceEqDiff, reduceIte, reduceCtorEq, Nat.reduceLeDiff, Int.reduceEq, Int.reduceLT, Int.reduceLE, decide_true, decide_false, Int.reduceSub, Int.reduceAdd, Int.reduceMul, Int.reduceNeg, Int.reduceToNat, Nat.reduceMul, Nat.reduceSub, Int.cast_ofNat_Int, Int.reduceMod, Int.reduceDiv, Int.reduceTDiv, Int.reduceTMod])
    | ((with_reducible refine split_cond ?_ ?_) <;> intro hb <;> simp only [hb, go_sem, Nat.reduceAdd, Nat.reduceLT, Nat.reduceBEq, Nat.reduceEqDiff, reduceIte, reduceCtorEq, Nat.reduceLeDiff, Int.reduceEq, Int.reduceLT, Int.reduceLE, decide_true, decide_false, Int.reduceSub, Int.reduceAdd, Int.reduceMul, Int.reduceNeg, Int.reduceToNat, Nat.reduceMul, Nat.reduceSub, Int.cast_ofNat_Int, Int.reduceMod, Int.reduceDiv, Int.reduceTDiv, Int.reduceTMod])
    | ((with_reducible refine split_guardY ?_ ?_) <;> intro hb <;> simp only [hb, go_sem, Nat.reduceAdd, Nat.reduceLT, Nat.reduceBEq, Nat.reduceEqDiff, reduceIte, reduceCtorEq, Nat.reduceLeDiff, Int.reduceEq, Int.reduceLT, Int.reduceLE, decide_true, decide_false, Int.reduceSub, Int.reduceAdd, Int.reduceMul, Int.reduceNeg, Int.reduceToNat, Nat.reduceMul, Nat.reduceSub, Int.cast_ofNat_Int, Int.reduceMod, Int.reduceDiv, Int.reduceTDiv, Int.reduceTMod])
    | (with_reducible refine and_order (by kernel_rfl) (by kernel_rfl) ?_)
    | (with_reducible exact orderOk_of (by kernel_rfl) (by kernel_rfl))
    | (with_reducible refine and_nomen ?_ ?_)
    | (with_reducible refine nomen_p (by kernel_rfl) ?_)
    | (with_reducible refine nomen_s (by kernel_rfl) ?_)
    | (with_reducible refine nomen_p0 (by kernel_rfl) ?_)
    | (with_reducible exact nomen_i (by kernel_rfl))
    | (with_reducible refine And.intro (by first | assumption | omega | (simp only [Bool.not_eq_true', Bool.not_eq_false', Bool.and_eq_true, Bool.and_eq_false_iff, decide_eq_true_eq, decide_eq_false_iff_not, Bool.or_eq_true, Bool.or_eq_false_iff, Bool.not_true, Bool.not_false, Bool.false_eq_true, false_iff, true_iff, bne_iff_ne, beq_iff_eq, ne_eq, iff_true, iff_false, not_and, not_or] at *; omega)) ?_)
    | ((with_reducible refine le_put ?_ ?_) <;> (try simp only [go_sem, Nat.reduceAdd, Nat.reduceLT, Nat.reduceBEq, Nat.reduceEqDiff, reduceIte, reduceCtorEq, Nat.reduceLeDiff, Int.reduceEq, Int.reduceLT, Int.reduceLE, decide_true, decide_false, Int.reduceSub, Int.reduceAdd, Int.reduceMul, Int.reduceNeg, Int.reduceToNat, Nat.reduceMul, Nat.reduceSub, Int.cast_ofNat_Int, Int.reduceMod, Int.reduceDiv, Int.reduceTDiv, Int.reduceTMod]))
    | ((with_reducible refine le_box ?_ ?_) <;> (try simp only [go_sem, Nat.reduceAdd, Nat.reduceLT, Nat.reduceBEq, Nat.reduceEqDiff, reduceIte, reduceCtorEq, Nat.reduceLeDiff, Int.reduceEq, Int.reduceLT, Int.reduceLE, decide_true, decide_false, Int.reduceSub, Int.reduceAdd, Int.reduceMul, Int.reduceNeg, Int.reduceToNat, Nat.reduceMul, Nat.reduceSub, Int.cast_ofNat_Int, Int.reduceMod, Int.reduceDiv, Int.reduceTDiv, Int.reduceTMod]))
    | (with_reducible exact le_base rfl)
    | (with_reducible exact nomen_b))
  all_goals rfl
noncomputable def firstG : List AV → Option AV := ofRel fun args r => ∃ (y : Int), args = [I y] ∧ r = I (firstW y)
@[go_sem] theorem firstG_eq (y : Int) : firstG [I y] = some (I (firstW y)) :=
  ofRel_eq ⟨y, rfl, rfl⟩ (by rintro _ ⟨y', e, rfl⟩; simp at e; first | (obtain ⟨rfl⟩ := e; rfl) | (simp [e]))
theorem first_good : Good cfg 22 firstG := fun args r h => by
  obtain ⟨_, rfl, rfl⟩ := ofRel_some h; exact ⟨first_ok _, rfl⟩

theorem gday_ok (y : Int) (m : Int) (d : Int) : FnOk cfg 15 [D y m d] (.tup [I (dayN y m d), I (dayE y m d)]) := by
  refine fnOk_eval [(13, gvalidG), (20, floorG), (21, ginG)] (good_cons gvalid_good (good_cons floor_good (good_cons gin_good good_nil))) mixed Tryd.func15 rfl rfl Tryd.ntmps15 (congrArg Array.toList Tryd.results15) (by simp) (by rfl) (by rfl) ?_
  simp only [go_sem, Nat.reduceAdd, Nat.reduceLT, Nat.reduceBEq, Nat.reduceEqDiff, reduceIte, reduceCtorEq, Nat.reduceLeDiff, Int.reduceEq, Int.reduceLT, Int.reduceLE, decide_true, decide_false, Int.reduceSub, Int.reduceAdd, Int.reduceMul, Int.reduceNeg, Int.reduceToNat, Nat.reduceMul, Nat.reduceSub, Int.cast_ofNat_Int, Int.reduceMod, Int.reduceDiv, Int.reduceTDiv, Int.reduceTMod]
  repeat' (first
    | ((with_reducible refine split_guard ?_ ?_) <;> intro hb <;> simp only [hb, go_sem, Nat.reduceAdd, Nat.reduceLT, Nat.reduceBEq, Nat.reduceEqDiff, reduceIte, reduceCtorEq, Nat.reduceLeDiff, Int.reduceEq, Int.reduceLT, Int.reduceLE, decide_true, decide_false, Int.reduceSub, Int.reduceAdd, Int.reduceMul, Int.reduceNeg, Int.reduceToNat, Nat.reduceMul, Nat.reduceSub, Int.cast_ofNat_Int, Int.reduceMod, Int.reduceDiv, Int.reduceTDiv, Int.reduceTMod])
    | ((with_reducible refine split_cond ?_ ?_) <;> intro hb <;> simp only [hb, go_sem, Nat.reduceAdd, Nat.reduceLT, Nat.reduceBEq, Nat.reduceEqDiff, reduceIte, reduceCtorEq, Nat.reduceLeDiff, Int.reduceEq, Int.reduceLT, Int.reduceLE, decide_true, decide_false, Int.reduceSub, Int.reduceAdd, Int.reduceMul, Int.reduceNeg, Int.reduceToNat, Nat.reduceMul, Nat.reduceSub, Int.cast_ofNat_Int, Int.reduceMod, Int.reduceDiv, Int.reduceTDiv, Int.reduceTMod])
    | ((with_reducible refine split_guardY ?_ ?_) <;> intro hb <;> simp only [hb, go_sem, Nat.reduceAdd, Nat.reduceLT, Nat.reduceBEq, Nat.reduceEqDiff, reduceIte, reduceCtorEq, Nat.reduceLeDiff, Int.reduceEq, Int.reduceLT, Int.reduceLE, decide_true, decide_false, Int.reduceSub, Int.reduceAdd, Int.reduceMul, Int.reduceNeg, Int.reduceToNat, Nat.reduceMul, Nat.reduceSub, Int.cast_ofNat_Int, Int.reduceMod, Int.reduceDiv, Int.reduceTDiv, Int.reduceTMod])
    | (with_reducible refine and_order (by kernel_rfl) (by kernel_rfl) ?_)
    | (with_reducible exact orderOk_of (by kernel_rfl) (by kernel_rfl))
    | (with_reducible refine and_nomen ?_ ?_)
    | (with_reducible refine nomen_p (by kernel_rfl) ?_)
    | (with_reducible refine nomen_s (by kernel_rfl) ?_)
    | (with_reducible refine nomen_p0 (by kernel_rfl) ?_)
    | (with_reducible exact nomen_i (by kernel_rfl))
    | (with_reducible refine And.intro (by first | assumption | omega | (simp only [Bool.not_eq_true', Bool.not_eq_false', Bool.and_eq_true, Bool.and_eq_false_iff, decide_eq_true_eq, decide_eq_false_iff_not, Bool.or_eq_true, Bool.or_eq_false_iff, Bool.not_true, Bool.not_false, Bool.false_eq_true, false_iff, true_iff, bne_iff_ne, beq_iff_eq, ne_eq, iff_true, iff_false, not_and, not_or] at *; omega)) ?_)
    | ((with_reducible refine le_put ?_ ?_) <;> (try simp only [go_sem, Nat.reduceAdd, Nat.reduceLT, Nat.reduceBEq, Nat.reduceEqDiff, reduceIte, reduceCtorEq, Nat.reduceLeDiff, Int.reduceEq, Int.reduceLT, Int.reduceLE, decide_true, decide_false, Int.reduceSub, Int.reduceAdd, Int.reduceMul, Int.reduceNeg, Int.reduceToNat, Nat.reduceMul, Nat.reduceSub, Int.cast_ofNat_Int, Int.reduceMod, Int.reduceDiv, Int.reduceTDiv, Int.reduceTMod]))
    | ((with_reducible refine le_box ?_ ?_) <;> (try simp only [go_sem, Nat.reduceAdd, Nat.reduceLT, Nat.reduceBEq, Nat.reduceEqDiff, reduceIte, reduceCtorEq, Nat.reduceLeDiff, Int.reduceEq, Int.reduceLT, Int.reduceLE, decide_true, decide_false, Int.reduceSub, Int.reduceAdd, Int.reduceMul, Int.reduceNeg, Int.reduceToNat, Nat.reduceMul, Nat.reduceSub, Int.cast_ofNat_Int, Int.reduceMod, Int.reduceDiv, Int.reduceTDiv, Int.reduceTMod]))
    | (with_reducible exact le_base rfl)
    | (with_reducible exact nomen_b))
  all_goals refine and_I ?_ ?_
  all_goals simp only [Bool.not_eq_true', Bool.not_eq_false', Bool.and_eq_true, Bool.and_eq_false_iff, decide_eq_true_eq, decide_eq_false_iff_not, Bool.or_eq_true, Bool.or_eq_false_iff, Bool.not_true, Bool.not_false, Bool.false_eq_true, false_iff, true_iff, bne_iff_ne, beq_iff_eq, ne_eq, iff_true, iff_false, not_and, not_or] at *
  all_goals first
    | (simp [dayE, dayN, *]; done)
    | (have hm := dateOk_m (y := y) (m := m) (d := d) (by assumption)
       have hw : IntKind.i64.wrap (m - 3) = m - 3 := i64_in' _ (by omega)
       simp (disch := omega) only [hw, i64_in', floorW_eq, tdiv_nn] at *
       by_cases h3 : m < 3
       · first | (exfalso; omega) | (simp [dayE, dayN, dayM, dayX, *]; done) | (simp [dayE, dayN, dayM, dayX, *]; omega)
       · first | (exfalso; omega) | (simp [dayE, dayN, dayM, dayX, *]; done) | (simp [dayE, dayN, dayM, dayX, *]; omega))
noncomputable def gdayG : List AV → Option AV := ofRel fun args r => ∃ (y : Int) (m : Int) (d : Int), args = [D y m d] ∧ r = .tup [I (dayN y m d), I (dayE y m d)]
@[go_sem] theorem gdayG_eq (y : Int) (m : Int) (d : Int) : gdayG [D y m d] = some (.tup [I (dayN y m d), I (dayE y m d)]) :=
  ofRel_eq ⟨y, m, d, rfl, rfl⟩ (by rintro _ ⟨y', m', d', e, rfl⟩; simp at e; first | (obtain ⟨rfl, rfl, rfl⟩ := e; rfl) | (simp [e]))
theorem gday_good : Good cfg 15 gdayG := fun args r h => by
  obtain ⟨_, _, _, rfl, rfl⟩ := ofRel_some h; exact ⟨gday_ok _ _ _, rfl⟩


/-- The days of a year's months ahead of the k-th. -/
def sumL (y k : Int) : Int := (if k ≤ 1 then 0 else if k = 2 then 31 else if k = 3 then 59 else if k = 4 then 90 else if k = 5 then 120 else if k = 6 then 151 else if k = 7 then 181 else if k = 8 then 212 else if k = 9 then 243 else if k = 10 then 273 else if k = 11 then 304 else 334) + (if 2 < k ∧ longY y = true then 1 else 0)
theorem sumL_next (y k : Int) (h : 1 ≤ k ∧ k < 12) : sumL y (k + 1) = sumL y k + lenM y k := by
  have hm : k = 1 ∨ k = 2 ∨ k = 3 ∨ k = 4 ∨ k = 5 ∨ k = 6 ∨ k = 7 ∨ k = 8 ∨ k = 9 ∨ k = 10 ∨ k = 11 := by omega
  cases hl : longY y <;> rcases hm with rfl | rfl | rfl | rfl | rfl | rfl | rfl | rfl | rfl | rfl | rfl <;> simp [sumL, lenM, hl]
theorem sumL_in (y k : Int) : 0 ≤ sumL y k ∧ sumL y k ≤ 335 := by
  unfold sumL
  repeat' split
  all_goals omega
theorem lenM_in (y k : Int) : 0 ≤ lenM y k ∧ lenM y k ≤ 31 := by
  unfold lenM
  repeat' split
  all_goals omega
theorem sumL_one (y : Int) : sumL y 1 = 0 := by simp [sumL]
/-- A date's day, by the reference. -/
def rdayM (y m d : Int) : Int := firstY y + d - 1 + sumL y m
def rdayE (y m d : Int) : Int := if dateOk y m d = false then 5 else if y < -8589934592 ∨ 8589934592 < y then 2 else if inR (rdayM y m d) = false then 2 else 0
def rdayN (y m d : Int) : Int := if rdayE y m d = 0 then rdayM y m d else 0
theorem firstY_in {y : Int} (h : -100000000000 ≤ y ∧ y ≤ 100000000000) : -50000000000000 ≤ firstY y ∧ firstY y ≤ 50000000000000 := by unfold firstY; omega

theorem rday_ok (y : Int) (m : Int) (d : Int) : FnOk cfg 16 [D y m d] (.tup [I (rdayN y m d), I (rdayE y m d)]) := by
  refine fnOk_eval [(14, rvalidG), (22, firstG), (12, rlenG), (18, rinG)] (good_cons rvalid_good (good_cons first_good (good_cons rlen_good (good_cons rin_good good_nil)))) mixed Tryd.func16 rfl rfl Tryd.ntmps16 (congrArg Array.toList Tryd.results16) (by simp) (by rfl) (by rfl) ?_
  simp only [go_sem, Nat.reduceAdd, Nat.reduceLT, Nat.reduceBEq, Nat.reduceEqDiff, reduceIte, reduceCtorEq, Nat.reduceLeDiff, Int.reduceEq, Int.reduceLT, Int.reduceLE, decide_true, decide_false, Int.reduceSub, Int.reduceAdd, Int.reduceMul, Int.reduceNeg, Int.reduceToNat, Nat.reduceMul, Nat.reduceSub, Int.cast_ofNat_Int, Int.reduceMod, Int.reduceDiv, Int.reduceTDiv, Int.reduceTMod]
  repeat' (first
    | ((with_reducible refine split_guard ?_ ?_) <;> intro hb <;> simp only [hb, go_sem, Nat.reduceAdd, Nat.reduceLT, Nat.reduceBEq, Nat.reduceEqDiff, reduceIte, reduceCtorEq, Nat.reduceLeDiff, Int.reduceEq, Int.reduceLT, Int.reduceLE, decide_true, decide_false, Int.reduceSub, Int.reduceAdd, Int.reduceMul, Int.reduceNeg, Int.reduceToNat, Nat.reduceMul, Nat.reduceSub, Int.cast_ofNat_Int, Int.reduceMod, Int.reduceDiv, Int.reduceTDiv, Int.reduceTMod])
    | ((with_reducible refine split_cond ?_ ?_) <;> intro hb <;> simp only [hb, go_sem, Nat.reduceAdd, Nat.reduceLT, Nat.reduceBEq, Nat.reduceEqDiff, reduceIte, reduceCtorEq, Nat.reduceLeDiff, Int.reduceEq, Int.reduceLT, Int.reduceLE, decide_true, decide_false, Int.reduceSub, Int.reduceAdd, Int.reduceMul, Int.reduceNeg, Int.reduceToNat, Nat.reduceMul, Nat.reduceSub, Int.cast_ofNat_Int, Int.reduceMod, Int.reduceDiv, Int.reduceTDiv, Int.reduceTMod])
    | ((with_reducible refine split_guardY ?_ ?_) <;> intro hb <;> simp only [hb, go_sem, Nat.reduceAdd, Nat.reduceLT, Nat.reduceBEq, Nat.reduceEqDiff, reduceIte, reduceCtorEq, Nat.reduceLeDiff, Int.reduceEq, Int.reduceLT, Int.reduceLE, decide_true, decide_false, Int.reduceSub, Int.reduceAdd, Int.reduceMul, Int.reduceNeg, Int.reduceToNat, Nat.reduceMul, Nat.reduceSub, Int.cast_ofNat_Int, Int.reduceMod, Int.reduceDiv, Int.reduceTDiv, Int.reduceTMod])
    | (with_reducible refine and_order (by kernel_rfl) (by kernel_rfl) ?_)
    | (with_reducible exact orderOk_of (by kernel_rfl) (by kernel_rfl))
    | (with_reducible refine and_nomen ?_ ?_)
    | (with_reducible refine nomen_p (by kernel_rfl) ?_)
    | (with_reducible refine nomen_s (by kernel_rfl) ?_)
    | (with_reducible refine nomen_p0 (by kernel_rfl) ?_)
    | (with_reducible exact nomen_i (by kernel_rfl))
    | (with_reducible refine And.intro (by first | assumption | omega | (simp only [Bool.not_eq_true', Bool.not_eq_false', Bool.and_eq_true, Bool.and_eq_false_iff, decide_eq_true_eq, decide_eq_false_iff_not, Bool.or_eq_true, Bool.or_eq_false_iff, Bool.not_true, Bool.not_false, Bool.false_eq_true, false_iff, true_iff, bne_iff_ne, beq_iff_eq, ne_eq, iff_true, iff_false, not_and, not_or] at *; omega)) ?_)
    | ((with_reducible refine le_put ?_ ?_) <;> (try simp only [go_sem, Nat.reduceAdd, Nat.reduceLT, Nat.reduceBEq, Nat.reduceEqDiff, reduceIte, reduceCtorEq, Nat.reduceLeDiff, Int.reduceEq, Int.reduceLT, Int.reduceLE, decide_true, decide_false, Int.reduceSub, Int.reduceAdd, Int.reduceMul, Int.reduceNeg, Int.reduceToNat, Nat.reduceMul, Nat.reduceSub, Int.cast_ofNat_Int, Int.reduceMod, Int.reduceDiv, Int.reduceTDiv, Int.reduceTMod]))
    | ((with_reducible refine le_box ?_ ?_) <;> (try simp only [go_sem, Nat.reduceAdd, Nat.reduceLT, Nat.reduceBEq, Nat.reduceEqDiff, reduceIte, reduceCtorEq, Nat.reduceLeDiff, Int.reduceEq, Int.reduceLT, Int.reduceLE, decide_true, decide_false, Int.reduceSub, Int.reduceAdd, Int.reduceMul, Int.reduceNeg, Int.reduceToNat, Nat.reduceMul, Nat.reduceSub, Int.cast_ofNat_Int, Int.reduceMod, Int.reduceDiv, Int.reduceTDiv, Int.reduceTMod]))
    | (with_reducible exact le_base rfl)
    | ((with_reducible refine loop_rule (α := Int) (fun k => ((((baseSt 40).setB 1 (some ⟨[.lit (.int .i64 y), .lit (.int .i64 m), .lit (.int .i64 d)], 0, false, false⟩)).put (some 1) (.c (.ptr 1 0))).put (some 4) (I (firstY y + d - 1 + sumL y k))).put (some 5) (I k)) (fun k => 1 ≤ k ∧ k ≤ m) (fun k => (m - k).toNat) 1 ?_ ?_ ?_) <;> (try dsimp only))
    | (intro k hk; simp only [go_sem, Nat.reduceAdd, Nat.reduceLT, Nat.reduceBEq, Nat.reduceEqDiff, reduceIte, reduceCtorEq, Nat.reduceLeDiff, Int.reduceEq, Int.reduceLT, Int.reduceLE, decide_true, decide_false, Int.reduceSub, Int.reduceAdd, Int.reduceMul, Int.reduceNeg, Int.reduceToNat, Nat.reduceMul, Nat.reduceSub, Int.cast_ofNat_Int, Int.reduceMod, Int.reduceDiv, Int.reduceTDiv, Int.reduceTMod])
    | ((with_reducible refine again_of (k + 1) ?_ ?_ ?_) <;> (try dsimp only))
    | (with_reducible exact nomen_b))
  all_goals simp only [Bool.not_eq_true', Bool.not_eq_false', Bool.and_eq_true, Bool.and_eq_false_iff, decide_eq_true_eq, decide_eq_false_iff_not, Bool.or_eq_true, Bool.or_eq_false_iff, Bool.not_true, Bool.not_false, Bool.false_eq_true, false_iff, true_iff, bne_iff_ne, beq_iff_eq, ne_eq, iff_true, iff_false, not_and, not_or] at *
  all_goals first
    | (refine and_I ?_ ?_ <;> simp [rdayE, rdayN, *]; done)
    | (have hm := dateOk_m (y := y) (m := m) (d := d) (by assumption)
       have hf := firstY_in (y := y) (by omega)
       first
         | omega
         | (refine leafI ?_; rw [firstW_eq y (by omega), sumL_one]; simp (disch := omega) only [i64_in']; omega)
         | (refine leafI ?_; exact i64_in' _ (by omega))
         | (have hs := sumL_in y k; have hl := lenM_in y k; refine leafI ?_; rw [sumL_next y k (by omega), i64_in' _ (by omega)]; omega)
         | (obtain rfl : k = m := by omega
            refine and_I ?_ ?_ <;> simp [rdayE, rdayN, rdayM, *] <;> omega))
noncomputable def rdayG : List AV → Option AV := ofRel fun args r => ∃ (y : Int) (m : Int) (d : Int), args = [D y m d] ∧ r = .tup [I (rdayN y m d), I (rdayE y m d)]
@[go_sem] theorem rdayG_eq (y : Int) (m : Int) (d : Int) : rdayG [D y m d] = some (.tup [I (rdayN y m d), I (rdayE y m d)]) :=
  ofRel_eq ⟨y, m, d, rfl, rfl⟩ (by rintro _ ⟨y', m', d', e, rfl⟩; simp at e; first | (obtain ⟨rfl, rfl, rfl⟩ := e; rfl) | (simp [e]))
theorem rday_good : Good cfg 16 rdayG := fun args r h => by
  obtain ⟨_, _, _, rfl, rfl⟩ := ofRel_some h; exact ⟨rday_ok _ _ _, rfl⟩

end Go.Proofs.YtnhdfmnmciminaaDoor
