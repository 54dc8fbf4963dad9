/-
  The contracts of the functions of layer 6 (face), of its reference, and of its laws.
-/
import Derived.Test.YtnhdfmnmciminaaTy
import Derived.Test.YtnhdfmnmciminaaEvTop
import Derived.IntWalk
namespace Go.Proofs.Ytnhdfmnmciminaa
open Go Go.Ev
set_option linter.unusedSimpArgs false
set_option linter.unusedVariables false
set_option maxRecDepth 10000
set_option maxHeartbeats 2000000
@[go_sem] abbrev I (n : Int) : AV := .c (.lit (.int .i64 n))
@[go_sem] abbrev B (b : Bool) : AV := .c (.lit (.bool b))
@[go_sem] abbrev S (h m s a : Int) : AV := .agg [.lit (.int .i64 h), .lit (.int .i64 m), .lit (.int .i64 s), .lit (.int .i64 a)]
/-- Is n an int? -/
def W64 (n : Int) : Prop := -9223372036854775808 ≤ n ∧ n ≤ 9223372036854775807
theorem leafB {a b : Bool} (h : a = true ↔ b = true) : AV.c (.lit (.bool a)) = .c (.lit (.bool b)) := by rw [Bool.eq_iff_iff.2 h]
/-- Is there such a time of day? -/
def validT (h m s a : Int) : Bool := decide (0 ≤ h ∧ h < 24 ∧ 0 ≤ m ∧ m < 60 ∧ 0 ≤ a ∧ a < 1000000000000000000 ∧ (0 ≤ s ∧ s < 60 ∨ s = 60 ∧ h = 23 ∧ m = 59))
/-- The minute's begin, in int's arithmetic. -/
def startT (h m : Int) : Int := IntKind.i64.wrap (IntKind.i64.wrap (h * 3600) + IntKind.i64.wrap (m * 60))
theorem startT_eq {h m : Int} (h1 : 0 ≤ h ∧ h < 24) (h2 : 0 ≤ m ∧ m < 60) : startT h m = h * 3600 + m * 60 := by
  rw [startT, IntWalk.i64_in (h * 3600) (by omega), IntWalk.i64_in (m * 60) (by omega), IntWalk.i64_in _ (by omega)]

theorem within_ok (a : Int) (b : Int) : FnOk cfg 17 [I a, I b] (B (decide (0 ≤ a) && decide (a < b))) := by
  refine fnOk_eval [] good_nil mixed Try.func17 rfl rfl Try.ntmps17 (congrArg Array.toList Try.results17) (by simp) (by rfl) (by rfl) ?_
  simp only [go_sem, Nat.reduceAdd, Nat.reduceLT, Nat.reduceBEq, Nat.reduceEqDiff, reduceIte, reduceCtorEq, Nat.reduceLeDiff, Int.reduceEq, Int.reduceLT, Int.reduceLE, decide_true, decide_false]
  repeat' (first
    | ((with_reducible refine split_guard ?_ ?_) <;> intro hb <;> simp only [hb, go_sem, Nat.reduceAdd, Nat.reduceLT, Nat.reduceBEq, Nat.reduceEqDiff, reduceIte, reduceCtorEq, Nat.reduceLeDiff, Int.reduceEq, Int.reduceLT, Int.reduceLE, decide_true, decide_false])
    | ((with_reducible refine split_cond ?_ ?_) <;> intro hb <;> simp only [hb, go_sem, Nat.reduceAdd, Nat.reduceLT, Nat.reduceBEq, Nat.reduceEqDiff, reduceIte, reduceCtorEq, Nat.reduceLeDiff, Int.reduceEq, Int.reduceLT, Int.reduceLE, decide_true, decide_false])
    | ((with_reducible refine split_guardY ?_ ?_) <;> intro hb <;> simp only [hb, go_sem, Nat.reduceAdd, Nat.reduceLT, Nat.reduceBEq, Nat.reduceEqDiff, reduceIte, reduceCtorEq, Nat.reduceLeDiff, Int.reduceEq, Int.reduceLT, Int.reduceLE, decide_true, decide_false])
    | (with_reducible refine and_order (by kernel_rfl) (by kernel_rfl) ?_)
    | (with_reducible exact orderOk_of (by kernel_rfl) (by kernel_rfl))
    | (with_reducible refine and_nomen ?_ ?_)
    | (with_reducible refine nomen_p (by kernel_rfl) ?_)
    | (with_reducible refine nomen_s (by kernel_rfl) ?_)
    | (with_reducible refine nomen_p0 (by kernel_rfl) ?_)
    | (with_reducible exact nomen_i (by kernel_rfl)))
  all_goals (simp_all)
noncomputable def withinG : List AV → Option AV := ofRel fun args r => ∃ (a : Int) (b : Int), args = [I a, I b] ∧ r = B (decide (0 ≤ a) && decide (a < b))
@[go_sem] theorem withinG_eq (a : Int) (b : Int) : withinG [I a, I b] = some (B (decide (0 ≤ a) && decide (a < b))) :=
  ofRel_eq ⟨a, b, rfl, rfl⟩ (by rintro _ ⟨a', b', e, rfl⟩; simp at e; first | (obtain ⟨rfl, rfl⟩ := e; rfl) | (simp [e]))
theorem within_good : Good cfg 17 withinG := fun args r h => by
  obtain ⟨_, _, rfl, rfl⟩ := ofRel_some h; exact ⟨within_ok _ _, rfl⟩

theorem start_ok (h : Int) (m : Int) (s : Int) (a : Int) : FnOk cfg 18 [S h m s a] (I (startT h m)) := by
  refine fnOk_eval [] good_nil mixed Try.func18 rfl rfl Try.ntmps18 (congrArg Array.toList Try.results18) (by simp) (by rfl) (by rfl) ?_
  simp only [go_sem, Nat.reduceAdd, Nat.reduceLT, Nat.reduceBEq, Nat.reduceEqDiff, reduceIte, reduceCtorEq, Nat.reduceLeDiff, Int.reduceEq, Int.reduceLT, Int.reduceLE, decide_true, decide_false]
  repeat' (first
    | ((with_reducible refine split_guard ?_ ?_) <;> intro hb <;> simp only [hb, go_sem, Nat.reduceAdd, Nat.reduceLT, Nat.reduceBEq, Nat.reduceEqDiff, reduceIte, reduceCtorEq, Nat.reduceLeDiff, Int.reduceEq, Int.reduceLT, Int.reduceLE, decide_true, decide_false])
    | ((with_reducible refine split_cond ?_ ?_) <;> intro hb <;> simp only [hb, go_sem, Nat.reduceAdd, Nat.reduceLT, Nat.reduceBEq, Nat.reduceEqDiff, reduceIte, reduceCtorEq, Nat.reduceLeDiff, Int.reduceEq, Int.reduceLT, Int.reduceLE, decide_true, decide_false])
    | ((with_reducible refine split_guardY ?_ ?_) <;> intro hb <;> simp only [hb, go_sem, Nat.reduceAdd, Nat.reduceLT, Nat.reduceBEq, Nat.reduceEqDiff, reduceIte, reduceCtorEq, Nat.reduceLeDiff, Int.reduceEq, Int.reduceLT, Int.reduceLE, decide_true, decide_false])
    | (with_reducible refine and_order (by kernel_rfl) (by kernel_rfl) ?_)
    | (with_reducible exact orderOk_of (by kernel_rfl) (by kernel_rfl))
    | (with_reducible refine and_nomen ?_ ?_)
    | (with_reducible refine nomen_p (by kernel_rfl) ?_)
    | (with_reducible refine nomen_s (by kernel_rfl) ?_)
    | (with_reducible refine nomen_p0 (by kernel_rfl) ?_)
    | (with_reducible exact nomen_i (by kernel_rfl)))
  all_goals rfl
noncomputable def startG : List AV → Option AV := ofRel fun args r => ∃ (h : Int) (m : Int) (s : Int) (a : Int), args = [S h m s a] ∧ r = I (startT h m)
@[go_sem] theorem startG_eq (h : Int) (m : Int) (s : Int) (a : Int) : startG [S h m s a] = some (I (startT h m)) :=
  ofRel_eq ⟨h, m, s, a, rfl, rfl⟩ (by rintro _ ⟨h', m', s', a', e, rfl⟩; simp at e; first | (obtain ⟨rfl, rfl, rfl, rfl⟩ := e; rfl) | (simp [e]))
theorem start_good : Good cfg 18 startG := fun args r h => by
  obtain ⟨_, _, _, _, rfl, rfl⟩ := ofRel_some h; exact ⟨start_ok _ _ _ _, rfl⟩

theorem valid_ok (h : Int) (m : Int) (s : Int) (a : Int) : FnOk cfg 10 [S h m s a] (B (validT h m s a)) := by
  refine fnOk_eval [(17, withinG), (18, startG)] (good_cons within_good (good_cons start_good good_nil)) mixed Try.func10 rfl rfl Try.ntmps10 (congrArg Array.toList Try.results10) (by simp) (by rfl) (by rfl) ?_
  simp only [go_sem, Nat.reduceAdd, Nat.reduceLT, Nat.reduceBEq, Nat.reduceEqDiff, reduceIte, reduceCtorEq, Nat.reduceLeDiff, Int.reduceEq, Int.reduceLT, Int.reduceLE, decide_true, decide_false]
  repeat' (first
    | ((with_reducible refine split_guard ?_ ?_) <;> intro hb <;> simp only [hb, go_sem, Nat.reduceAdd, Nat.reduceLT, Nat.reduceBEq, Nat.reduceEqDiff, reduceIte, reduceCtorEq, Nat.reduceLeDiff, Int.reduceEq, Int.reduceLT, Int.reduceLE, decide_true, decide_false])
    | ((with_reducible refine split_cond ?_ ?_) <;> intro hb <;> simp only [hb, go_sem, Nat.reduceAdd, Nat.reduceLT, Nat.reduceBEq, Nat.reduceEqDiff, reduceIte, reduceCtorEq, Nat.reduceLeDiff, Int.reduceEq, Int.reduceLT, Int.reduceLE, decide_true, decide_false])
    | ((with_reducible refine split_guardY ?_ ?_) <;> intro hb <;> simp only [hb, go_sem, Nat.reduceAdd, Nat.reduceLT, Nat.reduceBEq, Nat.reduceEqDiff, reduceIte, reduceCtorEq, Nat.reduceLeDiff, Int.reduceEq, Int.reduceLT, Int.reduceLE, decide_true, decide_false])
    | (with_reducible refine and_order (by kernel_rfl) (by kernel_rfl) ?_)
    | (with_reducible exact orderOk_of (by kernel_rfl) (by kernel_rfl))
    | (with_reducible refine and_nomen ?_ ?_)
    | (with_reducible refine nomen_p (by kernel_rfl) ?_)
    | (with_reducible refine nomen_s (by kernel_rfl) ?_)
    | (with_reducible refine nomen_p0 (by kernel_rfl) ?_)
    | (with_reducible exact nomen_i (by kernel_rfl)))
  all_goals refine leafB ?_
  all_goals simp only [validT, Bool.not_eq_true', Bool.not_eq_false', Bool.and_eq_true, Bool.and_eq_false_iff, decide_eq_true_eq, decide_eq_false_iff_not, Bool.or_eq_true, Bool.or_eq_false_iff, Bool.not_true, Bool.not_false, Bool.false_eq_true, false_iff, true_iff, bne_iff_ne, beq_iff_eq, ne_eq, iff_true, iff_false, not_and, not_or] at *
  all_goals (try rw [startT_eq (by omega) (by omega)])
  all_goals omega
noncomputable def validG : List AV → Option AV := ofRel fun args r => ∃ (h : Int) (m : Int) (s : Int) (a : Int), args = [S h m s a] ∧ r = B (validT h m s a)
@[go_sem] theorem validG_eq (h : Int) (m : Int) (s : Int) (a : Int) : validG [S h m s a] = some (B (validT h m s a)) :=
  ofRel_eq ⟨h, m, s, a, rfl, rfl⟩ (by rintro _ ⟨h', m', s', a', e, rfl⟩; simp at e; first | (obtain ⟨rfl, rfl, rfl, rfl⟩ := e; rfl) | (simp [e]))
theorem valid_good : Good cfg 10 validG := fun args r h => by
  obtain ⟨_, _, _, _, rfl, rfl⟩ := ofRel_some h; exact ⟨valid_ok _ _ _ _, rfl⟩

/-- The second that a time of day is in; its attoseconds; the error. -/
def secN (h m s a : Int) : Int := if validT h m s a = true then h * 3600 + m * 60 + s else 0
def secA (h m s a : Int) : Int := if validT h m s a = true then a else 0
def secE (h m s a : Int) : Int := if validT h m s a = true then 0 else 5
theorem leafI {k : IntKind} {a b : Int} (h : a = b) : AV.c (.lit (.int k a)) = .c (.lit (.int k b)) := by rw [h]
theorem validT_iff (h m s a : Int) : (validT h m s a = true) ↔ (0 ≤ h ∧ h < 24 ∧ 0 ≤ m ∧ m < 60 ∧ 0 ≤ a ∧ a < 1000000000000000000 ∧ (0 ≤ s ∧ s < 60 ∨ s = 60 ∧ h = 23 ∧ m = 59)) := by simp [validT]
theorem secN_t {h m s a : Int} (hv : validT h m s a = true) : IntKind.i64.wrap (startT h m + s) = secN h m s a := by
  have := (validT_iff h m s a).1 hv
  rw [secN, if_pos hv, startT_eq (by omega) (by omega), IntWalk.i64_in _ (by omega)]
/-- Is there such a second? -/
def okS (n a : Int) : Bool := decide (0 ≤ n ∧ n < 86401) && decide (0 ≤ a ∧ a < 1000000000000000000)
def atN (n : Int) : Int := if 86399 < n then 86399 else n
def timH (n a : Int) : Int := if okS n a = true then atN n / 3600 else 0
def timM (n a : Int) : Int := if okS n a = true then atN n % 3600 / 60 else 0
def timS (n a : Int) : Int := if okS n a = true then atN n % 60 + n - atN n else 0
def timA (n a : Int) : Int := if okS n a = true then a else 0
def timE (n a : Int) : Int := if okS n a = true then 0 else 1
theorem okS_iff (n a : Int) : okS n a = true ↔ (0 ≤ n ∧ n < 86401) ∧ 0 ≤ a ∧ a < 1000000000000000000 := by simp [okS]

theorem rtime_ok (h : Int) (m : Int) (s : Int) (a : Int) : FnOk cfg 11 [S h m s a] (B (validT h m s a)) := by
  refine fnOk_eval [] good_nil mixed Try.func11 rfl rfl Try.ntmps11 (congrArg Array.toList Try.results11) (by simp) (by rfl) (by rfl) ?_
  simp only [go_sem, Nat.reduceAdd, Nat.reduceLT, Nat.reduceBEq, Nat.reduceEqDiff, reduceIte, reduceCtorEq, Nat.reduceLeDiff, Int.reduceEq, Int.reduceLT, Int.reduceLE, decide_true, decide_false]
  repeat' (first
    | ((with_reducible refine split_guard ?_ ?_) <;> intro hb <;> simp only [hb, go_sem, Nat.reduceAdd, Nat.reduceLT, Nat.reduceBEq, Nat.reduceEqDiff, reduceIte, reduceCtorEq, Nat.reduceLeDiff, Int.reduceEq, Int.reduceLT, Int.reduceLE, decide_true, decide_false])
    | ((with_reducible refine split_cond ?_ ?_) <;> intro hb <;> simp only [hb, go_sem, Nat.reduceAdd, Nat.reduceLT, Nat.reduceBEq, Nat.reduceEqDiff, reduceIte, reduceCtorEq, Nat.reduceLeDiff, Int.reduceEq, Int.reduceLT, Int.reduceLE, decide_true, decide_false])
    | ((with_reducible refine split_guardY ?_ ?_) <;> intro hb <;> simp only [hb, go_sem, Nat.reduceAdd, Nat.reduceLT, Nat.reduceBEq, Nat.reduceEqDiff, reduceIte, reduceCtorEq, Nat.reduceLeDiff, Int.reduceEq, Int.reduceLT, Int.reduceLE, decide_true, decide_false])
    | (with_reducible refine and_order (by kernel_rfl) (by kernel_rfl) ?_)
    | (with_reducible exact orderOk_of (by kernel_rfl) (by kernel_rfl))
    | (with_reducible refine and_nomen ?_ ?_)
    | (with_reducible refine nomen_p (by kernel_rfl) ?_)
    | (with_reducible refine nomen_s (by kernel_rfl) ?_)
    | (with_reducible refine nomen_p0 (by kernel_rfl) ?_)
    | (with_reducible exact nomen_i (by kernel_rfl)))
  all_goals refine leafB ?_
  all_goals simp only [validT, Bool.not_eq_true', Bool.not_eq_false', Bool.and_eq_true, Bool.and_eq_false_iff, decide_eq_true_eq, decide_eq_false_iff_not, Bool.or_eq_true, Bool.or_eq_false_iff, Bool.not_true, Bool.not_false, Bool.false_eq_true, false_iff, true_iff, bne_iff_ne, beq_iff_eq, ne_eq, iff_true, iff_false, not_and, not_or] at *
  all_goals (try rw [startT_eq (by omega) (by omega)])
  all_goals omega
noncomputable def rtimeG : List AV → Option AV := ofRel fun args r => ∃ (h : Int) (m : Int) (s : Int) (a : Int), args = [S h m s a] ∧ r = B (validT h m s a)
@[go_sem] theorem rtimeG_eq (h : Int) (m : Int) (s : Int) (a : Int) : rtimeG [S h m s a] = some (B (validT h m s a)) :=
  ofRel_eq ⟨h, m, s, a, rfl, rfl⟩ (by rintro _ ⟨h', m', s', a', e, rfl⟩; simp at e; first | (obtain ⟨rfl, rfl, rfl, rfl⟩ := e; rfl) | (simp [e]))
theorem rtime_good : Good cfg 11 rtimeG := fun args r h => by
  obtain ⟨_, _, _, _, rfl, rfl⟩ := ofRel_some h; exact ⟨rtime_ok _ _ _ _, rfl⟩

theorem sec_ok (h : Int) (m : Int) (s : Int) (a : Int) : FnOk cfg 12 [S h m s a] (.tup [I (secN h m s a), I (secA h m s a), I (secE h m s a)]) := by
  refine fnOk_eval [(10, validG), (18, startG)] (good_cons valid_good (good_cons start_good good_nil)) mixed Try.func12 rfl rfl Try.ntmps12 (congrArg Array.toList Try.results12) (by simp) (by rfl) (by rfl) ?_
  simp only [go_sem, Nat.reduceAdd, Nat.reduceLT, Nat.reduceBEq, Nat.reduceEqDiff, reduceIte, reduceCtorEq, Nat.reduceLeDiff, Int.reduceEq, Int.reduceLT, Int.reduceLE, decide_true, decide_false]
  repeat' (first
    | ((with_reducible refine split_guard ?_ ?_) <;> intro hb <;> simp only [hb, go_sem, Nat.reduceAdd, Nat.reduceLT, Nat.reduceBEq, Nat.reduceEqDiff, reduceIte, reduceCtorEq, Nat.reduceLeDiff, Int.reduceEq, Int.reduceLT, Int.reduceLE, decide_true, decide_false])
    | ((with_reducible refine split_cond ?_ ?_) <;> intro hb <;> simp only [hb, go_sem, Nat.reduceAdd, Nat.reduceLT, Nat.reduceBEq, Nat.reduceEqDiff, reduceIte, reduceCtorEq, Nat.reduceLeDiff, Int.reduceEq, Int.reduceLT, Int.reduceLE, decide_true, decide_false])
    | ((with_reducible refine split_guardY ?_ ?_) <;> intro hb <;> simp only [hb, go_sem, Nat.reduceAdd, Nat.reduceLT, Nat.reduceBEq, Nat.reduceEqDiff, reduceIte, reduceCtorEq, Nat.reduceLeDiff, Int.reduceEq, Int.reduceLT, Int.reduceLE, decide_true, decide_false])
    | (with_reducible refine and_order (by kernel_rfl) (by kernel_rfl) ?_)
    | (with_reducible exact orderOk_of (by kernel_rfl) (by kernel_rfl))
    | (with_reducible refine and_nomen ?_ ?_)
    | (with_reducible refine nomen_p (by kernel_rfl) ?_)
    | (with_reducible refine nomen_s (by kernel_rfl) ?_)
    | (with_reducible refine nomen_p0 (by kernel_rfl) ?_)
    | (with_reducible exact nomen_i (by kernel_rfl)))
  all_goals simp only [Bool.not_eq_true', Bool.not_eq_false'] at hb
  all_goals (first | (simp [secN, secA, secE, hb]; done) | (simp [secN_t hb, secA, secE, hb]; done))
noncomputable def secG : List AV → Option AV := ofRel fun args r => ∃ (h : Int) (m : Int) (s : Int) (a : Int), args = [S h m s a] ∧ r = .tup [I (secN h m s a), I (secA h m s a), I (secE h m s a)]
@[go_sem] theorem secG_eq (h : Int) (m : Int) (s : Int) (a : Int) : secG [S h m s a] = some (.tup [I (secN h m s a), I (secA h m s a), I (secE h m s a)]) :=
  ofRel_eq ⟨h, m, s, a, rfl, rfl⟩ (by rintro _ ⟨h', m', s', a', e, rfl⟩; simp at e; first | (obtain ⟨rfl, rfl, rfl, rfl⟩ := e; rfl) | (simp [e]))
theorem sec_good : Good cfg 12 secG := fun args r h => by
  obtain ⟨_, _, _, _, rfl, rfl⟩ := ofRel_some h; exact ⟨sec_ok _ _ _ _, rfl⟩

theorem at_in {n : Int} (h : 0 ≤ n ∧ n < 86401) : 0 ≤ atN n ∧ atN n ≤ 86399 ∧ atN n ≤ n ∧ n ≤ atN n + 1 := by unfold atN; omega
theorem tim_t {n a : Int} (hk : okS n a = true) : IntKind.i64.wrap ((atN n).tdiv 3600) = timH n a ∧ IntKind.i64.wrap (((atN n).tmod 3600).tdiv 60) = timM n a ∧
    IntKind.i64.wrap (IntKind.i64.wrap ((atN n).tmod 60 + n) - atN n) = timS n a ∧ a = timA n a ∧ 0 = timE n a := by
  have h := at_in ((okS_iff n a).1 hk).1
  have h' := ((okS_iff n a).1 hk).1
  rw [timH, timM, timS, timA, timE, if_pos hk, if_pos hk, if_pos hk, if_pos hk, if_pos hk]
  generalize atN n = t at h
  rw [Int.tmod_eq_emod_of_nonneg h.1, Int.tmod_eq_emod_of_nonneg h.1, Int.tdiv_eq_ediv_of_nonneg h.1, Int.tdiv_eq_ediv_of_nonneg (by omega)]
  refine ⟨IntWalk.i64_in _ (by omega), IntWalk.i64_in _ (by omega), ?_, rfl, rfl⟩
  rw [IntWalk.i64_in (t % 60 + n) (by omega), IntWalk.i64_in _ (by omega)]
theorem tim_f {n a : Int} (hk : ¬ okS n a = true) : 0 = timH n a ∧ 0 = timM n a ∧ 0 = timS n a ∧ 0 = timA n a ∧ 1 = timE n a := by
  simp [timH, timM, timS, timA, timE, hk]
theorem time_ok (n : Int) (a : Int) : FnOk cfg 13 [I n, I a] (.tup [S (timH n a) (timM n a) (timS n a) (timA n a), I (timE n a)]) := by
  refine fnOk_eval [(17, withinG)] (good_cons within_good good_nil) mixed Try.func13 rfl rfl Try.ntmps13 (congrArg Array.toList Try.results13) (by simp) (by rfl) (by rfl) ?_
  simp only [go_sem, Nat.reduceAdd, Nat.reduceLT, Nat.reduceBEq, Nat.reduceEqDiff, reduceIte, reduceCtorEq, Nat.reduceLeDiff, Int.reduceEq, Int.reduceLT, Int.reduceLE, decide_true, decide_false]
  repeat' (first
    | ((with_reducible refine split_guard ?_ ?_) <;> intro hb <;> simp only [hb, go_sem, Nat.reduceAdd, Nat.reduceLT, Nat.reduceBEq, Nat.reduceEqDiff, reduceIte, reduceCtorEq, Nat.reduceLeDiff, Int.reduceEq, Int.reduceLT, Int.reduceLE, decide_true, decide_false])
    | ((with_reducible refine split_cond ?_ ?_) <;> intro hb <;> simp only [hb, go_sem, Nat.reduceAdd, Nat.reduceLT, Nat.reduceBEq, Nat.reduceEqDiff, reduceIte, reduceCtorEq, Nat.reduceLeDiff, Int.reduceEq, Int.reduceLT, Int.reduceLE, decide_true, decide_false])
    | ((with_reducible refine split_guardY ?_ ?_) <;> intro hb <;> simp only [hb, go_sem, Nat.reduceAdd, Nat.reduceLT, Nat.reduceBEq, Nat.reduceEqDiff, reduceIte, reduceCtorEq, Nat.reduceLeDiff, Int.reduceEq, Int.reduceLT, Int.reduceLE, decide_true, decide_false])
    | (with_reducible refine and_order (by kernel_rfl) (by kernel_rfl) ?_)
    | (with_reducible exact orderOk_of (by kernel_rfl) (by kernel_rfl))
    | (with_reducible refine and_nomen ?_ ?_)
    | (with_reducible refine nomen_p (by kernel_rfl) ?_)
    | (with_reducible refine nomen_s (by kernel_rfl) ?_)
    | (with_reducible refine nomen_p0 (by kernel_rfl) ?_)
    | (with_reducible exact nomen_i (by kernel_rfl)))
  all_goals simp only [AV.agg.injEq, AV.c.injEq, AV.tup.injEq, AC.lit.injEq, Value.int.injEq, Value.bool.injEq, List.cons.injEq, and_true, true_and, Bool.not_eq_true', Bool.not_eq_false', Bool.and_eq_true, Bool.and_eq_false_iff, decide_eq_true_eq, decide_eq_false_iff_not, Bool.or_eq_true, Bool.or_eq_false_iff, Bool.not_true, Bool.not_false, Bool.false_eq_true, false_iff, true_iff, bne_iff_ne, beq_iff_eq, ne_eq, iff_true, iff_false, not_and, not_or] at *
  all_goals (have hk := okS_iff n a)
  all_goals first
    | (obtain ⟨h1, h2, h3, h4, h5⟩ := tim_f (n := n) (a := a) (by rw [hk]; omega); exact ⟨⟨h1, h2, h3, h4⟩, h5⟩)
    | (obtain ⟨h1, h2, h3, h4, h5⟩ := tim_t (n := n) (a := a) (by rw [hk]; omega); exact ⟨⟨h1, h2, h3, h4⟩, h5⟩)
noncomputable def timeG : List AV → Option AV := ofRel fun args r => ∃ (n : Int) (a : Int), args = [I n, I a] ∧ r = .tup [S (timH n a) (timM n a) (timS n a) (timA n a), I (timE n a)]
@[go_sem] theorem timeG_eq (n : Int) (a : Int) : timeG [I n, I a] = some (.tup [S (timH n a) (timM n a) (timS n a) (timA n a), I (timE n a)]) :=
  ofRel_eq ⟨n, a, rfl, rfl⟩ (by rintro _ ⟨n', a', e, rfl⟩; simp at e; first | (obtain ⟨rfl, rfl⟩ := e; rfl) | (simp [e]))
theorem time_good : Good cfg 13 timeG := fun args r h => by
  obtain ⟨_, _, rfl, rfl⟩ := ofRel_some h; exact ⟨time_ok _ _, rfl⟩

@[go_sem] theorem v_a : validT 23 59 60 7 = true := by decide +kernel
@[go_sem] theorem v_b : validT 12 0 60 0 = false := by decide +kernel
@[go_sem] theorem sa_n : secN 23 59 60 7 = 86400 := by decide +kernel
@[go_sem] theorem sa_a : secA 23 59 60 7 = 7 := by decide +kernel
@[go_sem] theorem sa_e : secE 23 59 60 7 = 0 := by decide +kernel
@[go_sem] theorem ta_h : timH 86400 7 = 23 := by decide +kernel
@[go_sem] theorem ta_m : timM 86400 7 = 59 := by decide +kernel
@[go_sem] theorem ta_s : timS 86400 7 = 60 := by decide +kernel
@[go_sem] theorem ta_a : timA 86400 7 = 7 := by decide +kernel
@[go_sem] theorem ta_e : timE 86400 7 = 0 := by decide +kernel
theorem ans_ok : FnOk cfg 9 [] (B true) := by
  refine fnOk_eval [(12, secG), (13, timeG), (10, validG)] (good_cons sec_good (good_cons time_good (good_cons valid_good good_nil))) mixed Try.func9 rfl rfl Try.ntmps9 (congrArg Array.toList Try.results9) (by simp) (by rfl) (by rfl) ?_
  simp only [go_sem, Nat.reduceAdd, Nat.reduceLT, Nat.reduceBEq, Nat.reduceEqDiff, reduceIte, reduceCtorEq, Nat.reduceLeDiff, Int.reduceEq, Int.reduceLT, Int.reduceLE, decide_true, decide_false]
  repeat' (first
    | ((with_reducible refine split_guard ?_ ?_) <;> intro hb <;> simp only [hb, go_sem, Nat.reduceAdd, Nat.reduceLT, Nat.reduceBEq, Nat.reduceEqDiff, reduceIte, reduceCtorEq, Nat.reduceLeDiff, Int.reduceEq, Int.reduceLT, Int.reduceLE, decide_true, decide_false])
    | ((with_reducible refine split_cond ?_ ?_) <;> intro hb <;> simp only [hb, go_sem, Nat.reduceAdd, Nat.reduceLT, Nat.reduceBEq, Nat.reduceEqDiff, reduceIte, reduceCtorEq, Nat.reduceLeDiff, Int.reduceEq, Int.reduceLT, Int.reduceLE, decide_true, decide_false])
    | ((with_reducible refine split_guardY ?_ ?_) <;> intro hb <;> simp only [hb, go_sem, Nat.reduceAdd, Nat.reduceLT, Nat.reduceBEq, Nat.reduceEqDiff, reduceIte, reduceCtorEq, Nat.reduceLeDiff, Int.reduceEq, Int.reduceLT, Int.reduceLE, decide_true, decide_false])
    | (with_reducible refine and_order (by kernel_rfl) (by kernel_rfl) ?_)
    | (with_reducible exact orderOk_of (by kernel_rfl) (by kernel_rfl))
    | (with_reducible refine and_nomen ?_ ?_)
    | (with_reducible refine nomen_p (by kernel_rfl) ?_)
    | (with_reducible refine nomen_s (by kernel_rfl) ?_)
    | (with_reducible refine nomen_p0 (by kernel_rfl) ?_)
    | (with_reducible exact nomen_i (by kernel_rfl)))

noncomputable def ansG : List AV → Option AV := ofRel fun args r => args = [] ∧ r = B true
@[go_sem] theorem ansG_eq : ansG [] = some (B true) :=
  ofRel_eq ⟨rfl, rfl⟩ (by rintro _ ⟨e, rfl⟩; rfl)
theorem ans_good : Good cfg 9 ansG := fun args r h => by
  obtain ⟨rfl, rfl⟩ := ofRel_some h; exact ⟨ans_ok , rfl⟩

theorem fvalid_ok (h : Int) (m : Int) (s : Int) (a : Int) : FnOk cfg 3 [S h m s a] (B true) := by
  refine fnOk_eval [(9, ansG), (10, validG), (11, rtimeG)] (good_cons ans_good (good_cons valid_good (good_cons rtime_good good_nil))) mixed Try.func3 rfl rfl Try.ntmps3 (congrArg Array.toList Try.results3) (by simp) (by rfl) (by rfl) ?_
  simp only [go_sem, Nat.reduceAdd, Nat.reduceLT, Nat.reduceBEq, Nat.reduceEqDiff, reduceIte, reduceCtorEq, Nat.reduceLeDiff, Int.reduceEq, Int.reduceLT, Int.reduceLE, decide_true, decide_false]
  repeat' (first
    | ((with_reducible refine split_guard ?_ ?_) <;> intro hb <;> simp only [hb, go_sem, Nat.reduceAdd, Nat.reduceLT, Nat.reduceBEq, Nat.reduceEqDiff, reduceIte, reduceCtorEq, Nat.reduceLeDiff, Int.reduceEq, Int.reduceLT, Int.reduceLE, decide_true, decide_false])
    | ((with_reducible refine split_cond ?_ ?_) <;> intro hb <;> simp only [hb, go_sem, Nat.reduceAdd, Nat.reduceLT, Nat.reduceBEq, Nat.reduceEqDiff, reduceIte, reduceCtorEq, Nat.reduceLeDiff, Int.reduceEq, Int.reduceLT, Int.reduceLE, decide_true, decide_false])
    | ((with_reducible refine split_guardY ?_ ?_) <;> intro hb <;> simp only [hb, go_sem, Nat.reduceAdd, Nat.reduceLT, Nat.reduceBEq, Nat.reduceEqDiff, reduceIte, reduceCtorEq, Nat.reduceLeDiff, Int.reduceEq, Int.reduceLT, Int.reduceLE, decide_true, decide_false])
    | (with_reducible refine and_order (by kernel_rfl) (by kernel_rfl) ?_)
    | (with_reducible exact orderOk_of (by kernel_rfl) (by kernel_rfl))
    | (with_reducible refine and_nomen ?_ ?_)
    | (with_reducible refine nomen_p (by kernel_rfl) ?_)
    | (with_reducible refine nomen_s (by kernel_rfl) ?_)
    | (with_reducible refine nomen_p0 (by kernel_rfl) ?_)
    | (with_reducible exact nomen_i (by kernel_rfl)))

noncomputable def fvalidG : List AV → Option AV := ofRel fun args r => ∃ (h : Int) (m : Int) (s : Int) (a : Int), args = [S h m s a] ∧ r = B true
@[go_sem] theorem fvalidG_eq (h : Int) (m : Int) (s : Int) (a : Int) : fvalidG [S h m s a] = some (B true) :=
  ofRel_eq ⟨h, m, s, a, rfl, rfl⟩ (by rintro _ ⟨h', m', s', a', e, rfl⟩; simp at e; first | (obtain ⟨rfl, rfl, rfl, rfl⟩ := e; rfl) | (simp [e]))
theorem fvalid_good : Good cfg 3 fvalidG := fun args r h => by
  obtain ⟨_, _, _, _, rfl, rfl⟩ := ofRel_some h; exact ⟨fvalid_ok _ _ _ _, rfl⟩

theorem round_f {h m s a : Int} (hv : validT h m s a = false) : secE h m s a = 5 ∧ secN h m s a = 0 ∧ secA h m s a = 0 := by simp [secE, secN, secA, hv]
theorem round_t {h m s a : Int} (hv : validT h m s a = true) : secE h m s a = 0 ∧ IntKind.i64.wrap (IntKind.i64.wrap (IntKind.i64.wrap (h * 3600) + IntKind.i64.wrap (m * 60)) + s) = secN h m s a ∧ secA h m s a = a ∧
    timE (secN h m s a) a = 0 ∧ timH (secN h m s a) a = h ∧ timM (secN h m s a) a = m ∧ timS (secN h m s a) a = s ∧ timA (secN h m s a) a = a := by
  have hw := secN_t hv
  have hh := (validT_iff h m s a).1 hv
  have hn : secN h m s a = h * 3600 + m * 60 + s := by rw [secN, if_pos hv]
  have hk : okS (secN h m s a) a = true := by rw [okS_iff, hn]; omega
  refine ⟨by simp [secE, hv], hw, by simp [secA, hv], ?_⟩
  rw [timE, timH, timM, timS, timA, if_pos hk, if_pos hk, if_pos hk, if_pos hk, if_pos hk, hn]
  unfold atN
  split <;> omega
theorem round_k {n a : Int} (hk : okS n a = true) : timE n a = 0 ∧ validT (timH n a) (timM n a) (timS n a) (timA n a) = true ∧ secE (timH n a) (timM n a) (timS n a) (timA n a) = 0 ∧
    secN (timH n a) (timM n a) (timS n a) (timA n a) = n ∧ secA (timH n a) (timM n a) (timS n a) (timA n a) = a ∧ ((timS n a = 60) ↔ (n = 86400)) := by
  have hh := (okS_iff n a).1 hk
  have e1 : timH n a = atN n / 3600 := by rw [timH, if_pos hk]
  have e2 : timM n a = atN n % 3600 / 60 := by rw [timM, if_pos hk]
  have e3 : timS n a = atN n % 60 + n - atN n := by rw [timS, if_pos hk]
  have e4 : timA n a = a := by rw [timA, if_pos hk]
  have hat : atN n = if 86399 < n then 86399 else n := rfl
  have hv : validT (timH n a) (timM n a) (timS n a) (timA n a) = true := by
    rw [validT_iff, e1, e2, e3, e4, hat]
    split <;> omega
  refine ⟨by rw [timE, if_pos hk], hv, by rw [secE, if_pos hv], ?_, by rw [secA, if_pos hv, e4], ?_⟩
  · rw [secN, if_pos hv, e1, e2, e3, hat]; split <;> omega
  · rw [e3, hat]; split <;> omega
theorem round_n {n a : Int} (hk : ¬ okS n a = true) : timE n a = 1 ∧ timH n a = 0 ∧ timM n a = 0 ∧ timS n a = 0 ∧ timA n a = 0 := by
  simp [timE, timH, timM, timS, timA, hk]

theorem fsecs_ok (h : Int) (m : Int) (s : Int) (a : Int) : FnOk cfg 4 [S h m s a] (B true) := by
  refine fnOk_eval [(12, secG), (11, rtimeG), (9, ansG), (13, timeG)] (good_cons sec_good (good_cons rtime_good (good_cons ans_good (good_cons time_good good_nil)))) mixed Try.func4 rfl rfl Try.ntmps4 (congrArg Array.toList Try.results4) (by simp) (by rfl) (by rfl) ?_
  simp only [go_sem, Nat.reduceAdd, Nat.reduceLT, Nat.reduceBEq, Nat.reduceEqDiff, reduceIte, reduceCtorEq, Nat.reduceLeDiff, Int.reduceEq, Int.reduceLT, Int.reduceLE, decide_true, decide_false]
  repeat' (first
    | ((with_reducible refine split_guard ?_ ?_) <;> intro hb <;> simp only [hb, go_sem, Nat.reduceAdd, Nat.reduceLT, Nat.reduceBEq, Nat.reduceEqDiff, reduceIte, reduceCtorEq, Nat.reduceLeDiff, Int.reduceEq, Int.reduceLT, Int.reduceLE, decide_true, decide_false])
    | ((with_reducible refine split_cond ?_ ?_) <;> intro hb <;> simp only [hb, go_sem, Nat.reduceAdd, Nat.reduceLT, Nat.reduceBEq, Nat.reduceEqDiff, reduceIte, reduceCtorEq, Nat.reduceLeDiff, Int.reduceEq, Int.reduceLT, Int.reduceLE, decide_true, decide_false])
    | ((with_reducible refine split_guardY ?_ ?_) <;> intro hb <;> simp only [hb, go_sem, Nat.reduceAdd, Nat.reduceLT, Nat.reduceBEq, Nat.reduceEqDiff, reduceIte, reduceCtorEq, Nat.reduceLeDiff, Int.reduceEq, Int.reduceLT, Int.reduceLE, decide_true, decide_false])
    | (with_reducible refine and_order (by kernel_rfl) (by kernel_rfl) ?_)
    | (with_reducible exact orderOk_of (by kernel_rfl) (by kernel_rfl))
    | (with_reducible refine and_nomen ?_ ?_)
    | (with_reducible refine nomen_p (by kernel_rfl) ?_)
    | (with_reducible refine nomen_s (by kernel_rfl) ?_)
    | (with_reducible refine nomen_p0 (by kernel_rfl) ?_)
    | (with_reducible exact nomen_i (by kernel_rfl)))
  all_goals refine leafB ?_
  all_goals cases hv : validT h m s a with
    | false => have := round_f hv; simp_all
    | true => have := round_t hv; simp_all
noncomputable def fsecsG : List AV → Option AV := ofRel fun args r => ∃ (h : Int) (m : Int) (s : Int) (a : Int), args = [S h m s a] ∧ r = B true
@[go_sem] theorem fsecsG_eq (h : Int) (m : Int) (s : Int) (a : Int) : fsecsG [S h m s a] = some (B true) :=
  ofRel_eq ⟨h, m, s, a, rfl, rfl⟩ (by rintro _ ⟨h', m', s', a', e, rfl⟩; simp at e; first | (obtain ⟨rfl, rfl, rfl, rfl⟩ := e; rfl) | (simp [e]))
theorem fsecs_good : Good cfg 4 fsecsG := fun args r h => by
  obtain ⟨_, _, _, _, rfl, rfl⟩ := ofRel_some h; exact ⟨fsecs_ok _ _ _ _, rfl⟩

theorem ftimes_ok (n : Int) (a : Int) : FnOk cfg 5 [I n, I a] (B true) := by
  refine fnOk_eval [(13, timeG), (9, ansG), (12, secG), (11, rtimeG)] (good_cons time_good (good_cons ans_good (good_cons sec_good (good_cons rtime_good good_nil)))) mixed Try.func5 rfl rfl Try.ntmps5 (congrArg Array.toList Try.results5) (by simp) (by rfl) (by rfl) ?_
  simp only [go_sem, Nat.reduceAdd, Nat.reduceLT, Nat.reduceBEq, Nat.reduceEqDiff, reduceIte, reduceCtorEq, Nat.reduceLeDiff, Int.reduceEq, Int.reduceLT, Int.reduceLE, decide_true, decide_false]
  repeat' (first
    | ((with_reducible refine split_guard ?_ ?_) <;> intro hb <;> simp only [hb, go_sem, Nat.reduceAdd, Nat.reduceLT, Nat.reduceBEq, Nat.reduceEqDiff, reduceIte, reduceCtorEq, Nat.reduceLeDiff, Int.reduceEq, Int.reduceLT, Int.reduceLE, decide_true, decide_false])
    | ((with_reducible refine split_cond ?_ ?_) <;> intro hb <;> simp only [hb, go_sem, Nat.reduceAdd, Nat.reduceLT, Nat.reduceBEq, Nat.reduceEqDiff, reduceIte, reduceCtorEq, Nat.reduceLeDiff, Int.reduceEq, Int.reduceLT, Int.reduceLE, decide_true, decide_false])
    | ((with_reducible refine split_guardY ?_ ?_) <;> intro hb <;> simp only [hb, go_sem, Nat.reduceAdd, Nat.reduceLT, Nat.reduceBEq, Nat.reduceEqDiff, reduceIte, reduceCtorEq, Nat.reduceLeDiff, Int.reduceEq, Int.reduceLT, Int.reduceLE, decide_true, decide_false])
    | (with_reducible refine and_order (by kernel_rfl) (by kernel_rfl) ?_)
    | (with_reducible exact orderOk_of (by kernel_rfl) (by kernel_rfl))
    | (with_reducible refine and_nomen ?_ ?_)
    | (with_reducible refine nomen_p (by kernel_rfl) ?_)
    | (with_reducible refine nomen_s (by kernel_rfl) ?_)
    | (with_reducible refine nomen_p0 (by kernel_rfl) ?_)
    | (with_reducible exact nomen_i (by kernel_rfl)))
  all_goals refine leafB ?_
  all_goals cases hk : okS n a with
    | false => have := round_n (n := n) (a := a) (by simp [hk]); have hn := okS_iff n a; simp_all <;> omega
    | true => have := round_k hk; have hn := okS_iff n a; simp_all <;> omega
noncomputable def ftimesG : List AV → Option AV := ofRel fun args r => ∃ (n : Int) (a : Int), args = [I n, I a] ∧ r = B true
@[go_sem] theorem ftimesG_eq (n : Int) (a : Int) : ftimesG [I n, I a] = some (B true) :=
  ofRel_eq ⟨n, a, rfl, rfl⟩ (by rintro _ ⟨n', a', e, rfl⟩; simp at e; first | (obtain ⟨rfl, rfl⟩ := e; rfl) | (simp [e]))
theorem ftimes_good : Good cfg 5 ftimesG := fun args r h => by
  obtain ⟨_, _, rfl, rfl⟩ := ofRel_some h; exact ⟨ftimes_ok _ _, rfl⟩


theorem faceValid_walk (h m s a : Int) (W : World) : Calls Try.prog 3 #[.agg #[.int .i64 h, .int .i64 m, .int .i64 s, .int .i64 a]] W fun e W' => e = .returned (.bool true) ∧ Go.RowKit.Below W.heap.size W W' :=
  law_calls (C := cfg) (wf_memOf (fun _ => rfl) W) (fvalid_ok h m s a) rfl fun i h1 h2 => by
    match i, h1 with
    | 0, _ => exact rep_lits [.int .i64 h, .int .i64 m, .int .i64 s, .int .i64 a]
theorem faceSecs_walk (h m s a : Int) (W : World) : Calls Try.prog 4 #[.agg #[.int .i64 h, .int .i64 m, .int .i64 s, .int .i64 a]] W fun e W' => e = .returned (.bool true) ∧ Go.RowKit.Below W.heap.size W W' :=
  law_calls (C := cfg) (wf_memOf (fun _ => rfl) W) (fsecs_ok h m s a) rfl fun i h1 h2 => by
    match i, h1 with
    | 0, _ => exact rep_lits [.int .i64 h, .int .i64 m, .int .i64 s, .int .i64 a]
theorem faceTimes_walk (n a : Int) (W : World) : Calls Try.prog 5 #[.int .i64 n, .int .i64 a] W fun e W' => e = .returned (.bool true) ∧ Go.RowKit.Below W.heap.size W W' :=
  law_calls (C := cfg) (wf_memOf (fun _ => rfl) W) (ftimes_ok n a) rfl fun i h1 h2 => by
    match i, h1 with
    | 0, _ => exact rep_lit _
    | 1, _ => exact rep_lit _
end Go.Proofs.Ytnhdfmnmciminaa
