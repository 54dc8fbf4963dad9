/-
  The contracts of layer 11 (list): Check, Digits.
-/
import Derived.Test.YtldofkogmkfpjaaGreatDoorWLzSyList
namespace Go.Proofs.YtldofkogmkfpjaaGreatDoor
open Go Go.Ev Go.Sy
set_option linter.unusedSimpArgs false
set_option linter.unusedVariables false
set_option maxRecDepth 10000
set_option maxHeartbeats 4000000
/-! ### list.Check -/
noncomputable def lck_e : Ev' := ⟨Tryz.prog, glob, Γof [(67, c_lbh), (68, c_lwi)]⟩
theorem lck_g : Gd cfg lck_e := gd (env_cons c_lbh_ok (env_cons c_lwi_ok (env_nil _)))
noncomputable def lck_f : FnD := ⟨23, Tryz.f23, shOf [(0, ⟨42, [], [(1, [.c (.int .i64), .c (.int .i64), .c (.rows [.int .i64, .int .i64])])], [(1, .c (.ptr 1 0)), (7, .c (.rows [.int .i64, .int .i64])), (8, .c (.int .i64)), (9, .c (.int .i64))]⟩)], Tryz.f23.resultTypes.toList, 0⟩
theorem lck_ent (h : Hd) (u : Int) (x : Int) (L : List (List D)) : lck_f.ent lck_e [] h [agg [.c (.int .i64 u), .c (.int .i64 x), .c (.rows [.int .i64, .int .i64] L)]] [] = h (0 : Nat) [Lf.i u, Lf.i x, Lf.r L, Lf.r L, Lf.i (↑L.length : Int), Lf.i (0 : Int)] := by kernel_rfl
theorem lck_l0 (h : Hd) (u : Int) (x : Int) (L : List (List D)) (L2 : List (List D)) (n : Int) (i : Int) : lck_f.seg lck_e [] h 0 [.i u, .i x, .r L, .r L2, .i n, .i i] = bif decide (i < n) then bif inB i L2.length then bif slB (0 : Int) i L.length then bif decide (lastOk (piece L (0 : Int) i)) then bif !behP (piece L (0 : Int) i) ((L2.getD i.toNat []).getD (0 : Nat) (D.i (0 : Int))).toI ((L2.getD i.toNat []).getD (1 : Nat) (D.i (0 : Int))).toI then ret (SV.tup [tI i, tI (10 : Int)]) else h (0 : Nat) [Lf.i u, Lf.i x, Lf.r L, Lf.r L2, Lf.i n, Lf.i (IntKind.i64.wrap (i + (1 : Int)))] else none else none else none else bif decide ((↑L.length : Int) = (0 : Int)) then ret (SV.tup [tI (↑L.length : Int), tI (10 : Int)]) else bif !(decide ((0 : Int) ≤ u) && decide (u ≤ (999999999999999999 : Int))) then ret (SV.tup [tI (↑L.length : Int), tI (10 : Int)]) else bif !(decide ((0 : Int) ≤ x) && decide (x ≤ (999999999999999999 : Int))) then ret (SV.tup [tI (↑L.length : Int), tI (10 : Int)]) else ret (SV.tup [tI (0 : Int), tI (0 : Int)]) := by kernel_rfl

theorem chk_out {v w : Int × Int} (h : v = w) : ret (.tup [tI v.1, tI v.2]) = some ⟨.tup [tI w.1, tI w.2], []⟩ := by rw [h]
theorem piece0 (L : List (List D)) (i : Nat) : piece L 0 (i : Int) = L.take i := by simp [piece]
theorem lck_loop (u x : Int) (L : List (List D)) : ∀ (k i : Nat), i ≤ L.length → goodTo L i → L.length - i < k →
    lck_f.H lck_e [] k 0 [.i u, .i x, .r L, .r L, .i (L.length : Int), .i (i : Int)] = some ⟨.tup [tI (chkP u x L).1, tI (chkP u x L).2], []⟩ := by
  intro k
  induction k with
  | zero => intro i _ _ h; omega
  | succ k ih =>
    intro i hi hg hk
    have h64 := goodTo_len hg hi
    rw [FnD.H_succ, lck_l0]
    rw [piece0, Int.toNat_natCast]
    by_cases h : i < L.length
    · refine condT (by omega) (condB ((inB_iff _ _).2 (by omega)) (condB (by unfold slB; simp; omega) (condT (goodTo_last hg hi) ?_)))
      show (bif !okAt L i then _ else _) = _
      cases hb : okAt L i with
      | false => exact chk_out (v := ((i : Int), 10)) (chkP_at h hg hb).symm
      | true =>
        have := ih (i + 1) (by omega) (goodTo_succ hg hb) (by omega)
        rw [show IntKind.i64.wrap ((i : Int) + 1) = ((i + 1 : Nat) : Int) by rw [IntWalk.i64_in _ (by omega)]; omega]
        exact this
    · have e : i = L.length := by omega
      subst e
      refine condF (by omega) ?_
      rw [chkP_end hg]
      by_cases h0 : L = []
      · exact condT (by simp [h0]) (by rw [if_pos (.inl h0)])
      have hl : 0 < L.length := List.length_pos_iff.2 h0
      refine condF (by omega) ?_
      by_cases hu : 0 ≤ u ∧ u ≤ 999999999999999999
      · rw [decide_eq_true hu.1, decide_eq_true hu.2]
        by_cases hx : 0 ≤ x ∧ x ≤ 999999999999999999
        · rw [decide_eq_true hx.1, decide_eq_true hx.2, if_neg (fun g => g.elim h0 (fun g => g.elim (fun a => a hu) (fun a => a hx)))]
          rfl
        · rw [if_pos (.inr (.inr hx)), show (decide (0 ≤ x) && decide (x ≤ 999999999999999999)) = false by rw [← Bool.decide_and]; exact decide_eq_false hx]
          rfl
      · rw [if_pos (.inr (.inl hu)), show (decide (0 ≤ u) && decide (u ≤ 999999999999999999)) = false by rw [← Bool.decide_and]; exact decide_eq_false hu]
        rfl
theorem lck_run (u : Int) (x : Int) (L : List (List D)) : ∃ fu, lck_f.run lck_e [] fu [agg [.c (.int .i64 u), .c (.int .i64 x), .c (.rows [.int .i64, .int .i64] L)]] [] = some ⟨.tup [tI (chkP u x L).1, tI (chkP u x L).2], []⟩ := by
  refine ⟨L.length + 1, ?_⟩
  rw [FnD.run, lck_ent]
  exact lck_loop u x L (L.length + 1) 0 (by omega) (fun j hj => by omega) (by omega)
theorem lck_ok (u : Int) (x : Int) (L : List (List D)) : FnOk cfg 23 ([agg [.c (.int .i64 u), .c (.int .i64 x), .c (.rows [.int .i64, .int .i64] L)]].map SV.den) (.tup [tI (chkP u x L).1, tI (chkP u x L).2] : SV).den := by
  obtain ⟨nn, h⟩ := lck_run u x L
  exact FnD.ok lck_g lck_f mixed Tryz.func23 rfl rfl rfl rfl rfl rfl h
noncomputable def c_lck : SpecF := fun args _ K => match args with
  | [.one (.agg [.c (.int .i64 u), .c (.int .i64 x), .c (.rows [.int .i64, .int .i64] L)])] => K (.tup [tI (chkP u x L).1, tI (chkP u x L).2]) []
  | _ => none
theorem c_lck_ok : SpecOk cfg 23 c_lck := by
  intro args bx K out h
  unfold c_lck at h
  split at h
  · exact ⟨_, _, h, .inl (lck_ok _ _ _ _), by simp [isTupS]⟩
  · cases h
/-! ### list.may -/
noncomputable def may_e : Ev' := ⟨Tryz.prog, glob, Γof [(23, c_lck)]⟩
theorem may_g : Gd cfg may_e := gd (env_cons c_lck_ok (env_nil _))
noncomputable def may_f : FnD := ⟨70, Tryz.f70, noSh, Tryz.f70.resultTypes.toList, 0⟩
theorem may_ent (h : Hd) (u : Int) (x : Int) (L : List (List D)) : may_f.ent may_e [] h [agg [.c (.int .i64 u), .c (.int .i64 x), .c (.rows [.int .i64, .int .i64] L)]] [] = ret (vB (decide ((chkP u x L).snd = (0 : Int)))) := by kernel_rfl
theorem may_run (u : Int) (x : Int) (L : List (List D)) : ∃ fu, may_f.run may_e [] fu [agg [.c (.int .i64 u), .c (.int .i64 x), .c (.rows [.int .i64, .int .i64] L)]] [] = some ⟨vB (decide ((chkP u x L).2 = 0)), []⟩ := by
  refine ⟨0, ?_⟩
  rw [FnD.run, may_ent]
theorem may_ok (u : Int) (x : Int) (L : List (List D)) : FnOk cfg 70 ([agg [.c (.int .i64 u), .c (.int .i64 x), .c (.rows [.int .i64, .int .i64] L)]].map SV.den) (vB (decide ((chkP u x L).2 = 0)) : SV).den := by
  obtain ⟨nn, h⟩ := may_run u x L
  exact FnD.ok may_g may_f mixed Tryz.func70 rfl rfl rfl rfl rfl rfl h
noncomputable def c_may : SpecF := fun args _ K => match args with
  | [.one (.agg [.c (.int .i64 u), .c (.int .i64 x), .c (.rows [.int .i64, .int .i64] L)])] => K (vB (decide ((chkP u x L).2 = 0))) []
  | _ => none
theorem c_may_ok : SpecOk cfg 70 c_may := by
  intro args bx K out h
  unfold c_may at h
  split at h
  · exact ⟨_, _, h, .inl (may_ok _ _ _ _), by simp [isTupS]⟩
  · cases h
def rowsH (L : List (List D)) : Prop := (L.all fun r => decide (isH (atR r)) && decide (isH (ofR r))) = true
instance (L : List (List D)) : Decidable (rowsH L) := by unfold rowsH; exact inferInstance
theorem rowsH_at {L : List (List D)} (h : rowsH L) {i : Nat} (hi : i < L.length) : isH (atR (L.getD i [])) ∧ isH (ofR (L.getD i [])) := by
  unfold rowsH at h
  rw [List.all_eq_true] at h
  have := h L[i] (List.getElem_mem hi)
  rw [Bool.and_eq_true, decide_eq_true_eq, decide_eq_true_eq] at this
  rw [List.getD_eq_getElem?_getD, List.getElem?_eq_getElem hi]; exact this
/-! ### list.numbers -/
noncomputable def lnb_e : Ev' := ⟨Tryz.prog, glob, Γof [(96, c_itoa)]⟩
theorem lnb_g : Gd cfg lnb_e := gd (env_cons c_itoa_ok (env_nil _))
noncomputable def lnb_f : FnD := ⟨71, Tryz.f71, shOf [(0, ⟨31, [(3, ⟨.rows [.str], false, false⟩)], [], [(3, .c (.sl 3 1)), (14, .c (.rows [.int .i64, .int .i64])), (15, .c (.int .i64)), (16, .c (.int .i64))]⟩)], Tryz.f71.resultTypes.toList, 0⟩
theorem lnb_ent (h : Hd) (u : Int) (x : Int) (L : List (List D)) : lnb_f.ent lnb_e [] h [agg [.c (.int .i64 u), .c (.int .i64 x), .c (.rows [.int .i64, .int .i64] L)]] [] = bif decide (isH u) then bif decide (isH x) then h (0 : Nat) [Lf.r [[D.s (tx (Lib.itoa u))], [D.s (tx (Lib.itoa x))]], Lf.r L, Lf.i (↑L.length : Int), Lf.i (0 : Int)] else none else none := by kernel_rfl
theorem lnb_l0 (h : Hd) (o : List (List D)) (L : List (List D)) (n : Int) (i : Int) : lnb_f.seg lnb_e [] h 0 [.r o, .r L, .i n, .i i] = let v1 : List (List D) := List.take o.length o ++ [[D.s (tx (Lib.itoa ((L.getD i.toNat []).getD (0 : Nat) (D.i (0 : Int))).toI))], [D.s (tx (Lib.itoa ((L.getD i.toNat []).getD (1 : Nat) (D.i (0 : Int))).toI))]]; let v2 : Nat := v1.length; bif decide (i < n) then bif inB i L.length then bif decide (isH ((L.getD i.toNat []).getD (0 : Nat) (D.i (0 : Int))).toI) then bif decide (isH ((L.getD i.toNat []).getD (1 : Nat) (D.i (0 : Int))).toI) then bif decide (o.length ≤ o.length) && roomB (o.length + (2 : Nat)) (16 : Nat) then bif decide (o.length + (2 : Nat) = v2) then h (0 : Nat) [Lf.r v1, Lf.r L, Lf.i n, Lf.i (IntKind.i64.wrap (i + (1 : Int)))] else none else none else none else none else none else bif decide (o.length ≤ o.length) && true then ret (c1 (Cl.rows [Kd.str] (List.take o.length o))) else none := by kernel_rfl

theorem lnb_loop (u x : Int) (L : List (List D)) (hL : L.length ≤ 64) (hr : rowsH L) : ∀ (k i : Nat), i ≤ L.length → L.length - i < k →
    lnb_f.H lnb_e [] k 0 [.r (numR u x (L.take i)), .r L, .i (L.length : Int), .i (i : Int)] = some ⟨c1 (.rows [.str] (numR u x L)), []⟩ := by
  intro k
  induction k with
  | zero => intro i _ h; omega
  | succ k ih =>
    intro i hi hk
    rw [FnD.H_succ, lnb_l0]
    have hn := numR_len u x (L.take i)
    rw [List.length_take, Nat.min_eq_left hi] at hn
    dsimp only
    rw [Int.toNat_natCast, List.take_length]
    by_cases h : i < L.length
    · obtain ⟨h1, h2⟩ := rowsH_at hr h
      refine condT (by omega) (condB ((inB_iff _ _).2 (by omega)) (condT h1 (condT h2 (condB ?_ (condT ?_ ?_)))))
      · rw [Bool.and_eq_true]; refine ⟨by simp, ?_⟩; unfold roomB; rw [Bool.and_eq_true, decide_eq_true_eq, decide_eq_true_eq]; constructor <;> omega
      · rw [List.length_append]; rfl
      · have := ih (i + 1) (by omega) (by omega)
        rw [show IntKind.i64.wrap ((i : Int) + 1) = ((i + 1 : Nat) : Int) by rw [IntWalk.i64_in _ (by omega)]; omega]
        rw [numR_succ u x L i h] at this
        exact this
    · have e : i = L.length := by omega
      subst e
      rw [List.take_length]
      exact condF (by omega) (condB (by simp) rfl)
theorem lnb_run (u : Int) (x : Int) (L : List (List D)) (hp : isH u ∧ isH x ∧ L.length ≤ 64 ∧ rowsH L) : ∃ fu, lnb_f.run lnb_e [] fu [agg [.c (.int .i64 u), .c (.int .i64 x), .c (.rows [.int .i64, .int .i64] L)]] [] = some ⟨c1 (.rows [.str] (numR u x L)), []⟩ := by
  obtain ⟨h1, h2, h3, h4⟩ := hp
  refine ⟨L.length + 1, ?_⟩
  rw [FnD.run, lnb_ent]
  exact condT h1 (condT h2 (lnb_loop u x L h3 h4 (L.length + 1) 0 (by omega) (by omega)))
theorem lnb_ok (u : Int) (x : Int) (L : List (List D)) (hp : isH u ∧ isH x ∧ L.length ≤ 64 ∧ rowsH L) : FnOk cfg 71 ([agg [.c (.int .i64 u), .c (.int .i64 x), .c (.rows [.int .i64, .int .i64] L)]].map SV.den) (c1 (.rows [.str] (numR u x L)) : SV).den := by
  obtain ⟨nn, h⟩ := lnb_run u x L hp
  exact FnD.ok lnb_g lnb_f mixed Tryz.func71 rfl rfl rfl rfl rfl rfl h
noncomputable def c_lnb : SpecF := fun args _ K => match args with
  | [.one (.agg [.c (.int .i64 u), .c (.int .i64 x), .c (.rows [.int .i64, .int .i64] L)])] => bif decide (isH u ∧ isH x ∧ L.length ≤ 64 ∧ rowsH L) then K (c1 (.rows [.str] (numR u x L))) [] else none
  | _ => none
theorem c_lnb_ok : SpecOk cfg 71 c_lnb := by
  intro args bx K out h
  unfold c_lnb at h
  split at h
  · obtain ⟨hp, h⟩ := bif_some h
    exact ⟨_, _, h, .inl (lnb_ok _ _ _ (of_decide_eq_true hp) _), by simp [isTupS]⟩
  · cases h
/-! ### list.Digits -/
noncomputable def ldg_e : Ev' := ⟨Tryz.prog, glob, Γof [(70, c_may), (71, c_lnb), (48, c_join)]⟩
theorem ldg_g : Gd cfg ldg_e := gd (env_cons c_may_ok (env_cons c_lnb_ok (env_cons c_join_ok (env_nil _))))
noncomputable def ldg_f : FnD := ⟨27, Tryz.f27, noSh, Tryz.f27.resultTypes.toList, 0⟩
theorem ldg_ent (h : Hd) (u : Int) (x : Int) (L : List (List D)) : ldg_f.ent ldg_e [] h [agg [.c (.int .i64 u), .c (.int .i64 x), .c (.rows [.int .i64, .int .i64] L)]] [] = bif !decide ((chkP u x L).snd = (0 : Int)) then ret (vS (tx [])) else bif decide (isH u ∧ isH x ∧ L.length ≤ (64 : Nat) ∧ rowsH L) then bif decide ((numR u x L).length ≤ (140737488355328 : Nat) ∧ (joinD (numR u x L) (tx [])).length ≤ (140737488355328 : Nat)) then ret (vS (tx (joinD (numR u x L) (tx [])))) else none else none := by kernel_rfl
theorem ldg_run (u : Int) (x : Int) (L : List (List D)) : ∃ fu, ldg_f.run ldg_e [] fu [agg [.c (.int .i64 u), .c (.int .i64 x), .c (.rows [.int .i64, .int .i64] L)]] [] = some ⟨vS (tx (dgP u x L)), []⟩ := by
  refine ⟨0, ?_⟩
  rw [FnD.run, ldg_ent]
  unfold dgP
  by_cases h : (chkP u x L).2 = 0
  · rw [if_pos h, decide_eq_true h]
    obtain ⟨h1, h2, h3, h4⟩ := chkP_ok h
    have h64 := goodTo_len h4 (Nat.le_refl _)
    have hr : rowsH L := by
      unfold rowsH
      rw [List.all_eq_true]
      intro r hr
      obtain ⟨i, hi, rfl⟩ := List.getElem_of_mem hr
      have := good_rows h4 i hi
      rw [List.getD_eq_getElem?_getD, List.getElem?_eq_getElem hi] at this
      rw [Bool.and_eq_true, decide_eq_true_eq, decide_eq_true_eq]; exact this
    have hl := dgL_len h
    refine condT ⟨by unfold isH; omega, by unfold isH; omega, h64, hr⟩ (condT ⟨by rw [numR_len]; omega, ?_⟩ rfl)
    have hl : (joinD (numR u x L) (tx [])).length ≤ 5330 := hl
    omega
  · rw [if_neg h, decide_eq_false h]; rfl
theorem ldg_ok (u : Int) (x : Int) (L : List (List D)) : FnOk cfg 27 ([agg [.c (.int .i64 u), .c (.int .i64 x), .c (.rows [.int .i64, .int .i64] L)]].map SV.den) (vS (tx (dgP u x L)) : SV).den := by
  obtain ⟨nn, h⟩ := ldg_run u x L
  exact FnD.ok ldg_g ldg_f mixed Tryz.func27 rfl rfl rfl rfl rfl rfl h
noncomputable def c_ldg : SpecF := fun args _ K => match args with
  | [.one (.agg [.c (.int .i64 u), .c (.int .i64 x), .c (.rows [.int .i64, .int .i64] L)])] => K (vS (tx (dgP u x L))) []
  | _ => none
theorem c_ldg_ok : SpecOk cfg 27 c_ldg := by
  intro args bx K out h
  unfold c_ldg at h
  split at h
  · exact ⟨_, _, h, .inl (ldg_ok _ _ _ _), by simp [isTupS]⟩
  · cases h
end Go.Proofs.YtldofkogmkfpjaaGreatDoor
