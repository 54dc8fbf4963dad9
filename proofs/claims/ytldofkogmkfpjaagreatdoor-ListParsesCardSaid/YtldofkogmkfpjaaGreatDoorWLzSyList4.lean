/-
  The contracts of the document's answers for layers 10 and 11.
-/
import Derived.Test.YtldofkogmkfpjaaGreatDoorWLzSyList3
import Derived.Test.YtldofkogmkfpjaaGreatDoorWLzSyLexRef
namespace Go.Proofs.YtldofkogmkfpjaaGreatDoor
open Go Go.Ev Go.Sy
set_option linter.unusedSimpArgs false
set_option linter.unusedVariables false
set_option maxRecDepth 10000
set_option maxHeartbeats 4000000
def sameP (u x : Int) (L : List (List D)) (u2 x2 : Int) (L2 : List (List D)) : Bool := decide (u = u2) && (decide (x = x2) && (decide (L.length = L2.length) && (List.range L.length).all fun i => decide (atR (L.getD i []) = atR (L2.getD i [])) && decide (ofR (L.getD i []) = ofR (L2.getD i []))))
/-! ### epactref10.Entry -/
noncomputable def rent_e : Ev' := ⟨Tryz.prog, glob, Γof []⟩
theorem rent_g : Gd cfg rent_e := gd (env_nil _)
noncomputable def rent_f : FnD := ⟨69, Tryz.f69, noSh, Tryz.f69.resultTypes.toList, 0⟩
theorem rent_ent (h : Hd) (L : List (List D)) (a : Int) (o : Int) : rent_f.ent rent_e [] h [c1 (.rows [.int .i64, .int .i64] L), agg [.c (.int .i64 a), .c (.int .i64 o)]] [] = let v1 : Int := ((L.getD (IntKind.i64.wrap ((↑L.length : Int) - (1 : Int))).toNat []).getD (0 : Nat) (D.i (0 : Int))).toI; let v2 : Int := ((L.getD (IntKind.i64.wrap ((↑L.length : Int) - (1 : Int))).toNat []).getD (1 : Nat) (D.i (0 : Int))).toI; let v3 : Int := IntKind.i64.wrap (v2 + (1 : Int)); let v4 : Int := IntKind.i64.wrap (v2 - (1 : Int)); bif decide ((64 : Int) ≤ (↑L.length : Int)) then ret (vB false) else bif decide (a < (0 : Int)) then ret (vB false) else bif decide ((1125899906842624 : Int) < a) then ret (vB false) else bif !decide (a.tmod (86400 : Int) = (0 : Int)) then ret (vB false) else bif decide (o < (0 : Int)) then ret (vB false) else bif decide ((1000 : Int) < o) then ret (vB false) else bif decide ((↑L.length : Int) = (0 : Int)) then ret (vB true) else bif inB (IntKind.i64.wrap ((↑L.length : Int) - (1 : Int))) L.length then bif decide (v1 < a) then bif decide (o = v3) then ret (vB true) else ret (vB (decide (o = v4))) else ret (vB false) else none := by kernel_rfl
theorem rent_run (L : List (List D)) (a : Int) (o : Int) (hp : lastOk L) : ∃ fu, rent_f.run rent_e [] fu [c1 (.rows [.int .i64, .int .i64] L), agg [.c (.int .i64 a), .c (.int .i64 o)]] [] = some ⟨vB (behP L a o), []⟩ := by
  refine ⟨0, ?_⟩
  rw [FnD.run, rent_ent]
  have tm : a.tmod 86400 = 0 ↔ a % 86400 = 0 := by rw [Int.tmod_eq_emod]; split <;> omega
  dsimp only
  unfold behP
  by_cases h1 : L.length < 64
  case neg => exact condT (by omega) (beh_out (by rw [decide_eq_false h1]; rfl))
  refine condF (by omega) ?_
  by_cases ha : 0 ≤ a
  case neg => exact condT (by omega) (beh_out (by rw [decide_eq_false ha]; simp))
  refine condF (by omega) ?_
  by_cases ha2 : a ≤ 1125899906842624
  case neg => exact condT (by omega) (beh_out (by rw [decide_eq_false ha2]; simp))
  refine condF (by omega) ?_
  rw [decide_eq_true h1, decide_eq_true ha, decide_eq_true ha2, decide_eq_decide.2 tm]
  cases h3 : decide (a % 86400 = 0) with
  | false => exact beh_out (by simp)
  | true =>
  show (bif decide (o < 0) then _ else _) = _
  by_cases ho : 0 ≤ o
  case neg => exact condT (by omega) (beh_out (by rw [decide_eq_false ho]; simp))
  refine condF (by omega) ?_
  by_cases ho2 : o ≤ 1000
  case neg => exact condT (by omega) (beh_out (by rw [decide_eq_false ho2]; simp))
  refine condF (by omega) ?_
  rw [decide_eq_true ho, decide_eq_true ho2]
  by_cases h5 : L = []
  · subst h5; exact condT (by simp) (retV (by simp))
  have h5l : 0 < L.length := List.length_pos_iff.2 h5
  rw [decide_eq_false h5]
  have e1 : IntKind.i64.wrap ((L.length : Int) - 1) = ((L.length - 1 : Nat) : Int) := by rw [IntWalk.i64_in _ (by omega)]; omega
  rw [e1, Int.toNat_natCast]
  refine condF (by omega) (condB ((inB_iff _ _).2 (by omega)) ?_)
  have hl := hp.resolve_left h5
  unfold ofR lastR at hl
  unfold atR ofR lastR
  generalize ((L.getD (L.length - 1) []).getD 1 (D.i 0)).toI = y at hl ⊢
  generalize ((L.getD (L.length - 1) []).getD 0 (D.i 0)).toI = x at hl ⊢
  rw [IntWalk.i64_in (y + 1) (by omega), IntWalk.i64_in (y - 1) (by omega)]
  by_cases h6 : x < a
  · refine condT h6 ?_
    by_cases h7 : o = y + 1
    · refine condT h7 (retV ?_)
      rw [decide_eq_true h6, decide_eq_true h7]; rfl
    · refine condF h7 (retV ?_)
      rw [decide_eq_true h6, decide_eq_false h7]; rfl
  · refine condF h6 (retV ?_)
    rw [decide_eq_false h6]; rfl
theorem rent_ok (L : List (List D)) (a : Int) (o : Int) (hp : lastOk L) : FnOk cfg 69 ([c1 (.rows [.int .i64, .int .i64] L), agg [.c (.int .i64 a), .c (.int .i64 o)]].map SV.den) (vB (behP L a o) : SV).den := by
  obtain ⟨nn, h⟩ := rent_run L a o hp
  exact FnD.ok rent_g rent_f mixed Tryz.func69 rfl rfl rfl rfl rfl rfl h
noncomputable def c_rent : SpecF := fun args _ K => match args with
  | [.one (.c (.rows [.int .i64, .int .i64] L)), .one (.agg [.c (.int .i64 a), .c (.int .i64 o)])] => bif decide (lastOk L) then K (vB (behP L a o)) [] else none
  | _ => none
theorem c_rent_ok : SpecOk cfg 69 c_rent := by
  intro args bx K out h
  unfold c_rent at h
  split at h
  · obtain ⟨hp, h⟩ := bif_some h
    exact ⟨_, _, h, .inl (rent_ok _ _ _ (of_decide_eq_true hp) _), by simp [isTupS]⟩
  · cases h
/-! ### epactref10.Table -/
noncomputable def rtab_e : Ev' := ⟨Tryz.prog, glob, Γof [(69, c_rent)]⟩
theorem rtab_g : Gd cfg rtab_e := gd (env_cons c_rent_ok (env_nil _))
noncomputable def rtab_f : FnD := ⟨24, Tryz.f24, shOf [(0, ⟨54, [], [(1, [.c (.int .i64), .c (.int .i64), .c (.rows [.int .i64, .int .i64])])], [(1, .c (.ptr 1 0)), (4, .c (.int .i64))]⟩)], Tryz.f24.resultTypes.toList, 0⟩
theorem rtab_ent (h : Hd) (u : Int) (x : Int) (L : List (List D)) : rtab_f.ent rtab_e [] h [agg [.c (.int .i64 u), .c (.int .i64 x), .c (.rows [.int .i64, .int .i64] L)]] [] = h (0 : Nat) [Lf.i u, Lf.i x, Lf.r L, Lf.i (0 : Int)] := by kernel_rfl
theorem rtab_l0 (h : Hd) (u : Int) (x : Int) (L : List (List D)) (i : Int) : rtab_f.seg rtab_e [] h 0 [.i u, .i x, .r L, .i i] = bif decide (i < (↑L.length : Int)) then bif slB (0 : Int) i L.length then bif inB i L.length then bif decide (lastOk (piece L (0 : Int) i)) then bif !behP (piece L (0 : Int) i) ((L.getD i.toNat []).getD (0 : Nat) (D.i (0 : Int))).toI ((L.getD i.toNat []).getD (1 : Nat) (D.i (0 : Int))).toI then ret (SV.tup [tI i, S1.c (Cl.bool false)]) else h (0 : Nat) [Lf.i u, Lf.i x, Lf.r L, Lf.i (IntKind.i64.wrap (i + (1 : Int)))] else none else none else none else bif decide ((0 : Int) < (↑L.length : Int)) then bif decide ((0 : Int) ≤ u) then bif decide (u < (1000000000000000000 : Int)) then bif decide ((0 : Int) ≤ x) then bif !decide (x < (1000000000000000000 : Int)) then ret (SV.tup [tI (↑L.length : Int), S1.c (Cl.bool false)]) else ret (SV.tup [tI (0 : Int), S1.c (Cl.bool true)]) else ret (SV.tup [tI (↑L.length : Int), S1.c (Cl.bool false)]) else ret (SV.tup [tI (↑L.length : Int), S1.c (Cl.bool false)]) else ret (SV.tup [tI (↑L.length : Int), S1.c (Cl.bool false)]) else ret (SV.tup [tI (↑L.length : Int), S1.c (Cl.bool false)]) := by kernel_rfl

theorem rtab_out {v w : Int × Int} {b : Bool} (h : w = v) (hb : decide (v.2 = 0) = b) : ret (.tup [tI v.1, tB b]) = some ⟨.tup [tI w.1, tB (decide (w.2 = 0))], []⟩ := by rw [h, hb]
theorem rtab_loop (u x : Int) (L : List (List D)) : ∀ (k i : Nat), i ≤ L.length → goodTo L i → L.length - i < k →
    rtab_f.H rtab_e [] k 0 [.i u, .i x, .r L, .i (i : Int)] = some ⟨.tup [tI (chkP u x L).1, tB (decide ((chkP u x L).2 = 0))], []⟩ := by
  intro k
  induction k with
  | zero => intro i _ _ h; omega
  | succ k ih =>
    intro i hi hg hk
    have h64 := goodTo_len hg hi
    rw [FnD.H_succ, rtab_l0]
    rw [piece0, Int.toNat_natCast]
    by_cases h : i < L.length
    · refine condT (by omega) (condB (by unfold slB; simp; omega) (condB ((inB_iff _ _).2 (by omega)) (condT (goodTo_last hg hi) ?_)))
      show (bif !okAt L i then _ else _) = _
      cases hb : okAt L i with
      | false => exact rtab_out (v := ((i : Int), 10)) (chkP_at h hg hb) rfl
      | true =>
        have := ih (i + 1) (by omega) (goodTo_succ hg hb) (by omega)
        rw [show IntKind.i64.wrap ((i : Int) + 1) = ((i + 1 : Nat) : Int) by rw [IntWalk.i64_in _ (by omega)]; omega]
        exact this
    · have e : i = L.length := by omega
      subst e
      refine condF (by omega) ?_
      have key := chkP_end (u := u) (x := x) hg
      by_cases h0 : L = []
      · rw [if_pos (.inl h0)] at key
        refine condF (by simp [h0]) ?_
        exact rtab_out (v := ((L.length : Int), 10)) key rfl
      have hl : 0 < L.length := List.length_pos_iff.2 h0
      refine condT (by omega) ?_
      by_cases hu : 0 ≤ u ∧ u ≤ 999999999999999999
      · refine condT hu.1 (condT (by omega) ?_)
        by_cases hx : 0 ≤ x ∧ x ≤ 999999999999999999
        · rw [if_neg (fun g => g.elim h0 (fun g => g.elim (fun a => a hu) (fun a => a hx)))] at key
          refine condT hx.1 (condN (by rw [decide_eq_true (by omega)]; rfl) ?_)
          exact rtab_out (v := (0, 0)) key rfl
        · rw [if_pos (.inr (.inr hx))] at key
          by_cases hx0 : 0 ≤ x
          · refine condT hx0 (condB (by rw [decide_eq_false (by omega)]; rfl) ?_)
            exact rtab_out (v := ((L.length : Int), 10)) key rfl
          · refine condF hx0 ?_
            exact rtab_out (v := ((L.length : Int), 10)) key rfl
      · rw [if_pos (.inr (.inl hu))] at key
        by_cases hu0 : 0 ≤ u
        · refine condT hu0 (condF (by omega) ?_)
          exact rtab_out (v := ((L.length : Int), 10)) key rfl
        · refine condF hu0 ?_
          exact rtab_out (v := ((L.length : Int), 10)) key rfl
theorem rtab_run (u : Int) (x : Int) (L : List (List D)) : ∃ fu, rtab_f.run rtab_e [] fu [agg [.c (.int .i64 u), .c (.int .i64 x), .c (.rows [.int .i64, .int .i64] L)]] [] = some ⟨.tup [tI (chkP u x L).1, tB (decide ((chkP u x L).2 = 0))], []⟩ := by
  refine ⟨L.length + 1, ?_⟩
  rw [FnD.run, rtab_ent]
  exact rtab_loop u x L (L.length + 1) 0 (by omega) (fun j hj => by omega) (by omega)
theorem rtab_ok (u : Int) (x : Int) (L : List (List D)) : FnOk cfg 24 ([agg [.c (.int .i64 u), .c (.int .i64 x), .c (.rows [.int .i64, .int .i64] L)]].map SV.den) (.tup [tI (chkP u x L).1, tB (decide ((chkP u x L).2 = 0))] : SV).den := by
  obtain ⟨nn, h⟩ := rtab_run u x L
  exact FnD.ok rtab_g rtab_f mixed Tryz.func24 rfl rfl rfl rfl rfl rfl h
noncomputable def c_rtab : SpecF := fun args _ K => match args with
  | [.one (.agg [.c (.int .i64 u), .c (.int .i64 x), .c (.rows [.int .i64, .int .i64] L)])] => K (.tup [tI (chkP u x L).1, tB (decide ((chkP u x L).2 = 0))]) []
  | _ => none
theorem c_rtab_ok : SpecOk cfg 24 c_rtab := by
  intro args bx K out h
  unfold c_rtab at h
  split at h
  · exact ⟨_, _, h, .inl (rtab_ok _ _ _ _), by simp [isTupS]⟩
  · cases h
/-! ### epactref10.Same -/
noncomputable def rsame_e : Ev' := ⟨Tryz.prog, glob, Γof []⟩
theorem rsame_g : Gd cfg rsame_e := gd (env_nil _)
noncomputable def rsame_f : FnD := ⟨31, Tryz.f31, shOf [(0, ⟨45, [], [(2, [.c (.int .i64), .c (.int .i64), .c (.rows [.int .i64, .int .i64])]), (3, [.c (.int .i64), .c (.int .i64), .c (.rows [.int .i64, .int .i64])])], [(2, .c (.ptr 2 0)), (3, .c (.ptr 3 0)), (5, .c (.int .i64))]⟩)], Tryz.f31.resultTypes.toList, 0⟩
theorem rsame_ent (h : Hd) (u : Int) (x : Int) (L : List (List D)) (u2 : Int) (x2 : Int) (L2 : List (List D)) : rsame_f.ent rsame_e [] h [agg [.c (.int .i64 u), .c (.int .i64 x), .c (.rows [.int .i64, .int .i64] L)], agg [.c (.int .i64 u2), .c (.int .i64 x2), .c (.rows [.int .i64, .int .i64] L2)]] [] = bif !decide (u = u2) then ret (vB false) else bif !decide (x = x2) then ret (vB false) else bif !decide ((↑L.length : Int) = (↑L2.length : Int)) then ret (vB false) else h (0 : Nat) [Lf.i u, Lf.i x, Lf.r L, Lf.i u2, Lf.i x2, Lf.r L2, Lf.i (0 : Int)] := by kernel_rfl
theorem rsame_l0 (h : Hd) (u : Int) (x : Int) (L : List (List D)) (u2 : Int) (x2 : Int) (L2 : List (List D)) (i : Int) : rsame_f.seg rsame_e [] h 0 [.i u, .i x, .r L, .i u2, .i x2, .r L2, .i i] = bif decide (i < (↑L.length : Int)) then bif inB i L.length then bif inB i L2.length then bif !(decide (((L.getD i.toNat []).getD (0 : Nat) (D.i (0 : Int))).toI = ((L2.getD i.toNat []).getD (0 : Nat) (D.i (0 : Int))).toI) && (decide (((L.getD i.toNat []).getD (1 : Nat) (D.i (0 : Int))).toI = ((L2.getD i.toNat []).getD (1 : Nat) (D.i (0 : Int))).toI) && true)) then ret (vB false) else h (0 : Nat) [Lf.i u, Lf.i x, Lf.r L, Lf.i u2, Lf.i x2, Lf.r L2, Lf.i (IntKind.i64.wrap (i + (1 : Int)))] else none else none else ret (vB true) := by kernel_rfl

theorem rsame_loop (u x : Int) (L : List (List D)) (u2 x2 : Int) (L2 : List (List D)) (hl : L.length = L2.length) (hL : L.length ≤ 9000000000000000000) : ∀ (k i : Nat), i ≤ L.length → (∀ j, j < i → atR (L.getD j []) = atR (L2.getD j []) ∧ ofR (L.getD j []) = ofR (L2.getD j [])) → L.length - i < k →
    rsame_f.H rsame_e [] k 0 [.i u, .i x, .r L, .i u2, .i x2, .r L2, .i (i : Int)] = some ⟨vB ((List.range L.length).all fun i => decide (atR (L.getD i []) = atR (L2.getD i [])) && decide (ofR (L.getD i []) = ofR (L2.getD i []))), []⟩ := by
  intro k
  induction k with
  | zero => intro i _ _ h; omega
  | succ k ih =>
    intro i hi hg hk
    rw [FnD.H_succ, rsame_l0]
    rw [Int.toNat_natCast]
    by_cases h : i < L.length
    · refine condT (by omega) (condB ((inB_iff _ _).2 (by omega)) (condB ((inB_iff _ _).2 (by omega)) ?_))
      show (bif !(decide (atR (L.getD i []) = atR (L2.getD i [])) && (decide (ofR (L.getD i []) = ofR (L2.getD i [])) && true)) then _ else _) = _
      by_cases e : atR (L.getD i []) = atR (L2.getD i []) ∧ ofR (L.getD i []) = ofR (L2.getD i [])
      · refine condN (by rw [decide_eq_true e.1, decide_eq_true e.2]; rfl) ?_
        have := ih (i + 1) (by omega) (fun j hj => by
          rcases Nat.lt_or_ge j i with g | g
          · exact hg j g
          · have : j = i := by omega
            rw [this]; exact e) (by omega)
        rw [show IntKind.i64.wrap ((i : Int) + 1) = ((i + 1 : Nat) : Int) by rw [IntWalk.i64_in _ (by omega)]; omega]
        exact this
      · have e2 : (decide (atR (L.getD i []) = atR (L2.getD i [])) && decide (ofR (L.getD i []) = ofR (L2.getD i []))) = false := by rw [← Bool.decide_and]; exact decide_eq_false e
        refine condB (by rw [Bool.and_true, e2]; rfl) (retV ?_)
        refine congrArg vB (Eq.symm ?_)
        rw [List.all_eq_false]
        exact ⟨i, List.mem_range.2 h, by rw [e2]; decide⟩
    · refine condF (by omega) (retV ?_)
      refine congrArg vB (Eq.symm ?_)
      rw [List.all_eq_true]
      intro j hj
      obtain ⟨e1, e2⟩ := hg j (by have := List.mem_range.1 hj; omega)
      rw [decide_eq_true e1, decide_eq_true e2]; rfl
theorem rsame_run (u : Int) (x : Int) (L : List (List D)) (u2 : Int) (x2 : Int) (L2 : List (List D)) (hp : L.length ≤ 9000000000000000000) : ∃ fu, rsame_f.run rsame_e [] fu [agg [.c (.int .i64 u), .c (.int .i64 x), .c (.rows [.int .i64, .int .i64] L)], agg [.c (.int .i64 u2), .c (.int .i64 x2), .c (.rows [.int .i64, .int .i64] L2)]] [] = some ⟨vB (sameP u x L u2 x2 L2), []⟩ := by
  unfold sameP
  by_cases hu : u = u2
  case neg => exact ⟨0, by rw [FnD.run, rsame_ent, decide_eq_false hu]; rfl⟩
  by_cases hx : x = x2
  case neg => exact ⟨0, by rw [FnD.run, rsame_ent, decide_eq_false hx, decide_eq_true hu]; rfl⟩
  by_cases hl : L.length = L2.length
  case neg => exact ⟨0, by rw [FnD.run, rsame_ent, decide_eq_true hu, decide_eq_true hx, decide_eq_false hl, decide_eq_false (show ¬ (L.length : Int) = L2.length by omega)]; rfl⟩
  refine ⟨L.length + 1, ?_⟩
  rw [FnD.run, rsame_ent, decide_eq_true hu, decide_eq_true hx, decide_eq_true hl, decide_eq_true (show (L.length : Int) = L2.length by omega)]
  exact rsame_loop u x L u2 x2 L2 hl hp (L.length + 1) 0 (by omega) (fun j hj => by omega) (by omega)
theorem rsame_ok (u : Int) (x : Int) (L : List (List D)) (u2 : Int) (x2 : Int) (L2 : List (List D)) (hp : L.length ≤ 9000000000000000000) : FnOk cfg 31 ([agg [.c (.int .i64 u), .c (.int .i64 x), .c (.rows [.int .i64, .int .i64] L)], agg [.c (.int .i64 u2), .c (.int .i64 x2), .c (.rows [.int .i64, .int .i64] L2)]].map SV.den) (vB (sameP u x L u2 x2 L2) : SV).den := by
  obtain ⟨nn, h⟩ := rsame_run u x L u2 x2 L2 hp
  exact FnD.ok rsame_g rsame_f mixed Tryz.func31 rfl rfl rfl rfl rfl rfl h
noncomputable def c_rsame : SpecF := fun args _ K => match args with
  | [.one (.agg [.c (.int .i64 u), .c (.int .i64 x), .c (.rows [.int .i64, .int .i64] L)]), .one (.agg [.c (.int .i64 u2), .c (.int .i64 x2), .c (.rows [.int .i64, .int .i64] L2)])] => bif decide (L.length ≤ 9000000000000000000) then K (vB (sameP u x L u2 x2 L2)) [] else none
  | _ => none
theorem c_rsame_ok : SpecOk cfg 31 c_rsame := by
  intro args bx K out h
  unfold c_rsame at h
  split at h
  · obtain ⟨hp, h⟩ := bif_some h
    exact ⟨_, _, h, .inl (rsame_ok _ _ _ _ _ _ (of_decide_eq_true hp) _), by simp [isTupS]⟩
  · cases h

theorem textOf_1 (n : Nat) (h : n < 256) : textOf [(n : Int)] = tx [UInt8.ofNat n] := by
  simp [textOf, tx]
/-! ### epactref10.Dec -/
noncomputable def c_ndecB (B : Nat) : SpecF := fun args _ K => match args with
  | [.one (.c (.int .i64 n))] => bif decide ((0 ≤ n ∧ n < 9223372036854775808) ∧ n.toNat < B) then K (vS (tx (Lib.decDigits n.toNat))) [] else none
  | _ => none
noncomputable def ndec_e (B : Nat) : Ev' := ⟨Tryz.prog, glob, Γof [(79, c_ndecB B)]⟩
theorem ndec_g (B : Nat) (hB : SpecOk cfg 79 (c_ndecB B)) : Gd cfg (ndec_e B) := gd (env_cons hB (env_nil _))
noncomputable def ndec_f : FnD := ⟨79, Tryz.f79, noSh, Tryz.f79.resultTypes.toList, 0⟩
theorem ndec_ent (h : Hd) (B : Nat) (n : Int) : ndec_f.ent (ndec_e B) [] h [vI n] [] = let v1 : ByteArray := textOf [IntKind.u8.wrap (IntKind.i64.wrap ((48 : Int) + n.tmod (10 : Int)))]; let v2 : Nat := (tx (Lib.decDigits (IntKind.i64.wrap (n.tdiv (10 : Int))).toNat)).size + v1.size; bif decide (n < (10 : Int)) then ret (vS (textOf [IntKind.u8.wrap (IntKind.i64.wrap ((48 : Int) + n))])) else bif decide (((0 : Int) ≤ IntKind.i64.wrap (n.tdiv (10 : Int)) ∧ IntKind.i64.wrap (n.tdiv (10 : Int)) < (9223372036854775808 : Int)) ∧ (IntKind.i64.wrap (n.tdiv (10 : Int))).toNat < B) then bif decide (v2 ≤ (9223372036854775807 : Nat)) then ret (vS (tx (Lib.decDigits (IntKind.i64.wrap (n.tdiv (10 : Int))).toNat) ++ v1)) else none else none := by kernel_rfl
theorem ndec_run (B : Nat) (n : Int) (hp : 0 ≤ n ∧ n < 9223372036854775808) (hB : n.toNat < B + 1) : ∃ fu, ndec_f.run (ndec_e B) [] fu [vI n] [] = some ⟨vS (tx (Lib.decDigits n.toNat)), []⟩ := by
  refine ⟨0, ?_⟩
  rw [FnD.run, ndec_ent]
  obtain ⟨h1, h2⟩ := hp
  obtain ⟨n, rfl⟩ := Int.eq_ofNat_of_zero_le h1
  rw [Int.toNat_natCast] at hB
  have w1 : IntKind.i64.wrap (((n : Nat) : Int).tdiv 10) = ((n / 10 : Nat) : Int) := by rw [show ((n : Nat) : Int).tdiv 10 = ((n / 10 : Nat) : Int) from rfl]; exact IntWalk.i64_in _ (by omega)
  have w2 : IntKind.u8.wrap (IntKind.i64.wrap (48 + ((n : Nat) : Int).tmod 10)) = ((48 + n % 10 : Nat) : Int) := by
    rw [show ((n : Nat) : Int).tmod 10 = ((n % 10 : Nat) : Int) from rfl, IntWalk.i64_in _ (by omega), IntWalk.u8_in _ (by omega)]; omega
  dsimp only
  rw [w1, w2, textOf_1 _ (by omega), Int.toNat_natCast, Int.toNat_natCast, tx_size, tx_size]
  by_cases h : n < 10
  · refine condT (by omega) (retV ?_)
    rw [IntWalk.i64_in _ (by omega), IntWalk.u8_in _ (by omega), show (48 : Int) + (n : Nat) = ((48 + n : Nat) : Int) by omega, textOf_1 _ (by omega), dec_small h]
  · have : (Lib.decDigits (n / 10)).length ≤ 19 := dec_len (k := 18) (by omega)
    refine condF (by omega) (condT ⟨by omega, by omega⟩ (condT (by rw [List.length_singleton]; omega) (retV ?_)))
    rw [dec_big h, tx_append]
theorem ndec_okB : ∀ (B : Nat), SpecOk cfg 79 (c_ndecB B)
  | 0 => by
    intro args bx K out h
    unfold c_ndecB at h
    split at h
    · obtain ⟨hp, _⟩ := bif_some h
      exact absurd (of_decide_eq_true hp).2 (Nat.not_lt_zero _)
    · cases h
  | B + 1 => by
    intro args bx K out h
    unfold c_ndecB at h
    split at h
    · obtain ⟨hp, h2⟩ := bif_some h
      have hp := of_decide_eq_true hp
      obtain ⟨nn, hr⟩ := ndec_run B _ hp.1 hp.2
      exact ⟨_, _, h2, .inl ((FnD.ok (ndec_g B (ndec_okB B)) ndec_f mixed Tryz.func79 rfl rfl rfl rfl rfl rfl hr) _), by simp [isTupS]⟩
    · cases h
theorem ndec_ok (n : Int) (hp : 0 ≤ n ∧ n < 9223372036854775808) : FnOk cfg 79 ([vI n].map SV.den) (vS (tx (Lib.decDigits n.toNat)) : SV).den := by
  obtain ⟨nn, h⟩ := ndec_run (n.toNat) n hp (Nat.lt_succ_self _)
  exact FnD.ok (ndec_g _ (ndec_okB _)) ndec_f mixed Tryz.func79 rfl rfl rfl rfl rfl rfl h
noncomputable def c_ndec : SpecF := fun args _ K => match args with
  | [.one (.c (.int .i64 n))] => bif decide (0 ≤ n ∧ n < 9223372036854775808) then K (vS (tx (Lib.decDigits n.toNat))) [] else none
  | _ => none
theorem c_ndec_ok : SpecOk cfg 79 c_ndec := by
  intro args bx K out h
  unfold c_ndec at h
  split at h
  · obtain ⟨hp, h⟩ := bif_some h
    exact ⟨_, _, h, .inl (ndec_ok _ (of_decide_eq_true hp) _), by simp [isTupS]⟩
  · cases h

instance (L : List (List D)) (n : Nat) : Decidable (goodTo L n) := by unfold goodTo; exact inferInstance
/-! ### epactref10.Digits -/
noncomputable def rdgs_e : Ev' := ⟨Tryz.prog, glob, Γof [(79, c_ndec)]⟩
theorem rdgs_g : Gd cfg rdgs_e := gd (env_cons c_ndec_ok (env_nil _))
noncomputable def rdgs_f : FnD := ⟨29, Tryz.f29, shOf [(0, ⟨37, [], [(1, [.c (.int .i64), .c (.int .i64), .c (.rows [.int .i64, .int .i64])])], [(1, .c (.ptr 1 0)), (3, .c (.str)), (4, .c (.int .i64))]⟩)], Tryz.f29.resultTypes.toList, 0⟩
theorem rdgs_ent (h : Hd) (u : Int) (x : Int) (L : List (List D)) : rdgs_f.ent rdgs_e [] h [agg [.c (.int .i64 u), .c (.int .i64 x), .c (.rows [.int .i64, .int .i64] L)]] [] = bif decide ((0 : Int) ≤ u ∧ u < (9223372036854775808 : Int)) then bif decide ((0 : Int) ≤ x ∧ x < (9223372036854775808 : Int)) then bif decide ((tx (Lib.decDigits u.toNat)).size + (tx (Lib.decDigits x.toNat)).size ≤ (9223372036854775807 : Nat)) then h (0 : Nat) [Lf.i u, Lf.i x, Lf.r L, Lf.s (tx (Lib.decDigits u.toNat) ++ tx (Lib.decDigits x.toNat)), Lf.i (0 : Int)] else none else none else none := by kernel_rfl
theorem rdgs_l0 (h : Hd) (u : Int) (x : Int) (L : List (List D)) (s : ByteArray) (i : Int) : rdgs_f.seg rdgs_e [] h 0 [.i u, .i x, .r L, .s s, .i i] = let v1 : ByteArray := tx (Lib.decDigits ((L.getD i.toNat []).getD (0 : Nat) (D.i (0 : Int))).toI.toNat); let v2 : Nat := s.size + v1.size; let v3 : ByteArray := s ++ v1; let v4 : ByteArray := tx (Lib.decDigits ((L.getD i.toNat []).getD (1 : Nat) (D.i (0 : Int))).toI.toNat); let v5 : Nat := v3.size + v4.size; bif decide (i < (↑L.length : Int)) then bif inB i L.length then bif decide ((0 : Int) ≤ ((L.getD i.toNat []).getD (0 : Nat) (D.i (0 : Int))).toI ∧ ((L.getD i.toNat []).getD (0 : Nat) (D.i (0 : Int))).toI < (9223372036854775808 : Int)) then bif decide (v2 ≤ (9223372036854775807 : Nat)) then bif inB i L.length then bif decide ((0 : Int) ≤ ((L.getD i.toNat []).getD (1 : Nat) (D.i (0 : Int))).toI ∧ ((L.getD i.toNat []).getD (1 : Nat) (D.i (0 : Int))).toI < (9223372036854775808 : Int)) then bif decide (v5 ≤ (9223372036854775807 : Nat)) then h (0 : Nat) [Lf.i u, Lf.i x, Lf.r L, Lf.s (v3 ++ v4), Lf.i (IntKind.i64.wrap (i + (1 : Int)))] else none else none else none else none else none else none else ret (vS s) := by kernel_rfl

theorem row_txt (v : Int) : (rowS [D.s (tx (Lib.itoa v))]).data.toList = Lib.itoa v := tx_toList _
theorem dgL_succ (u x : Int) (L : List (List D)) (i : Nat) (hi : i < L.length) : dgL u x (L.take (i + 1)) = dgL u x (L.take i) ++ Lib.itoa (atR (L.getD i [])) ++ Lib.itoa (ofR (L.getD i [])) := by
  unfold dgL
  rw [joinD_nil, joinD_nil, numR_succ u x L i hi, List.map_append, List.flatten_append]
  simp only [List.map_cons, List.map_nil, List.flatten_cons, List.flatten_nil, List.append_nil, row_txt, List.append_assoc]
theorem dgL_zero (u x : Int) : dgL u x [] = Lib.itoa u ++ Lib.itoa x := by
  unfold dgL
  rw [joinD_nil]
  show ([[D.s (tx (Lib.itoa u))], [.s (tx (Lib.itoa x))]].map _).flatten = _
  simp only [List.map_cons, List.map_nil, List.flatten_cons, List.flatten_nil, List.append_nil, row_txt]
theorem dec_len41 {v : Int} (h : 0 ≤ v ∧ v < 9223372036854775808) : (Lib.decDigits v.toNat).length ≤ 41 := by
  rw [← itoa_pos h.1]; exact itoa_len64 ⟨by omega, by omega⟩
theorem rdgs_loop (u x : Int) (L : List (List D)) (hg : goodTo L L.length) : ∀ (k i : Nat), i ≤ L.length → (dgL u x (L.take i)).length ≤ 82 + 82 * i → L.length - i < k →
    rdgs_f.H rdgs_e [] k 0 [.i u, .i x, .r L, .s (tx (dgL u x (L.take i))), .i (i : Int)] = some ⟨vS (tx (dgL u x L)), []⟩ := by
  have h64 := goodTo_len hg (Nat.le_refl _)
  intro k
  induction k with
  | zero => intro i _ _ h; omega
  | succ k ih =>
    intro i hi hlen hk
    rw [FnD.H_succ, rdgs_l0]
    dsimp only
    rw [Int.toNat_natCast]
    by_cases h : i < L.length
    · have hb := behP_len (hg i h)
      show (bif decide ((i : Int) < (L.length : Int)) then bif inB (i : Int) L.length then bif decide (0 ≤ atR (L.getD i []) ∧ atR (L.getD i []) < 9223372036854775808) then _ else _ else _ else _) = _
      have ea : (0 : Int) ≤ atR (L.getD i []) ∧ atR (L.getD i []) < 9223372036854775808 := by omega
      have eo : (0 : Int) ≤ ofR (L.getD i []) ∧ ofR (L.getD i []) < 9223372036854775808 := by omega
      have la := dec_len41 ea
      have lo := dec_len41 eo
      have nx := ih (i + 1) (by omega) (by
        rw [dgL_succ u x L i h, itoa_pos ea.1, itoa_pos eo.1, List.length_append, List.length_append]
        omega) (by omega)
      rw [dgL_succ u x L i h, itoa_pos ea.1, itoa_pos eo.1, ← tx_append, ← tx_append] at nx
      refine condT (by omega) (condB ((inB_iff _ _).2 (by omega)) (condT ea (condT ?_ (condB ((inB_iff _ _).2 (by omega)) (condT eo (condT ?_ ?_))))))
      · rw [tx_size, tx_size]
        show (dgL u x (L.take i)).length + (Lib.decDigits (atR (L.getD i [])).toNat).length ≤ _
        omega
      · rw [ByteArray.size_append, tx_size, tx_size, tx_size]
        show (dgL u x (L.take i)).length + (Lib.decDigits (atR (L.getD i [])).toNat).length + (Lib.decDigits (ofR (L.getD i [])).toNat).length ≤ _
        omega
      · rw [show IntKind.i64.wrap ((i : Int) + 1) = ((i + 1 : Nat) : Int) by rw [IntWalk.i64_in _ (by omega)]; omega]
        exact nx
    · have e : i = L.length := by omega
      subst e
      exact condF (by omega) (by rw [List.take_length])
theorem rdgs_run (u : Int) (x : Int) (L : List (List D)) (hp : (0 ≤ u ∧ u < 9223372036854775808) ∧ (0 ≤ x ∧ x < 9223372036854775808) ∧ goodTo L L.length) : ∃ fu, rdgs_f.run rdgs_e [] fu [agg [.c (.int .i64 u), .c (.int .i64 x), .c (.rows [.int .i64, .int .i64] L)]] [] = some ⟨vS (tx (dgL u x L)), []⟩ := by
  obtain ⟨h1, h2, h3⟩ := hp
  have l1 := dec_len41 h1
  have l2 := dec_len41 h2
  have e0 : tx (Lib.decDigits u.toNat) ++ tx (Lib.decDigits x.toNat) = tx (dgL u x (L.take 0)) := by
    rw [List.take_zero, dgL_zero, itoa_pos h1.1, itoa_pos h2.1, tx_append]
  refine ⟨L.length + 1, ?_⟩
  rw [FnD.run, rdgs_ent]
  refine condT h1 (condT h2 (condT (by rw [tx_size, tx_size]; omega) ?_))
  rw [e0]
  exact rdgs_loop u x L h3 (L.length + 1) 0 (by omega) (by rw [List.take_zero, dgL_zero, itoa_pos h1.1, itoa_pos h2.1, List.length_append]; omega) (by omega)
theorem rdgs_ok (u : Int) (x : Int) (L : List (List D)) (hp : (0 ≤ u ∧ u < 9223372036854775808) ∧ (0 ≤ x ∧ x < 9223372036854775808) ∧ goodTo L L.length) : FnOk cfg 29 ([agg [.c (.int .i64 u), .c (.int .i64 x), .c (.rows [.int .i64, .int .i64] L)]].map SV.den) (vS (tx (dgL u x L)) : SV).den := by
  obtain ⟨nn, h⟩ := rdgs_run u x L hp
  exact FnD.ok rdgs_g rdgs_f mixed Tryz.func29 rfl rfl rfl rfl rfl rfl h
noncomputable def c_rdgs : SpecF := fun args _ K => match args with
  | [.one (.agg [.c (.int .i64 u), .c (.int .i64 x), .c (.rows [.int .i64, .int .i64] L)])] => bif decide ((0 ≤ u ∧ u < 9223372036854775808) ∧ (0 ≤ x ∧ x < 9223372036854775808) ∧ goodTo L L.length) then K (vS (tx (dgL u x L))) [] else none
  | _ => none
theorem c_rdgs_ok : SpecOk cfg 29 c_rdgs := by
  intro args bx K out h
  unfold c_rdgs at h
  split at h
  · obtain ⟨hp, h⟩ := bif_some h
    exact ⟨_, _, h, .inl (rdgs_ok _ _ _ (of_decide_eq_true hp) _), by simp [isTupS]⟩
  · cases h
end Go.Proofs.YtldofkogmkfpjaaGreatDoor
