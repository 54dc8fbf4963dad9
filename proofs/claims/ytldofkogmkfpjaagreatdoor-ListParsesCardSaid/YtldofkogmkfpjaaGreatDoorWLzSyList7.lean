/-
  The contracts of layer 11's statements: answers, ListChecks.
-/
import Derived.Test.YtldofkogmkfpjaaGreatDoorWLzSyList6
import Derived.Test.YtldofkogmkfpjaaGreatDoorWLzSyList4
namespace Go.Proofs.YtldofkogmkfpjaaGreatDoor
open Go Go.Ev Go.Sy
set_option linter.unusedSimpArgs false
set_option linter.unusedVariables false
set_option maxRecDepth 10000
set_option maxHeartbeats 4000000
/-! ### epactlaw11.answers -/
noncomputable def lans_e : Ev' := ⟨Tryz.prog, glob, Γof [(23, c_lck), (28, c_lprs), (26, c_lprn), (27, c_ldg), (31, c_rsame)]⟩
theorem lans_g : Gd cfg lans_e := gd (env_cons c_lck_ok (env_cons c_lprs_ok (env_cons c_lprn_ok (env_cons c_ldg_ok (env_cons c_rsame_ok (env_nil _))))))
noncomputable def lans_f : FnD := ⟨25, Tryz.f25, noSh, Tryz.f25.resultTypes.toList, 0⟩
theorem lans_ent (h : Hd)  : lans_f.ent lans_e [] h [] [] = let v1 : Int := (parT (tx (prnP (1 : Int) (2 : Int) [[D.i (2272060800 : Int), D.i (10 : Int)]])).data.toList).snd.snd; let v2 : Int := (parT (tx (prnP (1 : Int) (2 : Int) [[D.i (2272060800 : Int), D.i (10 : Int)]])).data.toList).snd.fst; bif decide (v1 = (0 : Int)) then bif decide (v2 = (0 : Int)) then bif sameP (1 : Int) (2 : Int) [[D.i (2272060800 : Int), D.i (10 : Int)]] (parT (tx (prnP (1 : Int) (2 : Int) [[D.i (2272060800 : Int), D.i (10 : Int)]])).data.toList).fst.fst (parT (tx (prnP (1 : Int) (2 : Int) [[D.i (2272060800 : Int), D.i (10 : Int)]])).data.toList).fst.snd.fst (parT (tx (prnP (1 : Int) (2 : Int) [[D.i (2272060800 : Int), D.i (10 : Int)]])).data.toList).fst.snd.snd then ret (vB true) else ret (vB false) else ret (vB false) else ret (vB false) := by kernel_rfl
theorem lans_run  : ∃ fu, lans_f.run lans_e [] fu [] [] = some ⟨vB true, []⟩ := by
  refine ⟨0, ?_⟩
  rw [FnD.run, lans_ent]
  have hc : (chkP 1 2 [[D.i 2272060800, D.i 10]]).2 = 0 := by decide
  have hp : prnP 1 2 [[D.i 2272060800, D.i 10]] = prnL 1 2 [[D.i 2272060800, D.i 10]] := if_pos hc
  have hr := parT_prn hc (fun e he => by
    simp only [List.mem_cons, List.not_mem_nil, or_false] at he
    subst he; rfl)
  dsimp only
  rw [tx_toList, hp, hr]
  exact condT rfl (condT rfl (condB (by decide) rfl))
theorem lans_ok  : FnOk cfg 25 ([].map SV.den) (vB true : SV).den := by
  obtain ⟨nn, h⟩ := lans_run 
  exact FnD.ok lans_g lans_f mixed Tryz.func25 rfl rfl rfl rfl rfl rfl h
noncomputable def c_lans : SpecF := fun args _ K => match args with
  | [] => K (vB true) []
  | _ => none
theorem c_lans_ok : SpecOk cfg 25 c_lans := by
  intro args bx K out h
  unfold c_lans at h
  split at h
  · exact ⟨_, _, h, .inl (lans_ok  _), by simp [isTupS]⟩
  · cases h
/-! ### epactlaw11.ListChecks -/
noncomputable def lk6_e : Ev' := ⟨Tryz.prog, glob, Γof [(23, c_lck), (24, c_rtab), (25, c_lans)]⟩
theorem lk6_g : Gd cfg lk6_e := gd (env_cons c_lck_ok (env_cons c_rtab_ok (env_cons c_lans_ok (env_nil _))))
noncomputable def lk6_f : FnD := ⟨6, Tryz.f6, noSh, Tryz.f6.resultTypes.toList, 0⟩
theorem lk6_ent (h : Hd) (u : Int) (x : Int) (L : List (List D)) : lk6_f.ent lk6_e [] h [agg [.c (.int .i64 u), .c (.int .i64 x), .c (.rows [.int .i64, .int .i64] L)]] [] = bif decide ((chkP u x L).fst = (chkP u x L).fst) then bif decide ((chkP u x L).snd = (0 : Int)) == decide ((chkP u x L).snd = (0 : Int)) then bif decide ((chkP u x L).snd = (0 : Int)) then ret (vB true) else ret (vB (decide ((chkP u x L).snd = (10 : Int)))) else ret (vB false) else ret (vB false) := by kernel_rfl

theorem chkP_err (u x : Int) (L : List (List D)) : (chkP u x L).2 = 0 ∨ (chkP u x L).2 = 10 := by
  unfold chkP
  split
  · exact .inr rfl
  · split
    · exact .inr rfl
    · exact .inl rfl
theorem lk6_run (u : Int) (x : Int) (L : List (List D)) : ∃ fu, lk6_f.run lk6_e [] fu [agg [.c (.int .i64 u), .c (.int .i64 x), .c (.rows [.int .i64, .int .i64] L)]] [] = some ⟨vB true, []⟩ := by
  refine ⟨0, ?_⟩
  rw [FnD.run, lk6_ent]
  refine condT rfl (condB (by simp) ?_)
  rcases chkP_err u x L with h | h
  · exact condT h rfl
  · refine condF (by rw [h]; decide) ?_
    rw [decide_eq_true h]
theorem lk6_ok (u : Int) (x : Int) (L : List (List D)) : FnOk cfg 6 ([agg [.c (.int .i64 u), .c (.int .i64 x), .c (.rows [.int .i64, .int .i64] L)]].map SV.den) (vB true : SV).den := by
  obtain ⟨nn, h⟩ := lk6_run u x L
  exact FnD.ok lk6_g lk6_f mixed Tryz.func6 rfl rfl rfl rfl rfl rfl h
noncomputable def c_lk6 : SpecF := fun args _ K => match args with
  | [.one (.agg [.c (.int .i64 u), .c (.int .i64 x), .c (.rows [.int .i64, .int .i64] L)])] => K (vB true) []
  | _ => none
theorem c_lk6_ok : SpecOk cfg 6 c_lk6 := by
  intro args bx K out h
  unfold c_lk6 at h
  split at h
  · exact ⟨_, _, h, .inl (lk6_ok _ _ _ _), by simp [isTupS]⟩
  · cases h
end Go.Proofs.YtldofkogmkfpjaaGreatDoor
