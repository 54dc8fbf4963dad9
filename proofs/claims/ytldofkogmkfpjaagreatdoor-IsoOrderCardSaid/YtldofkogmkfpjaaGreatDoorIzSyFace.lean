/-
  The contracts of the times of day.
-/
import Derived.Test.YtldofkogmkfpjaaGreatDoorIzSyIsoShelf
namespace Go.Proofs.YtldofkogmkfpjaaGreatDoor
open Go Go.Ev Go.Sy
set_option linter.unusedSimpArgs false
set_option linter.unusedVariables false
set_option maxRecDepth 10000
set_option maxHeartbeats 4000000
theorem retV {v w : SV} (h : v = w) : (ret v) = some ⟨w, []⟩ := by rw [h]
theorem retBB {a b : Bool} (h : a = b) : (ret (vB a)) = some ⟨vB b, []⟩ := by rw [h]
/-! ### face.within[int] -/
noncomputable def within_e : Ev' := ⟨Tryz.prog, glob, Γof []⟩
theorem within_g : Gd cfg within_e := gd (env_nil _)
noncomputable def within_f : FnD := ⟨93, Tryz.f93, noSh, Tryz.f93.resultTypes.toList⟩
theorem within_ent (h : Hd) (a : Int) (b : Int) : within_f.ent within_e [] h [vI a, vI b] [] = bif decide ((0 : Int) ≤ a) then ret (vB (decide (a < b))) else ret (vB false) := by kernel_rfl
theorem within_run (a : Int) (b : Int) : ∃ fu, within_f.run within_e [] fu [vI a, vI b] [] = some ⟨vB (decide (0 ≤ a ∧ a < b)), []⟩ := by
  refine ⟨0, ?_⟩
  rw [FnD.run, within_ent]
  by_cases h : 0 ≤ a <;> by_cases h2 : a < b <;> simp [h, h2]
theorem within_ok (a : Int) (b : Int) : FnOk cfg 93 ([vI a, vI b].map SV.den) (vB (decide (0 ≤ a ∧ a < b)) : SV).den := by
  obtain ⟨nn, h⟩ := within_run a b
  exact FnD.ok within_g within_f mixed Tryz.func93 rfl rfl rfl rfl rfl rfl h
noncomputable def c_within : SpecF := fun args _ K => match args with
  | [.one (.c (.int .i64 a)), .one (.c (.int .i64 b))] => K (vB (decide (0 ≤ a ∧ a < b))) []
  | _ => none
theorem c_within_ok : SpecOk cfg 93 c_within := by
  intro args bx K out h
  unfold c_within at h
  split at h
  · exact ⟨_, _, h, .inl (within_ok _ _ _), by simp [isTupS]⟩
  · cases h
/-! ### face.start -/
noncomputable def start_e : Ev' := ⟨Tryz.prog, glob, Γof []⟩
theorem start_g : Gd cfg start_e := gd (env_nil _)
noncomputable def start_f : FnD := ⟨106, Tryz.f106, noSh, Tryz.f106.resultTypes.toList⟩
theorem start_ent (h : Hd) (hh : Int) (mi : Int) (s : Int) (a : Int) : start_f.ent start_e [] h [agg [.c (.int .i64 hh), .c (.int .i64 mi), .c (.int .i64 s), .c (.int .i64 a)]] [] = ret (vI (IntKind.i64.wrap (IntKind.i64.wrap (hh * (3600 : Int)) + IntKind.i64.wrap (mi * (60 : Int))))) := by kernel_rfl
theorem start_run (hh : Int) (mi : Int) (s : Int) (a : Int) : ∃ fu, start_f.run start_e [] fu [agg [.c (.int .i64 hh), .c (.int .i64 mi), .c (.int .i64 s), .c (.int .i64 a)]] [] = some ⟨vI (IntKind.i64.wrap (IntKind.i64.wrap (hh * 3600) + IntKind.i64.wrap (mi * 60))), []⟩ := by
  refine ⟨0, ?_⟩
  rw [FnD.run, start_ent]
theorem start_ok (hh : Int) (mi : Int) (s : Int) (a : Int) : FnOk cfg 106 ([agg [.c (.int .i64 hh), .c (.int .i64 mi), .c (.int .i64 s), .c (.int .i64 a)]].map SV.den) (vI (IntKind.i64.wrap (IntKind.i64.wrap (hh * 3600) + IntKind.i64.wrap (mi * 60))) : SV).den := by
  obtain ⟨nn, h⟩ := start_run hh mi s a
  exact FnD.ok start_g start_f mixed Tryz.func106 rfl rfl rfl rfl rfl rfl h
noncomputable def c_start : SpecF := fun args _ K => match args with
  | [.one (.agg [.c (.int .i64 hh), .c (.int .i64 mi), .c (.int .i64 s), .c (.int .i64 a)])] => K (vI (IntKind.i64.wrap (IntKind.i64.wrap (hh * 3600) + IntKind.i64.wrap (mi * 60)))) []
  | _ => none
theorem c_start_ok : SpecOk cfg 106 c_start := by
  intro args bx K out h
  unfold c_start at h
  split at h
  · exact ⟨_, _, h, .inl (start_ok _ _ _ _ _), by simp [isTupS]⟩
  · cases h
/-! ### face.Valid -/
noncomputable def fvalid_e : Ev' := ⟨Tryz.prog, glob, Γof [(93, c_within), (106, c_start)]⟩
theorem fvalid_g : Gd cfg fvalid_e := gd (env_cons c_within_ok (env_cons c_start_ok (env_nil _)))
noncomputable def fvalid_f : FnD := ⟨55, Tryz.f55, noSh, Tryz.f55.resultTypes.toList⟩
theorem fvalid_ent (h : Hd) (hh : Int) (mi : Int) (s : Int) (a : Int) : fvalid_f.ent fvalid_e [] h [agg [.c (.int .i64 hh), .c (.int .i64 mi), .c (.int .i64 s), .c (.int .i64 a)]] [] = let v1 : Int := IntKind.i64.wrap (IntKind.i64.wrap (hh * (3600 : Int)) + IntKind.i64.wrap (mi * (60 : Int))); bif !decide ((0 : Int) ≤ hh ∧ hh < (24 : Int)) then ret (vB false) else bif !decide ((0 : Int) ≤ mi ∧ mi < (60 : Int)) then ret (vB false) else bif !decide ((0 : Int) ≤ a ∧ a < (1000000000000000000 : Int)) then ret (vB false) else bif decide ((0 : Int) ≤ s ∧ s < (60 : Int)) then ret (vB true) else bif decide (s = (60 : Int)) then ret (vB (decide (v1 = (86340 : Int)))) else ret (vB false) := by kernel_rfl
theorem fvalid_run (hh : Int) (mi : Int) (s : Int) (a : Int) : ∃ fu, fvalid_f.run fvalid_e [] fu [agg [.c (.int .i64 hh), .c (.int .i64 mi), .c (.int .i64 s), .c (.int .i64 a)]] [] = some ⟨vB (timeOk hh mi s a), []⟩ := by
  refine ⟨0, ?_⟩
  rw [FnD.run, fvalid_ent]
  dsimp only
  unfold timeOk
  by_cases h1 : 0 ≤ hh ∧ hh < 24
  · refine condN (by rw [decide_eq_true h1]; rfl) ?_
    by_cases h2 : 0 ≤ mi ∧ mi < 60
    · refine condN (by rw [decide_eq_true h2]; rfl) ?_
      by_cases h3 : 0 ≤ a ∧ a < 1000000000000000000
      · refine condN (by rw [decide_eq_true h3]; rfl) ?_
        by_cases h4 : 0 ≤ s ∧ s < 60
        · exact condT h4 (retBB (decide_eq_true (by omega)).symm)
        · refine condF h4 ?_
          by_cases h5 : s = 60
          · refine condT h5 (retBB ?_)
            rw [i64_in' (hh * 3600) (by omega), i64_in' (mi * 60) (by omega), i64_in' _ (by omega), decide_eq_decide]
            omega
          · exact condF h5 (retBB (decide_eq_false (by omega)).symm)
      · exact condB (by rw [decide_eq_false h3]; rfl) (retBB (decide_eq_false (by omega)).symm)
    · exact condB (by rw [decide_eq_false h2]; rfl) (retBB (decide_eq_false (by omega)).symm)
  · exact condB (by rw [decide_eq_false h1]; rfl) (retBB (decide_eq_false (by omega)).symm)
theorem fvalid_ok (hh : Int) (mi : Int) (s : Int) (a : Int) : FnOk cfg 55 ([agg [.c (.int .i64 hh), .c (.int .i64 mi), .c (.int .i64 s), .c (.int .i64 a)]].map SV.den) (vB (timeOk hh mi s a) : SV).den := by
  obtain ⟨nn, h⟩ := fvalid_run hh mi s a
  exact FnD.ok fvalid_g fvalid_f mixed Tryz.func55 rfl rfl rfl rfl rfl rfl h
noncomputable def c_fvalid : SpecF := fun args _ K => match args with
  | [.one (.agg [.c (.int .i64 hh), .c (.int .i64 mi), .c (.int .i64 s), .c (.int .i64 a)])] => K (vB (timeOk hh mi s a)) []
  | _ => none
theorem c_fvalid_ok : SpecOk cfg 55 c_fvalid := by
  intro args bx K out h
  unfold c_fvalid at h
  split at h
  · exact ⟨_, _, h, .inl (fvalid_ok _ _ _ _ _), by simp [isTupS]⟩
  · cases h
/-! ### face.Sec -/
noncomputable def fsec_e : Ev' := ⟨Tryz.prog, glob, Γof [(55, c_fvalid), (106, c_start)]⟩
theorem fsec_g : Gd cfg fsec_e := gd (env_cons c_fvalid_ok (env_cons c_start_ok (env_nil _)))
noncomputable def fsec_f : FnD := ⟨57, Tryz.f57, noSh, Tryz.f57.resultTypes.toList⟩
theorem fsec_ent (h : Hd) (hh : Int) (mi : Int) (s : Int) (a : Int) : fsec_f.ent fsec_e [] h [agg [.c (.int .i64 hh), .c (.int .i64 mi), .c (.int .i64 s), .c (.int .i64 a)]] [] = bif !timeOk hh mi s a then ret (SV.tup [tI (0 : Int), tI (0 : Int), tI (5 : Int)]) else ret (SV.tup [tI (IntKind.i64.wrap (IntKind.i64.wrap (IntKind.i64.wrap (hh * (3600 : Int)) + IntKind.i64.wrap (mi * (60 : Int))) + s)), tI a, tI (0 : Int)]) := by kernel_rfl
theorem fsec_run (hh : Int) (mi : Int) (s : Int) (a : Int) : ∃ fu, fsec_f.run fsec_e [] fu [agg [.c (.int .i64 hh), .c (.int .i64 mi), .c (.int .i64 s), .c (.int .i64 a)]] [] = some ⟨.tup [tI (if timeOk hh mi s a = true then hh * 3600 + mi * 60 + s else 0), tI (if timeOk hh mi s a = true then a else 0), tI (if timeOk hh mi s a = true then 0 else 5)], []⟩ := by
  refine ⟨0, ?_⟩
  rw [FnD.run, fsec_ent]

  cases ok : timeOk hh mi s a with
  | false => exact condB rfl rfl
  | true =>
    have h := ok
    unfold timeOk at h
    rw [decide_eq_true_eq] at h
    rw [i64_in' (hh * 3600) (by omega), i64_in' (mi * 60) (by omega), i64_in' (hh * 3600 + mi * 60) (by omega), i64_in' _ (by omega)]
    exact condN rfl rfl
theorem fsec_ok (hh : Int) (mi : Int) (s : Int) (a : Int) : FnOk cfg 57 ([agg [.c (.int .i64 hh), .c (.int .i64 mi), .c (.int .i64 s), .c (.int .i64 a)]].map SV.den) (.tup [tI (if timeOk hh mi s a = true then hh * 3600 + mi * 60 + s else 0), tI (if timeOk hh mi s a = true then a else 0), tI (if timeOk hh mi s a = true then 0 else 5)] : SV).den := by
  obtain ⟨nn, h⟩ := fsec_run hh mi s a
  exact FnD.ok fsec_g fsec_f mixed Tryz.func57 rfl rfl rfl rfl rfl rfl h
noncomputable def c_fsec : SpecF := fun args _ K => match args with
  | [.one (.agg [.c (.int .i64 hh), .c (.int .i64 mi), .c (.int .i64 s), .c (.int .i64 a)])] => K (.tup [tI (if timeOk hh mi s a = true then hh * 3600 + mi * 60 + s else 0), tI (if timeOk hh mi s a = true then a else 0), tI (if timeOk hh mi s a = true then 0 else 5)]) []
  | _ => none
theorem c_fsec_ok : SpecOk cfg 57 c_fsec := by
  intro args bx K out h
  unfold c_fsec at h
  split at h
  · exact ⟨_, _, h, .inl (fsec_ok _ _ _ _ _), by simp [isTupS]⟩
  · cases h
/-! ### face.Time -/
noncomputable def ftime_e : Ev' := ⟨Tryz.prog, glob, Γof [(93, c_within)]⟩
theorem ftime_g : Gd cfg ftime_e := gd (env_cons c_within_ok (env_nil _))
noncomputable def ftime_f : FnD := ⟨43, Tryz.f43, noSh, Tryz.f43.resultTypes.toList⟩
theorem ftime_ent (h : Hd) (x : Int) (a : Int) : ftime_f.ent ftime_e [] h [vI x, vI a] [] = bif !decide ((0 : Int) ≤ x ∧ x < (86401 : Int)) then ret (SV.tup [S1.agg [gI (0 : Int), gI (0 : Int), gI (0 : Int), gI (0 : Int)], tI (1 : Int)]) else bif !decide ((0 : Int) ≤ a ∧ a < (1000000000000000000 : Int)) then ret (SV.tup [S1.agg [gI (0 : Int), gI (0 : Int), gI (0 : Int), gI (0 : Int)], tI (1 : Int)]) else ret (SV.tup [S1.agg [gI (IntKind.i64.wrap ((bif decide ((86399 : Int) < x) then (86399 : Int) else x).tdiv (3600 : Int))), gI (IntKind.i64.wrap (((bif decide ((86399 : Int) < x) then (86399 : Int) else x).tmod (3600 : Int)).tdiv (60 : Int))), gI (IntKind.i64.wrap (IntKind.i64.wrap ((bif decide ((86399 : Int) < x) then (86399 : Int) else x).tmod (60 : Int) + x) - bif decide ((86399 : Int) < x) then (86399 : Int) else x)), gI a], tI (0 : Int)]) := by kernel_rfl
theorem ftime_run (x : Int) (a : Int) : ∃ fu, ftime_f.run ftime_e [] fu [vI x, vI a] [] = some ⟨.tup [.agg [gI (if secOk x a = true then hrH x else 0), gI (if secOk x a = true then hrM x else 0), gI (if secOk x a = true then hrS x else 0), gI (if secOk x a = true then a else 0)], tI (if secOk x a = true then 0 else 1)], []⟩ := by
  refine ⟨0, ?_⟩
  rw [FnD.run, ftime_ent]

  cases ok : secOk x a with
  | false =>
    unfold secOk at ok
    rw [decide_eq_false_iff_not] at ok
    by_cases h1 : 0 ≤ x ∧ x < 86401
    · exact condN (by rw [decide_eq_true h1]; rfl) (condB (by rw [decide_eq_false (show ¬ (0 ≤ a ∧ a < 1000000000000000000) by omega)]; rfl) rfl)
    · exact condB (by rw [decide_eq_false h1]; rfl) rfl
  | true =>
    unfold secOk at ok
    rw [decide_eq_true_eq] at ok
    have e : (bif decide (86399 < x) then 86399 else x) = secM x := by
      unfold secM
      by_cases h : 86399 < x
      · rw [decide_eq_true h, if_neg (by omega)]; rfl
      · rw [decide_eq_false h]; by_cases h2 : x < 86399
        · rw [if_pos h2]; rfl
        · rw [if_neg h2]; show x = _; omega
    have hb : 0 ≤ secM x ∧ secM x ≤ 86399 := by unfold secM; split <;> omega
    rw [e, tdiv_nn _ _ hb.1, Int.tmod_eq_emod_of_nonneg hb.1, Int.tmod_eq_emod_of_nonneg hb.1, tdiv_nn _ _ (by omega), i64_in' _ (by omega), i64_in' _ (by omega), i64_in' (secM x % 60 + x) (by omega), i64_in' _ (by omega)]
    exact condN (by rw [decide_eq_true (show 0 ≤ x ∧ x < 86401 by omega)]; rfl) (condN (by rw [decide_eq_true (show 0 ≤ a ∧ a < 1000000000000000000 by omega)]; rfl) rfl)
theorem ftime_ok (x : Int) (a : Int) : FnOk cfg 43 ([vI x, vI a].map SV.den) (.tup [.agg [gI (if secOk x a = true then hrH x else 0), gI (if secOk x a = true then hrM x else 0), gI (if secOk x a = true then hrS x else 0), gI (if secOk x a = true then a else 0)], tI (if secOk x a = true then 0 else 1)] : SV).den := by
  obtain ⟨nn, h⟩ := ftime_run x a
  exact FnD.ok ftime_g ftime_f mixed Tryz.func43 rfl rfl rfl rfl rfl rfl h
noncomputable def c_ftime : SpecF := fun args _ K => match args with
  | [.one (.c (.int .i64 x)), .one (.c (.int .i64 a))] => K (.tup [.agg [gI (if secOk x a = true then hrH x else 0), gI (if secOk x a = true then hrM x else 0), gI (if secOk x a = true then hrS x else 0), gI (if secOk x a = true then a else 0)], tI (if secOk x a = true then 0 else 1)]) []
  | _ => none
theorem c_ftime_ok : SpecOk cfg 43 c_ftime := by
  intro args bx K out h
  unfold c_ftime at h
  split at h
  · exact ⟨_, _, h, .inl (ftime_ok _ _ _), by simp [isTupS]⟩
  · cases h
end Go.Proofs.YtldofkogmkfpjaaGreatDoor
