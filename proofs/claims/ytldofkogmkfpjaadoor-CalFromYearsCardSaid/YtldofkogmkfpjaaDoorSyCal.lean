/-
  The contracts of the functions of layer 8 (cal), and of its reference.
-/
import Derived.Test.YtldofkogmkfpjaaDoorSyGreg
import Derived.Test.YtldofkogmkfpjaaDoorPCal
namespace Go.Proofs.YtldofkogmkfpjaaDoor
open Go Go.Ev Go.Sy
set_option linter.unusedSimpArgs false
set_option linter.unusedVariables false
set_option maxRecDepth 10000
set_option maxHeartbeats 4000000
/-! ### cal.Weekday -/
noncomputable def wd_e : Ev' := ⟨Tryd.prog, glob, Γof []⟩
theorem wd_g : Gd cfg wd_e := gd (env_nil _)
noncomputable def wd_f : FnD := ⟨18, Tryd.f18, noSh, Tryd.f18.resultTypes.toList⟩
theorem wd_ent (h : Hd) (n : Int) : wd_f.ent wd_e [] h [vI n] [] = bif decide (IntKind.i64.wrap (n.tmod 7 + 2) < 0) then ret (vI (IntKind.i64.wrap ((IntKind.i64.wrap (IntKind.i64.wrap (n.tmod 7 + 2) + 7)).tmod 7 + 1))) else ret (vI (IntKind.i64.wrap ((IntKind.i64.wrap (n.tmod 7 + 2)).tmod 7 + 1))) := by kernel_rfl
theorem wd_run (n : Int) : ∃ fu, wd_f.run wd_e [] fu [vI n] [] = some ⟨vI (wdN n), []⟩ := by
  refine ⟨0, ?_⟩
  rw [FnD.run, wd_ent]
  try dsimp only
  have h := tmod_em n 7 (by omega)
  have h1 : -7 < n.tmod 7 ∧ n.tmod 7 < 7 := by omega
  have hw := wd_t n
  have hi := wd_in n
  rw [i64_in' (n.tmod 7 + 2) (by omega)]
  split at hw
  · rename_i hc
    rw [decide_eq_true hc, cond_true, i64_in' (n.tmod 7 + 2 + 7) (by omega), hw, i64_in' _ (by omega)]
  · rename_i hc
    rw [decide_eq_false hc, cond_false, hw, i64_in' _ (by omega)]
theorem wd_ok (n : Int) : FnOk cfg 18 ([vI n].map SV.den) (vI (wdN n) : SV).den := by
  obtain ⟨nn, h⟩ := wd_run n
  exact FnD.ok wd_g wd_f mixed Tryd.func18 rfl rfl rfl rfl rfl rfl h
noncomputable def c_wd : SpecF := fun args _ K => match args with
  | [.one (.c (.int .i64 n))] => K (vI (wdN n)) []
  | _ => none
theorem c_wd_ok : SpecOk cfg 18 c_wd := by
  intro args bx K out h
  unfold c_wd at h
  split at h
  · exact ⟨_, _, h, wd_ok _ _, by simp [isTupS]⟩
  · cases h
/-! ### epactref05.Weekday -/
noncomputable def rwd_e : Ev' := ⟨Tryd.prog, glob, Γof []⟩
theorem rwd_g : Gd cfg rwd_e := gd (env_nil _)
noncomputable def rwd_f : FnD := ⟨19, Tryd.f19, noSh, Tryd.f19.resultTypes.toList⟩
theorem rwd_ent (h : Hd) (n : Int) : rwd_f.ent rwd_e [] h [vI n] [] = ret (vI (IntKind.i64.wrap ((IntKind.i64.wrap ((IntKind.i64.wrap (n.tmod 7 + 7)).tmod 7 + 2)).tmod 7 + 1))) := by kernel_rfl
theorem rwd_run (n : Int) : ∃ fu, rwd_f.run rwd_e [] fu [vI n] [] = some ⟨vI (wdN n), []⟩ := by
  refine ⟨0, ?_⟩
  rw [FnD.run, rwd_ent]
  try dsimp only
  have h := tmod_em n 7 (by omega)
  have h1 : -7 < n.tmod 7 ∧ n.tmod 7 < 7 := by omega
  have hw := wd_r n
  have hi := wd_in n
  have h2 : 0 ≤ (n.tmod 7 + 7).tmod 7 ∧ (n.tmod 7 + 7).tmod 7 < 7 := ⟨Int.tmod_nonneg _ (by omega), Int.tmod_lt_of_pos _ (by omega)⟩
  rw [i64_in' (n.tmod 7 + 7) (by omega), i64_in' ((n.tmod 7 + 7).tmod 7 + 2) (by omega), hw, i64_in' _ (by omega)]
theorem rwd_ok (n : Int) : FnOk cfg 19 ([vI n].map SV.den) (vI (wdN n) : SV).den := by
  obtain ⟨nn, h⟩ := rwd_run n
  exact FnD.ok rwd_g rwd_f mixed Tryd.func19 rfl rfl rfl rfl rfl rfl h
noncomputable def c_rwd : SpecF := fun args _ K => match args with
  | [.one (.c (.int .i64 n))] => K (vI (wdN n)) []
  | _ => none
theorem c_rwd_ok : SpecOk cfg 19 c_rwd := by
  intro args bx K out h
  unfold c_rwd at h
  split at h
  · exact ⟨_, _, h, rwd_ok _ _, by simp [isTupS]⟩
  · cases h
/-! ### cal.length -/
noncomputable def clen_e : Ev' := ⟨Tryd.prog, glob, Γof [(95, c_leap)]⟩
theorem clen_g : Gd cfg clen_e := gd (env_cons c_leap_ok (env_nil _))
noncomputable def clen_f : FnD := ⟨50, Tryd.f50, noSh, Tryd.f50.resultTypes.toList⟩
theorem clen_ent (h : Hd) (y : Int) : clen_f.ent clen_e [] h [vI y] [] = bif longY y then ret (vI 366) else ret (vI 365) := by kernel_rfl
theorem clen_run (y : Int) : ∃ fu, clen_f.run clen_e [] fu [vI y] [] = some ⟨vI (lenY y), []⟩ := by
  refine ⟨0, ?_⟩
  rw [FnD.run, clen_ent]
  cases h : longY y <;> simp [lenY, h]
theorem clen_ok (y : Int) : FnOk cfg 50 ([vI y].map SV.den) (vI (lenY y) : SV).den := by
  obtain ⟨nn, h⟩ := clen_run y
  exact FnD.ok clen_g clen_f mixed Tryd.func50 rfl rfl rfl rfl rfl rfl h
noncomputable def c_clen : SpecF := fun args _ K => match args with
  | [.one (.c (.int .i64 y))] => K (vI (lenY y)) []
  | _ => none
theorem c_clen_ok : SpecOk cfg 50 c_clen := by
  intro args bx K out h
  unfold c_clen at h
  split at h
  · exact ⟨_, _, h, clen_ok _ _, by simp [isTupS]⟩
  · cases h
/-! ### cal.first -/
noncomputable def cfirst_e : Ev' := ⟨Tryd.prog, glob, Γof [(85, c_gday)]⟩
theorem cfirst_g : Gd cfg cfirst_e := gd (env_cons c_gday_ok (env_nil _))
noncomputable def cfirst_f : FnD := ⟨48, Tryd.f48, noSh, Tryd.f48.resultTypes.toList⟩
theorem cfirst_ent (h : Hd) (y : Int) : cfirst_f.ent cfirst_e [] h [vI y] [] = ret (vI (IntKind.i64.wrap (dayN (y.tmod 400) 1 1 + IntKind.i64.wrap (IntKind.i64.wrap ((IntKind.i64.wrap (y - y.tmod 400)).tdiv 400) * 146097)))) := by kernel_rfl
theorem cfirst_run (y : Int) (hp : -1000000000000 ≤ y ∧ y ≤ 1000000000000) : ∃ fu, cfirst_f.run cfirst_e [] fu [vI y] [] = some ⟨vI (firstY y), []⟩ := by
  refine ⟨0, ?_⟩
  rw [FnD.run, cfirst_ent]
  try dsimp only
  obtain ⟨h1, h2, h3⟩ := tdiv_facts y 400 (by omega)
  have h4 : -400 < y.tmod 400 ∧ y.tmod 400 < 400 := by omega
  have h5 := first_400' y
  have hq : (y - y.tmod 400).tdiv 400 = y.tdiv 400 := by
    rw [show y - y.tmod 400 = y.tdiv 400 * 400 by omega, Int.mul_tdiv_cancel _ (by omega)]
  have hy := firstY_in (y := y.tmod 400) (by omega)
  have ht := tdiv_range y 400 (by omega) (by omega)
  have ht2 : -2500000001 ≤ y.tdiv 400 ∧ y.tdiv 400 ≤ 2500000001 := by omega
  have hf : -1000000000000000 ≤ firstY y ∧ firstY y ≤ 1000000000000000 := by unfold firstY; omega
  rw [day_first (by omega), i64_in' (y - y.tmod 400) (by omega), hq, i64_in' (y.tdiv 400) (by omega), i64_in' (y.tdiv 400 * 146097) (by omega), i64_in' _ (by omega)]
  exact retI (by omega)
theorem cfirst_ok (y : Int) (hp : -1000000000000 ≤ y ∧ y ≤ 1000000000000) : FnOk cfg 48 ([vI y].map SV.den) (vI (firstY y) : SV).den := by
  obtain ⟨nn, h⟩ := cfirst_run y hp
  exact FnD.ok cfirst_g cfirst_f mixed Tryd.func48 rfl rfl rfl rfl rfl rfl h
noncomputable def c_cfirst : SpecF := fun args _ K => match args with
  | [.one (.c (.int .i64 y))] => bif decide (-1000000000000 ≤ y ∧ y ≤ 1000000000000) then K (vI (firstY y)) [] else none
  | _ => none
theorem c_cfirst_ok : SpecOk cfg 48 c_cfirst := by
  intro args bx K out h
  unfold c_cfirst at h
  split at h
  · obtain ⟨hp, h⟩ := bif_some h
    exact ⟨_, _, h, cfirst_ok _ (of_decide_eq_true hp) _, by simp [isTupS]⟩
  · cases h
/-! ### cal.far -/
noncomputable def far_e : Ev' := ⟨Tryd.prog, glob, Γof []⟩
theorem far_g : Gd cfg far_e := gd (env_nil _)
noncomputable def far_f : FnD := ⟨51, Tryd.f51, noSh, Tryd.f51.resultTypes.toList⟩
theorem far_ent (h : Hd) (y : Int) : far_f.ent far_e [] h [vI y] [] = bif decide (y < (-4000000000 : Int)) then ret (vB true) else ret (vB (decide (4000000000 < y))) := by kernel_rfl
theorem far_run (y : Int) : ∃ fu, far_f.run far_e [] fu [vI y] [] = some ⟨vB (decide (y < -4000000000 ∨ 4000000000 < y)), []⟩ := by
  refine ⟨0, ?_⟩
  rw [FnD.run, far_ent]
  simp only [Bool.cond_eq_ite, Bool.not_eq_true', Bool.not_eq_false', Bool.and_eq_true, Bool.and_eq_false_iff, decide_eq_true_eq, decide_eq_false_iff_not, Bool.or_eq_true, Bool.or_eq_false_iff, Bool.not_true, Bool.not_false, Bool.false_eq_true, false_iff, true_iff, bne_iff_ne, beq_iff_eq, ne_eq, iff_true, iff_false, not_and, not_or]
  repeat' split
  all_goals first
    | rfl
    | (refine congrArg (fun x : Bool => (some ⟨vB x, []⟩ : Option Out)) ?_; rw [Bool.eq_iff_iff]; simp only [longY, inR, dateOk, tmod_z, Bool.not_eq_true', Bool.not_eq_false', Bool.and_eq_true, Bool.and_eq_false_iff, decide_eq_true_eq, decide_eq_false_iff_not, Bool.or_eq_true, Bool.or_eq_false_iff, Bool.not_true, Bool.not_false, Bool.false_eq_true, false_iff, true_iff, bne_iff_ne, beq_iff_eq, ne_eq, iff_true, iff_false, not_and, not_or] at *; omega)
theorem far_ok (y : Int) : FnOk cfg 51 ([vI y].map SV.den) (vB (decide (y < -4000000000 ∨ 4000000000 < y)) : SV).den := by
  obtain ⟨nn, h⟩ := far_run y
  exact FnD.ok far_g far_f mixed Tryd.func51 rfl rfl rfl rfl rfl rfl h
noncomputable def c_far : SpecF := fun args _ K => match args with
  | [.one (.c (.int .i64 y))] => K (vB (decide (y < -4000000000 ∨ 4000000000 < y))) []
  | _ => none
theorem c_far_ok : SpecOk cfg 51 c_far := by
  intro args bx K out h
  unfold c_far at h
  split at h
  · exact ⟨_, _, h, far_ok _ _, by simp [isTupS]⟩
  · cases h
/-! ### cal.in -/
noncomputable def cin_e : Ev' := ⟨Tryd.prog, glob, Γof []⟩
theorem cin_g : Gd cfg cin_e := gd (env_nil _)
noncomputable def cin_f : FnD := ⟨52, Tryd.f52, noSh, Tryd.f52.resultTypes.toList⟩
theorem cin_ent (h : Hd) (n : Int) : cin_f.ent cin_e [] h [vI n] [] = bif decide (n < (-1099511627776 : Int)) then ret (SV.tup [tI 0, tI 2]) else bif decide (1099511627776 < n) then ret (SV.tup [tI 0, tI 2]) else ret (SV.tup [tI n, tI 0]) := by kernel_rfl
theorem cin_run (n : Int) : ∃ fu, cin_f.run cin_e [] fu [vI n] [] = some ⟨.tup [tI (if inR n = true then n else 0), tI (if inR n = true then 0 else 2)], []⟩ := by
  refine ⟨0, ?_⟩
  rw [FnD.run, cin_ent]
  cases h : inR n with
  | true =>
    simp only [inR, decide_eq_true_eq] at h
    rw [decide_eq_false (by omega), decide_eq_false (by omega)]; rfl
  | false =>
    simp only [inR, decide_eq_false_iff_not] at h
    by_cases h1 : n < -1099511627776
    · rw [decide_eq_true h1]; rfl
    · rw [decide_eq_false h1, decide_eq_true (by omega)]; rfl
theorem cin_ok (n : Int) : FnOk cfg 52 ([vI n].map SV.den) (.tup [tI (if inR n = true then n else 0), tI (if inR n = true then 0 else 2)] : SV).den := by
  obtain ⟨nn, h⟩ := cin_run n
  exact FnD.ok cin_g cin_f mixed Tryd.func52 rfl rfl rfl rfl rfl rfl h
noncomputable def c_cin : SpecF := fun args _ K => match args with
  | [.one (.c (.int .i64 n))] => K (.tup [tI (if inR n = true then n else 0), tI (if inR n = true then 0 else 2)]) []
  | _ => none
theorem c_cin_ok : SpecOk cfg 52 c_cin := by
  intro args bx K out h
  unfold c_cin at h
  split at h
  · exact ⟨_, _, h, cin_ok _ _, by simp [isTupS]⟩
  · cases h
/-! ### cal.YearDay -/
noncomputable def cyd_e : Ev' := ⟨Tryd.prog, glob, Γof [(47, c_gdate), (48, c_cfirst)]⟩
theorem cyd_g : Gd cfg cyd_e := gd (env_cons c_gdate_ok (env_cons c_cfirst_ok (env_nil _)))
noncomputable def cyd_f : FnD := ⟨20, Tryd.f20, noSh, Tryd.f20.resultTypes.toList⟩
theorem cyd_ent (h : Hd) (n : Int) : cyd_f.ent cyd_e [] h [vI n] [] = bif !decide (dtE n = 0) then ret (SV.tup [tI 0, tI 0, tI (dtE n)]) else bif decide ((-1000000000000 : Int) ≤ dtY n ∧ dtY n ≤ 1000000000000) then ret (SV.tup [tI (dtY n), tI (IntKind.i64.wrap (IntKind.i64.wrap (n - firstY (dtY n)) + 1)), tI 0]) else none := by kernel_rfl
theorem cyd_run (n : Int) : ∃ fu, cyd_f.run cyd_e [] fu [vI n] [] = some ⟨.tup [tI (if inR n = true then gY n else 0), tI (if inR n = true then n - firstY (gY n) + 1 else 0), tI (if inR n = true then 0 else 2)], []⟩ := by
  refine ⟨0, ?_⟩
  rw [FnD.run, cyd_ent]
  try dsimp only
  cases h : inR n with
  | false => simp [dtE, h]
  | true =>
    have hg := gY_in h
    obtain ⟨h1, h2, _⟩ := year_day h
    have hl := lenY_in (gY n)
    have d1 : decide (-1000000000000 ≤ gY n ∧ gY n ≤ 1000000000000) = true := decide_eq_true (by omega)
    simp only [dtE, dtY, h, if_true, d1, i64_in' (n - firstY (gY n)) (by omega), i64_in' (n - firstY (gY n) + 1) (by omega)]; rfl
theorem cyd_ok (n : Int) : FnOk cfg 20 ([vI n].map SV.den) (.tup [tI (if inR n = true then gY n else 0), tI (if inR n = true then n - firstY (gY n) + 1 else 0), tI (if inR n = true then 0 else 2)] : SV).den := by
  obtain ⟨nn, h⟩ := cyd_run n
  exact FnD.ok cyd_g cyd_f mixed Tryd.func20 rfl rfl rfl rfl rfl rfl h
noncomputable def c_cyd : SpecF := fun args _ K => match args with
  | [.one (.c (.int .i64 n))] => K (.tup [tI (if inR n = true then gY n else 0), tI (if inR n = true then n - firstY (gY n) + 1 else 0), tI (if inR n = true then 0 else 2)]) []
  | _ => none
theorem c_cyd_ok : SpecOk cfg 20 c_cyd := by
  intro args bx K out h
  unfold c_cyd at h
  split at h
  · exact ⟨_, _, h, cyd_ok _ _, by simp [isTupS]⟩
  · cases h
/-! ### cal.FromYearDay -/
noncomputable def cfy_e : Ev' := ⟨Tryd.prog, glob, Γof [(50, c_clen), (51, c_far), (48, c_cfirst), (52, c_cin)]⟩
theorem cfy_g : Gd cfg cfy_e := gd (env_cons c_clen_ok (env_cons c_far_ok (env_cons c_cfirst_ok (env_cons c_cin_ok (env_nil _)))))
noncomputable def cfy_f : FnD := ⟨23, Tryd.f23, noSh, Tryd.f23.resultTypes.toList⟩
theorem cfy_ent (h : Hd) (y : Int) (d : Int) : cfy_f.ent cfy_e [] h [vI y, vI d] [] = let v1 : Int := IntKind.i64.wrap (IntKind.i64.wrap (firstY y + d) - 1); bif decide (d < 1) then ret (SV.tup [tI 0, tI 5]) else bif decide (lenY y < d) then ret (SV.tup [tI 0, tI 5]) else bif decide (y < (-4000000000 : Int) ∨ 4000000000 < y) then ret (SV.tup [tI 0, tI 2]) else bif decide ((-1000000000000 : Int) ≤ y ∧ y ≤ 1000000000000) then ret (SV.tup [tI (if inR v1 = true then v1 else 0), tI (if inR v1 = true then (0 : Int) else 2)]) else none := by kernel_rfl
theorem cfy_run (y : Int) (d : Int) : ∃ fu, cfy_f.run cfy_e [] fu [vI y, vI d] [] = some ⟨.tup [tI (fyN y d), tI (fyE y d)], []⟩ := by
  refine ⟨0, ?_⟩
  rw [FnD.run, cfy_ent]
  try dsimp only
  by_cases h1 : d < 1
  · rw [decide_eq_true h1]; simp [fyN, fyE, h1]
  · by_cases h2 : lenY y < d
    · rw [decide_eq_false h1, decide_eq_true h2]; simp [fyN, fyE, h2]
    · have h12 : ¬ (d < 1 ∨ lenY y < d) := by omega
      by_cases h3 : y < -4000000000 ∨ 4000000000 < y
      · rw [decide_eq_false h1, decide_eq_false h2, decide_eq_true h3]; simp only [fyN, fyE, if_neg h12, if_pos h3]; rfl
      · have hl := lenY_in y
        have hf := firstY_in (y := y) (by omega)
        rw [decide_eq_false h1, decide_eq_false h2, decide_eq_false h3, decide_eq_true (by omega), i64_in' (firstY y + d) (by omega), i64_in' (firstY y + d - 1) (by omega)]
        simp only [fyN, fyE, if_neg h12, if_neg h3, cond_true, cond_false]
        cases h : inR (firstY y + d - 1) <;> simp
theorem cfy_ok (y : Int) (d : Int) : FnOk cfg 23 ([vI y, vI d].map SV.den) (.tup [tI (fyN y d), tI (fyE y d)] : SV).den := by
  obtain ⟨nn, h⟩ := cfy_run y d
  exact FnD.ok cfy_g cfy_f mixed Tryd.func23 rfl rfl rfl rfl rfl rfl h
noncomputable def c_cfy : SpecF := fun args _ K => match args with
  | [.one (.c (.int .i64 y)), .one (.c (.int .i64 d))] => K (.tup [tI (fyN y d), tI (fyE y d)]) []
  | _ => none
theorem c_cfy_ok : SpecOk cfg 23 c_cfy := by
  intro args bx K out h
  unfold c_cfy at h
  split at h
  · exact ⟨_, _, h, cfy_ok _ _ _, by simp [isTupS]⟩
  · cases h
/-! ### cal.monday -/
noncomputable def mon_e : Ev' := ⟨Tryd.prog, glob, Γof [(48, c_cfirst), (18, c_wd)]⟩
theorem mon_g : Gd cfg mon_e := gd (env_cons c_cfirst_ok (env_cons c_wd_ok (env_nil _)))
noncomputable def mon_f : FnD := ⟨54, Tryd.f54, noSh, Tryd.f54.resultTypes.toList⟩
theorem mon_ent (h : Hd) (y : Int) : mon_f.ent mon_e [] h [vI y] [] = bif decide ((-1000000000000 : Int) ≤ y ∧ y ≤ 1000000000000) then ret (vI (IntKind.i64.wrap (IntKind.i64.wrap (IntKind.i64.wrap (firstY y + 3) - wdN (IntKind.i64.wrap (firstY y + 3))) + 1))) else none := by kernel_rfl
theorem mon_run (y : Int) (hp : -100000000000 ≤ y ∧ y ≤ 100000000000) : ∃ fu, mon_f.run mon_e [] fu [vI y] [] = some ⟨vI (monY y), []⟩ := by
  refine ⟨0, ?_⟩
  rw [FnD.run, mon_ent]
  try dsimp only
  have hf := firstY_in hp
  have hw := wd_in (firstY y + 3)
  rw [decide_eq_true (by omega), cond_true, i64_in' (firstY y + 3) (by omega), i64_in' (firstY y + 3 - wdN (firstY y + 3)) (by omega), i64_in' _ (by omega)]; rfl
theorem mon_ok (y : Int) (hp : -100000000000 ≤ y ∧ y ≤ 100000000000) : FnOk cfg 54 ([vI y].map SV.den) (vI (monY y) : SV).den := by
  obtain ⟨nn, h⟩ := mon_run y hp
  exact FnD.ok mon_g mon_f mixed Tryd.func54 rfl rfl rfl rfl rfl rfl h
noncomputable def c_mon : SpecF := fun args _ K => match args with
  | [.one (.c (.int .i64 y))] => bif decide (-100000000000 ≤ y ∧ y ≤ 100000000000) then K (vI (monY y)) [] else none
  | _ => none
theorem c_mon_ok : SpecOk cfg 54 c_mon := by
  intro args bx K out h
  unfold c_mon at h
  split at h
  · obtain ⟨hp, h⟩ := bif_some h
    exact ⟨_, _, h, mon_ok _ (of_decide_eq_true hp) _, by simp [isTupS]⟩
  · cases h
/-! ### epactref05.WeekOne -/
noncomputable def won_e : Ev' := ⟨Tryd.prog, glob, Γof [(25, c_first), (19, c_rwd)]⟩
theorem won_g : Gd cfg won_e := gd (env_cons c_first_ok (env_cons c_rwd_ok (env_nil _)))
noncomputable def won_f : FnD := ⟨29, Tryd.f29, noSh, Tryd.f29.resultTypes.toList⟩
theorem won_ent (h : Hd) (y : Int) : won_f.ent won_e [] h [vI y] [] = ret (vI (IntKind.i64.wrap (IntKind.i64.wrap (IntKind.i64.wrap (firstW y + 3) - wdN (IntKind.i64.wrap (firstW y + 3))) + 1))) := by kernel_rfl
theorem won_run (y : Int) (hp : -100000000000 ≤ y ∧ y ≤ 100000000000) : ∃ fu, won_f.run won_e [] fu [vI y] [] = some ⟨vI (monY y), []⟩ := by
  refine ⟨0, ?_⟩
  rw [FnD.run, won_ent]
  try dsimp only
  have hf := firstY_in hp
  have hw := wd_in (firstY y + 3)
  rw [firstW_eq y (by omega), i64_in' (firstY y + 3) (by omega), i64_in' (firstY y + 3 - wdN (firstY y + 3)) (by omega), i64_in' _ (by omega)]; rfl
theorem won_ok (y : Int) (hp : -100000000000 ≤ y ∧ y ≤ 100000000000) : FnOk cfg 29 ([vI y].map SV.den) (vI (monY y) : SV).den := by
  obtain ⟨nn, h⟩ := won_run y hp
  exact FnD.ok won_g won_f mixed Tryd.func29 rfl rfl rfl rfl rfl rfl h
noncomputable def c_won : SpecF := fun args _ K => match args with
  | [.one (.c (.int .i64 y))] => bif decide (-100000000000 ≤ y ∧ y ≤ 100000000000) then K (vI (monY y)) [] else none
  | _ => none
theorem c_won_ok : SpecOk cfg 29 c_won := by
  intro args bx K out h
  unfold c_won at h
  split at h
  · obtain ⟨hp, h⟩ := bif_some h
    exact ⟨_, _, h, won_ok _ (of_decide_eq_true hp) _, by simp [isTupS]⟩
  · cases h
/-! ### cal.Week -/
noncomputable def cwk_e : Ev' := ⟨Tryd.prog, glob, Γof [(47, c_gdate), (54, c_mon), (18, c_wd)]⟩
theorem cwk_g : Gd cfg cwk_e := gd (env_cons c_gdate_ok (env_cons c_mon_ok (env_cons c_wd_ok (env_nil _))))
noncomputable def cwk_f : FnD := ⟨26, Tryd.f26, noSh, Tryd.f26.resultTypes.toList⟩
theorem cwk_ent (h : Hd) (n : Int) : cwk_f.ent cwk_e [] h [vI n] [] = bif !decide (dtE n = 0) then ret (SV.tup [tI 0, tI 0, tI 0, tI (dtE n)]) else bif decide ((-100000000000 : Int) ≤ dtY n ∧ dtY n ≤ 100000000000) then bif decide (n < monY (dtY n)) then bif decide ((-100000000000 : Int) ≤ IntKind.i64.wrap (dtY n - 1) ∧ IntKind.i64.wrap (dtY n - 1) ≤ 100000000000) then ret (SV.tup [tI (IntKind.i64.wrap (dtY n - 1)), tI (IntKind.i64.wrap (IntKind.i64.wrap ((IntKind.i64.wrap (n - monY (IntKind.i64.wrap (dtY n - 1)))).tdiv 7) + 1)), tI (wdN n), tI 0]) else none else bif decide ((-100000000000 : Int) ≤ IntKind.i64.wrap (dtY n + 1) ∧ IntKind.i64.wrap (dtY n + 1) ≤ 100000000000) then bif decide (monY (IntKind.i64.wrap (dtY n + 1)) ≤ n) then bif decide ((-100000000000 : Int) ≤ IntKind.i64.wrap (dtY n + 1) ∧ IntKind.i64.wrap (dtY n + 1) ≤ 100000000000) then ret (SV.tup [tI (IntKind.i64.wrap (dtY n + 1)), tI (IntKind.i64.wrap (IntKind.i64.wrap ((IntKind.i64.wrap (n - monY (IntKind.i64.wrap (dtY n + 1)))).tdiv 7) + 1)), tI (wdN n), tI 0]) else none else bif decide ((-100000000000 : Int) ≤ dtY n ∧ dtY n ≤ 100000000000) then ret (SV.tup [tI (dtY n), tI (IntKind.i64.wrap (IntKind.i64.wrap ((IntKind.i64.wrap (n - monY (dtY n))).tdiv 7) + 1)), tI (wdN n), tI 0]) else none else none else none := by kernel_rfl
theorem cwk_run (n : Int) : ∃ fu, cwk_f.run cwk_e [] fu [vI n] [] = some ⟨.tup [tI (if inR n = true then wkY n else 0), tI (if inR n = true then (n - monY (wkY n)) / 7 + 1 else 0), tI (if inR n = true then wdN n else 0), tI (if inR n = true then 0 else 2)], []⟩ := by
  refine ⟨0, ?_⟩
  rw [FnD.run, cwk_ent]
  try dsimp only
  cases h : inR n with
  | false => simp [dtE, h]
  | true =>
    have hg := gY_in h
    have hn : -1099511627776 ≤ n ∧ n ≤ 1099511627776 := by simpa [inR] using h
    obtain ⟨h1, h2, h3, h4⟩ := wkY_is n
    have w1 : IntKind.i64.wrap (gY n - 1) = gY n - 1 := i64_in' _ (by omega)
    have w2 : IntKind.i64.wrap (gY n + 1) = gY n + 1 := i64_in' _ (by omega)
    have d1 : decide (-100000000000 ≤ gY n ∧ gY n ≤ 100000000000) = true := decide_eq_true (by omega)
    have d2 : decide (-100000000000 ≤ gY n - 1 ∧ gY n - 1 ≤ 100000000000) = true := decide_eq_true (by omega)
    have d3 : decide (-100000000000 ≤ gY n + 1 ∧ gY n + 1 ≤ 100000000000) = true := decide_eq_true (by omega)
    have d0 : decide ((0 : Int) = 0) = true := rfl
    have key : ∀ k, k = wkY n → IntKind.i64.wrap (IntKind.i64.wrap ((IntKind.i64.wrap (n - monY k)).tdiv 7) + 1) = (n - monY (wkY n)) / 7 + 1 := fun k e => by
      subst e
      have := monY_in (y := wkY n) (by omega)
      rw [i64_in' (n - monY (wkY n)) (by omega), tdiv_nn _ _ (by omega), i64_in' ((n - monY (wkY n)) / 7) (by omega), i64_in' _ (by omega)]
    simp only [dtE, dtY, h, if_true, w1, w2, d1, d2, d3, d0, cond_true, Bool.not_true, cond_false]
    by_cases a : n < monY (gY n)
    · have e : gY n - 1 = wkY n := by unfold wkY; rw [if_pos a]
      rw [decide_eq_true a, cond_true, key _ e, e]; simp
    · by_cases b : monY (gY n + 1) ≤ n
      · have e : gY n + 1 = wkY n := by unfold wkY; rw [if_neg a, if_pos b]
        rw [decide_eq_false a, decide_eq_true b, cond_true, cond_false, key _ e, e]; simp
      · have e : gY n = wkY n := by unfold wkY; rw [if_neg a, if_neg b]
        rw [decide_eq_false a, decide_eq_false b, cond_false, cond_false, key _ e]; simp [← e]
theorem cwk_ok (n : Int) : FnOk cfg 26 ([vI n].map SV.den) (.tup [tI (if inR n = true then wkY n else 0), tI (if inR n = true then (n - monY (wkY n)) / 7 + 1 else 0), tI (if inR n = true then wdN n else 0), tI (if inR n = true then 0 else 2)] : SV).den := by
  obtain ⟨nn, h⟩ := cwk_run n
  exact FnD.ok cwk_g cwk_f mixed Tryd.func26 rfl rfl rfl rfl rfl rfl h
noncomputable def c_cwk : SpecF := fun args _ K => match args with
  | [.one (.c (.int .i64 n))] => K (.tup [tI (if inR n = true then wkY n else 0), tI (if inR n = true then (n - monY (wkY n)) / 7 + 1 else 0), tI (if inR n = true then wdN n else 0), tI (if inR n = true then 0 else 2)]) []
  | _ => none
theorem c_cwk_ok : SpecOk cfg 26 c_cwk := by
  intro args bx K out h
  unfold c_cwk at h
  split at h
  · exact ⟨_, _, h, cwk_ok _ _, by simp [isTupS]⟩
  · cases h
/-! ### cal.weeks -/
noncomputable def weeks_e : Ev' := ⟨Tryd.prog, glob, Γof [(48, c_cfirst), (18, c_wd), (95, c_leap)]⟩
theorem weeks_g : Gd cfg weeks_e := gd (env_cons c_cfirst_ok (env_cons c_wd_ok (env_cons c_leap_ok (env_nil _))))
noncomputable def weeks_f : FnD := ⟨55, Tryd.f55, noSh, Tryd.f55.resultTypes.toList⟩
theorem weeks_ent (h : Hd) (y : Int) : weeks_f.ent weeks_e [] h [vI y] [] = bif decide ((-1000000000000 : Int) ≤ y.tmod 400 ∧ y.tmod 400 ≤ 1000000000000) then bif decide (wdN (firstY (y.tmod 400)) = 4) then ret (vI 53) else bif decide (wdN (firstY (y.tmod 400)) = 3) then bif longY y then ret (vI 53) else ret (vI 52) else ret (vI 52) else none := by kernel_rfl
theorem weeks_run (y : Int) : ∃ fu, weeks_f.run weeks_e [] fu [vI y] [] = some ⟨vI (weeksN y), []⟩ := by
  refine ⟨0, ?_⟩
  rw [FnD.run, weeks_ent]
  try dsimp only
  obtain ⟨h1, h2, h3⟩ := tdiv_facts y 400 (by omega)
  rw [decide_eq_true (by omega), cond_true]
  unfold weeksN
  by_cases a : wdN (firstY (y.tmod 400)) = 4
  · simp [a]
  · by_cases b : wdN (firstY (y.tmod 400)) = 3 <;> cases c : longY y <;> simp [a, b]
theorem weeks_ok (y : Int) : FnOk cfg 55 ([vI y].map SV.den) (vI (weeksN y) : SV).den := by
  obtain ⟨nn, h⟩ := weeks_run y
  exact FnD.ok weeks_g weeks_f mixed Tryd.func55 rfl rfl rfl rfl rfl rfl h
noncomputable def c_weeks : SpecF := fun args _ K => match args with
  | [.one (.c (.int .i64 y))] => K (vI (weeksN y)) []
  | _ => none
theorem c_weeks_ok : SpecOk cfg 55 c_weeks := by
  intro args bx K out h
  unfold c_weeks at h
  split at h
  · exact ⟨_, _, h, weeks_ok _ _, by simp [isTupS]⟩
  · cases h
/-! ### cal.FromWeek -/
noncomputable def cfw_e : Ev' := ⟨Tryd.prog, glob, Γof [(55, c_weeks), (51, c_far), (54, c_mon), (52, c_cin)]⟩
theorem cfw_g : Gd cfg cfw_e := gd (env_cons c_weeks_ok (env_cons c_far_ok (env_cons c_mon_ok (env_cons c_cin_ok (env_nil _)))))
noncomputable def cfw_f : FnD := ⟨28, Tryd.f28, noSh, Tryd.f28.resultTypes.toList⟩
theorem cfw_ent (h : Hd) (y : Int) (w : Int) (d : Int) : cfw_f.ent cfw_e [] h [vI y, vI w, vI d] [] = let v1 : Int := IntKind.i64.wrap (IntKind.i64.wrap (IntKind.i64.wrap (monY y + IntKind.i64.wrap (IntKind.i64.wrap (w - 1) * 7)) + d) - 1); bif decide (d < 1) then ret (SV.tup [tI 0, tI 5]) else bif decide (7 < d) then ret (SV.tup [tI 0, tI 5]) else bif decide (w < 1) then ret (SV.tup [tI 0, tI 5]) else bif decide (weeksN y < w) then ret (SV.tup [tI 0, tI 5]) else bif decide (y < (-4000000000 : Int) ∨ 4000000000 < y) then ret (SV.tup [tI 0, tI 2]) else bif decide ((-100000000000 : Int) ≤ y ∧ y ≤ 100000000000) then ret (SV.tup [tI (if inR v1 = true then v1 else 0), tI (if inR v1 = true then (0 : Int) else 2)]) else none := by kernel_rfl
theorem cfw_run (y : Int) (w : Int) (d : Int) : ∃ fu, cfw_f.run cfw_e [] fu [vI y, vI w, vI d] [] = some ⟨.tup [tI (fwN y w d), tI (fwE y w d)], []⟩ := by
  refine ⟨0, ?_⟩
  rw [FnD.run, cfw_ent]
  try dsimp only
  by_cases h : d < 1 ∨ 7 < d ∨ w < 1 ∨ weeksN y < w
  · have e : fwE y w d = 5 := by rw [fwE, if_pos h]
    have e2 : fwN y w d = 0 := by rw [fwN, e]; rfl
    rw [e, e2]
    by_cases h1 : d < 1
    · simp [h1]
    · by_cases h2 : 7 < d
      · simp [h1, h2]
      · by_cases h3 : w < 1
        · simp [h1, h2, h3]
        · have h4 : weeksN y < w := by omega
          simp [h1, h2, h3, h4]
  · have h1 : ¬ d < 1 := by omega
    have h2 : ¬ 7 < d := by omega
    have h3 : ¬ w < 1 := by omega
    have h4 : ¬ weeksN y < w := by omega
    rw [decide_eq_false h1, decide_eq_false h2, decide_eq_false h3, decide_eq_false h4]
    simp only [fwN, fwE, if_neg h]
    by_cases h5 : y < -4000000000 ∨ 4000000000 < y
    · rw [decide_eq_true h5]; simp only [if_pos h5]; rfl
    · have hm := monY_in (y := y) (by omega)
      have hw := weeks_in y
      rw [decide_eq_false h5, decide_eq_true (show -100000000000 ≤ y ∧ y ≤ 100000000000 by omega), i64_in' (w - 1) (by omega), i64_in' ((w - 1) * 7) (by omega), i64_in' (monY y + (w - 1) * 7) (by omega), i64_in' (monY y + (w - 1) * 7 + d) (by omega), i64_in' (monY y + (w - 1) * 7 + d - 1) (by omega)]
      simp only [if_neg h5, cond_true, cond_false]
      cases h : inR (monY y + (w - 1) * 7 + d - 1) <;> simp
theorem cfw_ok (y : Int) (w : Int) (d : Int) : FnOk cfg 28 ([vI y, vI w, vI d].map SV.den) (.tup [tI (fwN y w d), tI (fwE y w d)] : SV).den := by
  obtain ⟨nn, h⟩ := cfw_run y w d
  exact FnD.ok cfw_g cfw_f mixed Tryd.func28 rfl rfl rfl rfl rfl rfl h
noncomputable def c_cfw : SpecF := fun args _ K => match args with
  | [.one (.c (.int .i64 y)), .one (.c (.int .i64 w)), .one (.c (.int .i64 d))] => K (.tup [tI (fwN y w d), tI (fwE y w d)]) []
  | _ => none
theorem c_cfw_ok : SpecOk cfg 28 c_cfw := by
  intro args bx K out h
  unfold c_cfw at h
  split at h
  · exact ⟨_, _, h, cfw_ok _ _ _ _, by simp [isTupS]⟩
  · cases h
/-! ### epactref05.YearDay -/
noncomputable def ryd_e : Ev' := ⟨Tryd.prog, glob, Γof [(49, c_rdate), (25, c_first)]⟩
theorem ryd_g : Gd cfg ryd_e := gd (env_cons c_rdate_ok (env_cons c_first_ok (env_nil _)))
noncomputable def ryd_f : FnD := ⟨22, Tryd.f22, noSh, Tryd.f22.resultTypes.toList⟩
theorem ryd_ent (h : Hd) (n : Int) : ryd_f.ent ryd_e [] h [vI n] [] = bif decide (inR n = true) then ret (SV.tup [tI (gY n), tI (IntKind.i64.wrap (IntKind.i64.wrap (n - firstW (gY n)) + 1))]) else none := by kernel_rfl
theorem ryd_run (n : Int) (hp : inR n = true) : ∃ fu, ryd_f.run ryd_e [] fu [vI n] [] = some ⟨.tup [tI (gY n), tI (n - firstY (gY n) + 1)], []⟩ := by
  refine ⟨0, ?_⟩
  rw [FnD.run, ryd_ent]
  try dsimp only
  have hg := gY_in hp
  have hd := year_day hp
  have hl := lenY_in (gY n)
  rw [decide_eq_true hp, cond_true, firstW_eq _ (by omega), i64_in' (n - firstY (gY n)) (by omega), i64_in' (n - firstY (gY n) + 1) (by omega)]
theorem ryd_ok (n : Int) (hp : inR n = true) : FnOk cfg 22 ([vI n].map SV.den) (.tup [tI (gY n), tI (n - firstY (gY n) + 1)] : SV).den := by
  obtain ⟨nn, h⟩ := ryd_run n hp
  exact FnD.ok ryd_g ryd_f mixed Tryd.func22 rfl rfl rfl rfl rfl rfl h
noncomputable def c_ryd : SpecF := fun args _ K => match args with
  | [.one (.c (.int .i64 n))] => bif decide (inR n = true) then K (.tup [tI (gY n), tI (n - firstY (gY n) + 1)]) [] else none
  | _ => none
theorem c_ryd_ok : SpecOk cfg 22 c_ryd := by
  intro args bx K out h
  unfold c_ryd at h
  split at h
  · obtain ⟨hp, h⟩ := bif_some h
    exact ⟨_, _, h, ryd_ok _ (of_decide_eq_true hp) _, by simp [isTupS]⟩
  · cases h
/-! ### epactref05.Week -/
noncomputable def rwk_e : Ev' := ⟨Tryd.prog, glob, Γof [(49, c_rdate), (29, c_won), (19, c_rwd)]⟩
theorem rwk_g : Gd cfg rwk_e := gd (env_cons c_rdate_ok (env_cons c_won_ok (env_cons c_rwd_ok (env_nil _))))
noncomputable def rwk_f : FnD := ⟨27, Tryd.f27, shOf [(0, ⟨25, [], [], [(0, .c (.int .i64)), (5, .c (.int .i64))]⟩)], Tryd.f27.resultTypes.toList⟩
theorem rwk_ent (h : Hd) (n : Int) : rwk_f.ent rwk_e [] h [vI n] [] = bif decide (inR n = true) then h 0 [Lf.i n, Lf.i (IntKind.i64.wrap (gY n + 1))] else none := by kernel_rfl
theorem rwk_l0 (h : Hd) (n : Int) (y : Int) : rwk_f.seg rwk_e [] h 0 [.i n, .i y] = bif decide ((-100000000000 : Int) ≤ y ∧ y ≤ 100000000000) then bif decide (n < monY y) then h 0 [Lf.i n, Lf.i (IntKind.i64.wrap (y - 1))] else bif decide ((-100000000000 : Int) ≤ y ∧ y ≤ 100000000000) then ret (SV.tup [tI y, tI (IntKind.i64.wrap (IntKind.i64.wrap ((IntKind.i64.wrap (n - monY y)).tdiv 7) + 1)), tI (wdN n)]) else none else none := by kernel_rfl

theorem rwk_y {n : Int} (hp : inR n = true) : ∀ (k : Nat) (y : Int), wkY n ≤ y ∧ y ≤ gY n + 1 → (y - wkY n).toNat < k →
    rwk_f.H rwk_e [] k 0 [.i n, .i y] = some ⟨.tup [tI (wkY n), tI ((n - monY (wkY n)) / 7 + 1), tI (wdN n)], []⟩ := by
  intro k
  induction k with
  | zero => intro y _ h; omega
  | succ k ih =>
    intro y hy hk
    rw [FnD.H_succ, rwk_l0]
    try dsimp only
    have hg := gY_in hp
    obtain ⟨h1, h2, h3, h4⟩ := wkY_is n
    have hn : -1099511627776 ≤ n ∧ n ≤ 1099511627776 := by simpa [inR] using hp
    have d1 : decide (-100000000000 ≤ y ∧ y ≤ 100000000000) = true := decide_eq_true (by omega)
    rw [d1, cond_true]
    by_cases h : wkY n < y
    · have hm : n < monY y := by
        rcases Int.lt_or_le (wkY n + 1) y with g | g
        · have := monY_mono g; omega
        · rw [show y = wkY n + 1 by omega]; exact h2
      rw [decide_eq_true hm, cond_true, i64_in' (y - 1) (by omega)]
      exact ih (y - 1) (by omega) (by omega)
    · obtain rfl : y = wkY n := by omega
      have := monY_in (y := wkY n) (by omega)
      rw [decide_eq_false (by omega), cond_false, cond_true, i64_in' (n - monY (wkY n)) (by omega), tdiv_nn _ _ (by omega), i64_in' ((n - monY (wkY n)) / 7) (by omega), i64_in' _ (by omega)]
theorem rwk_run (n : Int) (hp : inR n = true) : ∃ fu, rwk_f.run rwk_e [] fu [vI n] [] = some ⟨.tup [tI (wkY n), tI ((n - monY (wkY n)) / 7 + 1), tI (wdN n)], []⟩ := by
  have hg := gY_in hp
  obtain ⟨h1, h2, h3, h4⟩ := wkY_is n
  refine ⟨(gY n + 1 - wkY n).toNat + 1, ?_⟩
  rw [FnD.run, rwk_ent, decide_eq_true hp, cond_true, i64_in' (gY n + 1) (by omega)]
  exact rwk_y hp _ _ (by omega) (by omega)
theorem rwk_ok (n : Int) (hp : inR n = true) : FnOk cfg 27 ([vI n].map SV.den) (.tup [tI (wkY n), tI ((n - monY (wkY n)) / 7 + 1), tI (wdN n)] : SV).den := by
  obtain ⟨nn, h⟩ := rwk_run n hp
  exact FnD.ok rwk_g rwk_f mixed Tryd.func27 rfl rfl rfl rfl rfl rfl h
noncomputable def c_rwk : SpecF := fun args _ K => match args with
  | [.one (.c (.int .i64 n))] => bif decide (inR n = true) then K (.tup [tI (wkY n), tI ((n - monY (wkY n)) / 7 + 1), tI (wdN n)]) [] else none
  | _ => none
theorem c_rwk_ok : SpecOk cfg 27 c_rwk := by
  intro args bx K out h
  unfold c_rwk at h
  split at h
  · obtain ⟨hp, h⟩ := bif_some h
    exact ⟨_, _, h, rwk_ok _ (of_decide_eq_true hp) _, by simp [isTupS]⟩
  · cases h
end Go.Proofs.YtldofkogmkfpjaaDoor
