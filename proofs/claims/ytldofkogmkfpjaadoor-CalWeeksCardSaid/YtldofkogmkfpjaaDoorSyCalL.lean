/-
  The laws of layer 8 (cal).
-/
import Derived.Test.YtldofkogmkfpjaaDoorSyCal
namespace Go.Proofs.YtldofkogmkfpjaaDoor
open Go Go.Ev Go.Sy
set_option linter.unusedSimpArgs false
set_option linter.unusedVariables false
set_option maxRecDepth 10000
set_option maxHeartbeats 4000000
/-! ### epactlaw08.answers -/
noncomputable def ans8_e : Ev' := ⟨Tryd.prog, glob, Γof [(26, c_cwk), (28, c_cfw), (20, c_cyd), (23, c_cfy), (18, c_wd)]⟩
theorem ans8_g : Gd cfg ans8_e := gd (env_cons c_cwk_ok (env_cons c_cfw_ok (env_cons c_cyd_ok (env_cons c_cfy_ok (env_cons c_wd_ok (env_nil _))))))
noncomputable def ans8_f : FnD := ⟨17, Tryd.f17, noSh, Tryd.f17.resultTypes.toList⟩
theorem ans8_ent (h : Hd)  : ans8_f.ent ans8_e [] h [] [] = ret (vB true) := by kernel_rfl
theorem ans8_run  : ∃ fu, ans8_f.run ans8_e [] fu [] [] = some ⟨vB true, []⟩ := by
  refine ⟨0, ?_⟩
  rw [FnD.run, ans8_ent]
theorem ans8_ok  : FnOk cfg 17 ([].map SV.den) (vB true : SV).den := by
  obtain ⟨nn, h⟩ := ans8_run 
  exact FnD.ok ans8_g ans8_f mixed Tryd.func17 rfl rfl rfl rfl rfl rfl h
noncomputable def c_ans8 : SpecF := fun args _ K => match args with
  | [] => K (vB true) []
  | _ => none
theorem c_ans8_ok : SpecOk cfg 17 c_ans8 := by
  intro args bx K out h
  unfold c_ans8 at h
  split at h
  · exact ⟨_, _, h, ans8_ok  _, by simp [isTupS]⟩
  · cases h
/-! ### epactlaw08.CalWeekdays -/
noncomputable def lwd_e : Ev' := ⟨Tryd.prog, glob, Γof [(17, c_ans8), (18, c_wd), (19, c_rwd)]⟩
theorem lwd_g : Gd cfg lwd_e := gd (env_cons c_ans8_ok (env_cons c_wd_ok (env_cons c_rwd_ok (env_nil _))))
noncomputable def lwd_f : FnD := ⟨3, Tryd.f3, noSh, Tryd.f3.resultTypes.toList⟩
theorem lwd_ent (h : Hd) (n : Int) : lwd_f.ent lwd_e [] h [vI n] [] = bif decide (4611686018427387904 < n) then ret (vB (decide (wdN n = wdN n))) else bif decide (wdN n = wdN n) then bif decide (wdN (IntKind.i64.wrap (n + 1)) = IntKind.i64.wrap ((wdN n).tmod 7 + 1)) then ret (vB (decide (wdN (IntKind.i64.wrap (n + 7)) = wdN n))) else ret (vB false) else ret (vB false) := by kernel_rfl
theorem lwd_run (n : Int) (hp : -9223372036854775808 ≤ n) : ∃ fu, lwd_f.run lwd_e [] fu [vI n] [] = some ⟨vB true, []⟩ := by
  refine ⟨0, ?_⟩
  rw [FnD.run, lwd_ent]
  try dsimp only
  by_cases h : 4611686018427387904 < n
  · simp [h]
  · have hw := wd_in n
    have e1 : wdN n % 7 = (wdN n).tmod 7 := (Int.tmod_eq_emod_of_nonneg (by omega)).symm
    · have w1 : IntKind.i64.wrap (n + 1) = n + 1 := i64_in' _ (by omega)
      have w2 : IntKind.i64.wrap (n + 7) = n + 7 := i64_in' _ (by omega)
      have w3 : IntKind.i64.wrap ((wdN n).tmod 7 + 1) = (wdN n).tmod 7 + 1 := i64_in' _ (by omega)
      rw [w1, w2, w3, ← e1]
      have a : wdN (n + 1) = wdN n % 7 + 1 := by unfold wdN; omega
      have b : wdN (n + 7) = wdN n := by unfold wdN; omega
      simp [h, a, b]
theorem lwd_ok (n : Int) (hp : -9223372036854775808 ≤ n) : FnOk cfg 3 ([vI n].map SV.den) (vB true : SV).den := by
  obtain ⟨nn, h⟩ := lwd_run n hp
  exact FnD.ok lwd_g lwd_f mixed Tryd.func3 rfl rfl rfl rfl rfl rfl h
noncomputable def c_lwd : SpecF := fun args _ K => match args with
  | [.one (.c (.int .i64 n))] => bif decide (-9223372036854775808 ≤ n) then K (vB true) [] else none
  | _ => none
theorem c_lwd_ok : SpecOk cfg 3 c_lwd := by
  intro args bx K out h
  unfold c_lwd at h
  split at h
  · obtain ⟨hp, h⟩ := bif_some h
    exact ⟨_, _, h, lwd_ok _ (of_decide_eq_true hp) _, by simp [isTupS]⟩
  · cases h
/-! ### epactlaw08.CalYears -/
noncomputable def lyr_e : Ev' := ⟨Tryd.prog, glob, Γof [(20, c_cyd), (21, c_rin), (17, c_ans8), (22, c_ryd), (23, c_cfy)]⟩
theorem lyr_g : Gd cfg lyr_e := gd (env_cons c_cyd_ok (env_cons c_rin_ok (env_cons c_ans8_ok (env_cons c_ryd_ok (env_cons c_cfy_ok (env_nil _))))))
noncomputable def lyr_f : FnD := ⟨4, Tryd.f4, noSh, Tryd.f4.resultTypes.toList⟩
theorem lyr_ent (h : Hd) (n : Int) : lyr_f.ent lyr_e [] h [vI n] [] = let v1 : Int := if inR n = true then n - firstY (gY n) + 1 else 0; let v2 : Int := fyE (if inR n = true then gY n else 0) v1; let v3 : Int := fyN (if inR n = true then gY n else 0) v1; bif !inR n then bif decide ((if inR n = true then (0 : Int) else 2) = 2) then bif decide ((if inR n = true then gY n else 0) = 0) then ret (vB (decide (v1 = 0))) else ret (vB false) else ret (vB false) else bif decide (inR n = true) then bif decide ((if inR n = true then (0 : Int) else 2) = 0) then bif decide ((if inR n = true then gY n else 0) = gY n) then bif decide (v1 = n - firstY (gY n) + 1) then bif decide (v2 = 0) then ret (vB (decide (v3 = n))) else ret (vB false) else ret (vB false) else ret (vB false) else ret (vB false) else none := by kernel_rfl
theorem lyr_run (n : Int) : ∃ fu, lyr_f.run lyr_e [] fu [vI n] [] = some ⟨vB true, []⟩ := by
  refine ⟨0, ?_⟩
  rw [FnD.run, lyr_ent]
  try dsimp only
  cases h : inR n with
  | false => simp
  | true =>
    obtain ⟨h1, h2, h3, h4⟩ := year_day h
    simp [h3, h4]
theorem lyr_ok (n : Int) : FnOk cfg 4 ([vI n].map SV.den) (vB true : SV).den := by
  obtain ⟨nn, h⟩ := lyr_run n
  exact FnD.ok lyr_g lyr_f mixed Tryd.func4 rfl rfl rfl rfl rfl rfl h
noncomputable def c_lyr : SpecF := fun args _ K => match args with
  | [.one (.c (.int .i64 n))] => K (vB true) []
  | _ => none
theorem c_lyr_ok : SpecOk cfg 4 c_lyr := by
  intro args bx K out h
  unfold c_lyr at h
  split at h
  · exact ⟨_, _, h, lyr_ok _ _, by simp [isTupS]⟩
  · cases h
/-! ### epactlaw08.CalFromYears -/
noncomputable def lfy_e : Ev' := ⟨Tryd.prog, glob, Γof [(23, c_cfy), (24, c_long), (17, c_ans8), (25, c_first), (21, c_rin)]⟩
theorem lfy_g : Gd cfg lfy_e := gd (env_cons c_cfy_ok (env_cons c_long_ok (env_cons c_ans8_ok (env_cons c_first_ok (env_cons c_rin_ok (env_nil _))))))
noncomputable def lfy_f : FnD := ⟨5, Tryd.f5, noSh, Tryd.f5.resultTypes.toList⟩
theorem lfy_ent (h : Hd) (y : Int) (d : Int) : lfy_f.ent lfy_e [] h [vI y, vI d] [] = let v1 : Int := IntKind.i64.wrap (IntKind.i64.wrap (firstW y + d) - 1); bif longY y then bif decide (d < 1) then bif decide (fyE y d = 5) then ret (vB (decide (fyN y d = 0))) else ret (vB false) else bif decide (366 < d) then bif decide (fyE y d = 5) then ret (vB (decide (fyN y d = 0))) else ret (vB false) else bif decide (y < (-8589934592 : Int)) then bif decide (fyE y d = 2) then ret (vB (decide (fyN y d = 0))) else ret (vB false) else bif decide (8589934592 < y) then bif decide (fyE y d = 2) then ret (vB (decide (fyN y d = 0))) else ret (vB false) else bif !inR v1 then bif decide (fyE y d = 2) then ret (vB (decide (fyN y d = 0))) else ret (vB false) else bif decide (fyE y d = 0) then ret (vB (decide (fyN y d = v1))) else ret (vB false) else bif decide (d < 1) then bif decide (fyE y d = 5) then ret (vB (decide (fyN y d = 0))) else ret (vB false) else bif decide (365 < d) then bif decide (fyE y d = 5) then ret (vB (decide (fyN y d = 0))) else ret (vB false) else bif decide (y < (-8589934592 : Int)) then bif decide (fyE y d = 2) then ret (vB (decide (fyN y d = 0))) else ret (vB false) else bif decide (8589934592 < y) then bif decide (fyE y d = 2) then ret (vB (decide (fyN y d = 0))) else ret (vB false) else bif !inR v1 then bif decide (fyE y d = 2) then ret (vB (decide (fyN y d = 0))) else ret (vB false) else bif decide (fyE y d = 0) then ret (vB (decide (fyN y d = v1))) else ret (vB false) := by kernel_rfl
theorem lfy_run (y : Int) (d : Int) : ∃ fu, lfy_f.run lfy_e [] fu [vI y, vI d] [] = some ⟨vB true, []⟩ := by
  refine ⟨0, ?_⟩
  rw [FnD.run, lfy_ent]
  try dsimp only
  have key : ∀ l : Int, l = lenY y → (bif decide (d < 1) then bif decide (fyE y d = 5) then ret (vB (decide (fyN y d = 0))) else ret (vB false) else bif decide (l < d) then bif decide (fyE y d = 5) then ret (vB (decide (fyN y d = 0))) else ret (vB false) else bif decide (y < -8589934592) then bif decide (fyE y d = 2) then ret (vB (decide (fyN y d = 0))) else ret (vB false) else bif decide (8589934592 < y) then bif decide (fyE y d = 2) then ret (vB (decide (fyN y d = 0))) else ret (vB false) else bif !inR (IntKind.i64.wrap (IntKind.i64.wrap (firstW y + d) - 1)) then bif decide (fyE y d = 2) then ret (vB (decide (fyN y d = 0))) else ret (vB false) else bif decide (fyE y d = 0) then ret (vB (decide (fyN y d = IntKind.i64.wrap (IntKind.i64.wrap (firstW y + d) - 1)))) else ret (vB false)) = some ⟨vB true, []⟩ := by
    intro l hl
    subst hl
    by_cases h1 : d < 1 ∨ lenY y < d
    · have e : fyE y d = 5 := by rw [fyE, if_pos h1]
      have e2 : fyN y d = 0 := by rw [fyN, e]; rfl
      rw [e, e2]
      by_cases h2 : d < 1
      · simp [h2]
      · simp [h2, show lenY y < d by omega]
    · have h2 : ¬ d < 1 := by omega
      have h3 : ¬ lenY y < d := by omega
      rw [decide_eq_false h2, decide_eq_false h3]
      by_cases h4 : y < -8589934592 ∨ 8589934592 < y
      · have e : fyE y d = 2 := by rw [fyE, if_neg h1, if_pos (by omega)]
        have e2 : fyN y d = 0 := by rw [fyN, e]; rfl
        rw [e, e2]
        by_cases h5 : y < -8589934592
        · simp [h5]
        · simp [h5, show 8589934592 < y by omega]
      · have hl := lenY_in y
        have hf := firstY_in (y := y) (by omega)
        rw [decide_eq_false (show ¬ y < -8589934592 by omega), decide_eq_false (show ¬ 8589934592 < y by omega), firstW_eq y (by omega), i64_in' (firstY y + d) (by omega), i64_in' (firstY y + d - 1) (by omega)]
        by_cases h5 : y < -4000000000 ∨ 4000000000 < y
        · have hr : inR (firstY y + d - 1) = false := far_in h5 (by omega)
          have e : fyE y d = 2 := by rw [fyE, if_neg h1, if_pos h5]
          have e2 : fyN y d = 0 := by rw [fyN, e]; rfl
          simp [hr, e, e2]
        · cases hr : inR (firstY y + d - 1) with
          | true =>
            have e : fyE y d = 0 := by rw [fyE, if_neg h1, if_neg h5, hr]; rfl
            have e2 : fyN y d = firstY y + d - 1 := by rw [fyN, if_pos e]
            simp [e, e2]
          | false =>
            have e : fyE y d = 2 := by rw [fyE, if_neg h1, if_neg h5, hr]; rfl
            have e2 : fyN y d = 0 := by rw [fyN, e]; rfl
            simp [e, e2]
  cases h : longY y with
  | true => exact key 366 (by simp [lenY, h])
  | false => exact key 365 (by simp [lenY, h])
theorem lfy_ok (y : Int) (d : Int) : FnOk cfg 5 ([vI y, vI d].map SV.den) (vB true : SV).den := by
  obtain ⟨nn, h⟩ := lfy_run y d
  exact FnD.ok lfy_g lfy_f mixed Tryd.func5 rfl rfl rfl rfl rfl rfl h
noncomputable def c_lfy : SpecF := fun args _ K => match args with
  | [.one (.c (.int .i64 y)), .one (.c (.int .i64 d))] => K (vB true) []
  | _ => none
theorem c_lfy_ok : SpecOk cfg 5 c_lfy := by
  intro args bx K out h
  unfold c_lfy at h
  split at h
  · exact ⟨_, _, h, lfy_ok _ _ _, by simp [isTupS]⟩
  · cases h
/-! ### epactlaw08.CalWeeks -/
noncomputable def lwk_e : Ev' := ⟨Tryd.prog, glob, Γof [(26, c_cwk), (21, c_rin), (17, c_ans8), (27, c_rwk), (28, c_cfw)]⟩
theorem lwk_g : Gd cfg lwk_e := gd (env_cons c_cwk_ok (env_cons c_rin_ok (env_cons c_ans8_ok (env_cons c_rwk_ok (env_cons c_cfw_ok (env_nil _))))))
noncomputable def lwk_f : FnD := ⟨6, Tryd.f6, noSh, Tryd.f6.resultTypes.toList⟩
theorem lwk_ent (h : Hd) (n : Int) : lwk_f.ent lwk_e [] h [vI n] [] = let v1 : Int := (n - monY (wkY n)) / 7 + 1; let v2 : Int := if inR n = true then v1 else 0; let v3 : Int := fwE (if inR n = true then wkY n else 0) v2 (if inR n = true then wdN n else 0); let v4 : Int := fwN (if inR n = true then wkY n else 0) v2 (if inR n = true then wdN n else 0); bif !inR n then bif decide ((if inR n = true then (0 : Int) else 2) = 2) then bif decide ((if inR n = true then wkY n else 0) = 0) then bif decide (v2 = 0) then ret (vB (decide ((if inR n = true then wdN n else 0) = 0))) else ret (vB false) else ret (vB false) else ret (vB false) else bif decide (inR n = true) then bif decide ((if inR n = true then (0 : Int) else 2) = 0) then bif decide ((if inR n = true then wkY n else 0) = wkY n) then bif decide (v2 = v1) then bif decide ((if inR n = true then wdN n else 0) = wdN n) then bif decide (v3 = 0) then bif decide (v4 = n) then bif decide (1 ≤ v2) then ret (vB (decide (v2 ≤ 53))) else ret (vB false) else ret (vB false) else ret (vB false) else ret (vB false) else ret (vB false) else ret (vB false) else ret (vB false) else none := by kernel_rfl
theorem lwk_run (n : Int) : ∃ fu, lwk_f.run lwk_e [] fu [vI n] [] = some ⟨vB true, []⟩ := by
  refine ⟨0, ?_⟩
  rw [FnD.run, lwk_ent]
  try dsimp only
  cases h : inR n with
  | false => simp
  | true =>
    obtain ⟨h1, h2, h3, h4⟩ := week_day h
    simp [h1, h2, h3, h4]
theorem lwk_ok (n : Int) : FnOk cfg 6 ([vI n].map SV.den) (vB true : SV).den := by
  obtain ⟨nn, h⟩ := lwk_run n
  exact FnD.ok lwk_g lwk_f mixed Tryd.func6 rfl rfl rfl rfl rfl rfl h
noncomputable def c_lwk : SpecF := fun args _ K => match args with
  | [.one (.c (.int .i64 n))] => K (vB true) []
  | _ => none
theorem c_lwk_ok : SpecOk cfg 6 c_lwk := by
  intro args bx K out h
  unfold c_lwk at h
  split at h
  · exact ⟨_, _, h, lwk_ok _ _, by simp [isTupS]⟩
  · cases h
/-! ### epactlaw08.CalFromWeeks -/
noncomputable def lfw_e : Ev' := ⟨Tryd.prog, glob, Γof [(28, c_cfw), (29, c_won), (17, c_ans8), (21, c_rin)]⟩
theorem lfw_g : Gd cfg lfw_e := gd (env_cons c_cfw_ok (env_cons c_won_ok (env_cons c_ans8_ok (env_cons c_rin_ok (env_nil _)))))
noncomputable def lfw_f : FnD := ⟨7, Tryd.f7, noSh, Tryd.f7.resultTypes.toList⟩
theorem lfw_ent (h : Hd) (y : Int) (w : Int) (d : Int) : lfw_f.ent lfw_e [] h [vI y, vI w, vI d] [] = let v1 : Int := IntKind.i64.wrap ((IntKind.i64.wrap (y.tmod 400 + 400)).tmod 400 + 400); let v2 : Int := IntKind.i64.wrap (v1 + 1); let v3 : Int := IntKind.i64.wrap ((IntKind.i64.wrap (monY v2 - monY v1)).tdiv 7); let v4 : Int := IntKind.i64.wrap (IntKind.i64.wrap (IntKind.i64.wrap (monY y + IntKind.i64.wrap (IntKind.i64.wrap (w - 1) * 7)) + d) - 1); bif decide ((-100000000000 : Int) ≤ v2 ∧ v2 ≤ 100000000000) then bif decide ((-100000000000 : Int) ≤ v1 ∧ v1 ≤ 100000000000) then bif decide (d < 1) then bif decide (fwE y w d = 5) then ret (vB (decide (fwN y w d = 0))) else ret (vB false) else bif decide (7 < d) then bif decide (fwE y w d = 5) then ret (vB (decide (fwN y w d = 0))) else ret (vB false) else bif decide (w < 1) then bif decide (fwE y w d = 5) then ret (vB (decide (fwN y w d = 0))) else ret (vB false) else bif decide (v3 < w) then bif decide (fwE y w d = 5) then ret (vB (decide (fwN y w d = 0))) else ret (vB false) else bif decide (y < (-8589934592 : Int)) then bif decide (fwE y w d = 2) then ret (vB (decide (fwN y w d = 0))) else ret (vB false) else bif decide (8589934592 < y) then bif decide (fwE y w d = 2) then ret (vB (decide (fwN y w d = 0))) else ret (vB false) else bif decide ((-100000000000 : Int) ≤ y ∧ y ≤ 100000000000) then bif !inR v4 then bif decide (fwE y w d = 2) then ret (vB (decide (fwN y w d = 0))) else ret (vB false) else bif decide (fwE y w d = 0) then ret (vB (decide (fwN y w d = v4))) else ret (vB false) else none else none else none := by kernel_rfl
theorem lfw_run (y : Int) (w : Int) (d : Int) : ∃ fu, lfw_f.run lfw_e [] fu [vI y, vI w, vI d] [] = some ⟨vB true, []⟩ := by
  refine ⟨0, ?_⟩
  rw [FnD.run, lfw_ent]
  try dsimp only
  obtain ⟨t1, t2, t3⟩ := tdiv_facts y 400 (by omega)
  have hx : ∃ k : Int, (y.tmod 400 + 400).tmod 400 + 400 = y + 400 * k ∧ 400 ≤ (y.tmod 400 + 400).tmod 400 + 400 ∧ (y.tmod 400 + 400).tmod 400 + 400 < 800 := by
    have h := tmod_em y 400 (by omega)
    rw [Int.tmod_eq_emod_of_nonneg (show 0 ≤ y.tmod 400 + 400 by omega)]
    refine ⟨- (y / 400) + 1, ?_, ?_, ?_⟩ <;> omega
  obtain ⟨k, hk, hk1, hk2⟩ := hx
  have hm := weeks_mon (y + 400 * k)
  rw [weeks_per] at hm
  have hwi := weeks_in y
  have v1 : IntKind.i64.wrap ((IntKind.i64.wrap (y.tmod 400 + 400)).tmod 400 + 400) = y + 400 * k := by
    rw [i64_in' (y.tmod 400 + 400) (by omega), i64_in' _ (by omega), hk]
  have v3 : IntKind.i64.wrap ((IntKind.i64.wrap (monY (y + 400 * k + 1) - monY (y + 400 * k))).tdiv 7) = weeksN y := by
    rw [hm, i64_in' (7 * weeksN y) (by omega), tdiv_nn _ _ (by omega), show 7 * weeksN y / 7 = weeksN y by omega, i64_in' _ (by omega)]
  rw [v1, i64_in' (y + 400 * k + 1) (by omega), v3, decide_eq_true (show -100000000000 ≤ y + 400 * k + 1 ∧ y + 400 * k + 1 ≤ 100000000000 by omega), decide_eq_true (show -100000000000 ≤ y + 400 * k ∧ y + 400 * k ≤ 100000000000 by omega), cond_true, cond_true]
  clear v1 v3 hm hk hk1 hk2 t1 t2 t3
  by_cases h : d < 1 ∨ 7 < d ∨ w < 1 ∨ weeksN y < w
  · have e : fwE y w d = 5 := by rw [fwE, if_pos h]
    have e2 : fwN y w d = 0 := by rw [fwN, e]; rfl
    rw [e, e2]
    by_cases h1 : d < 1
    · simp [h1]
    · by_cases h2 : 7 < d
      · simp [h1, h2]
      · by_cases h3 : w < 1
        · simp [h1, h2, h3]
        · simp [h1, h2, h3, show weeksN y < w by omega]
  · rw [decide_eq_false (show ¬ d < 1 by omega), decide_eq_false (show ¬ 7 < d by omega), decide_eq_false (show ¬ w < 1 by omega), decide_eq_false (show ¬ weeksN y < w by omega)]
    simp only [cond_false]
    by_cases h4 : y < -8589934592 ∨ 8589934592 < y
    · have e : fwE y w d = 2 := by rw [fwE, if_neg h, if_pos (by omega)]
      have e2 : fwN y w d = 0 := by rw [fwN, e]; rfl
      rw [e, e2]
      by_cases h5 : y < -8589934592
      · simp [h5]
      · simp [h5, show 8589934592 < y by omega]
    · have hm := monY_in (y := y) (by omega)
      have hn := monY_near y
      rw [decide_eq_false (show ¬ y < -8589934592 by omega), decide_eq_false (show ¬ 8589934592 < y by omega), decide_eq_true (show -100000000000 ≤ y ∧ y ≤ 100000000000 by omega), i64_in' (w - 1) (by omega), i64_in' ((w - 1) * 7) (by omega), i64_in' (monY y + (w - 1) * 7) (by omega), i64_in' (monY y + (w - 1) * 7 + d) (by omega), i64_in' (monY y + (w - 1) * 7 + d - 1) (by omega)]
      by_cases h5 : y < -4000000000 ∨ 4000000000 < y
      · have hr : inR (monY y + (w - 1) * 7 + d - 1) = false := far_in h5 (by omega)
        have e : fwE y w d = 2 := by rw [fwE, if_neg h, if_pos h5]
        have e2 : fwN y w d = 0 := by rw [fwN, e]; rfl
        simp [hr, e, e2]
      · cases hr : inR (monY y + (w - 1) * 7 + d - 1) with
        | true =>
          have e : fwE y w d = 0 := by rw [fwE, if_neg h, if_neg h5, hr]; rfl
          have e2 : fwN y w d = monY y + (w - 1) * 7 + d - 1 := by rw [fwN, if_pos e]
          simp [e, e2]
        | false =>
          have e : fwE y w d = 2 := by rw [fwE, if_neg h, if_neg h5, hr]; rfl
          have e2 : fwN y w d = 0 := by rw [fwN, e]; rfl
          simp [e, e2]
theorem lfw_ok (y : Int) (w : Int) (d : Int) : FnOk cfg 7 ([vI y, vI w, vI d].map SV.den) (vB true : SV).den := by
  obtain ⟨nn, h⟩ := lfw_run y w d
  exact FnD.ok lfw_g lfw_f mixed Tryd.func7 rfl rfl rfl rfl rfl rfl h
noncomputable def c_lfw : SpecF := fun args _ K => match args with
  | [.one (.c (.int .i64 y)), .one (.c (.int .i64 w)), .one (.c (.int .i64 d))] => K (vB true) []
  | _ => none
theorem c_lfw_ok : SpecOk cfg 7 c_lfw := by
  intro args bx K out h
  unfold c_lfw at h
  split at h
  · exact ⟨_, _, h, lfw_ok _ _ _ _, by simp [isTupS]⟩
  · cases h
end Go.Proofs.YtldofkogmkfpjaaDoor
