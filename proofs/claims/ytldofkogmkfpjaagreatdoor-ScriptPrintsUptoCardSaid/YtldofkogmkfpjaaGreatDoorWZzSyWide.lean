/-
  The contracts of layer 2 (wide).
-/
import Derived.Test.YtldofkogmkfpjaaGreatDoorWZzSyLdiv
namespace Go.Proofs.YtldofkogmkfpjaaGreatDoor
open Go Go.Ev Go.Sy
set_option linter.unusedSimpArgs false
set_option linter.unusedVariables false
set_option maxRecDepth 10000
set_option maxHeartbeats 4000000
/-! ### wide.bits -/
noncomputable def wbits_e : Ev' := ⟨Tryz.prog, glob, Γof []⟩
theorem wbits_g : Gd cfg wbits_e := gd (env_nil _)
noncomputable def wbits_f : FnD := ⟨235, Tryz.f235, noSh, Tryz.f235.resultTypes.toList, 0⟩
theorem wbits_ent (h : Hd) (a : Int) (b : Int) : wbits_f.ent wbits_e [] h [agg [.c (.int .i64 a), .c (.int .u64 b)]] [] = ret (agg [gU (IntKind.u64.wrap a), gU b]) := by kernel_rfl
theorem wbits_run (a : Int) (b : Int) (hp : isH a ∧ isW b) : ∃ fu, wbits_f.run wbits_e [] fu [agg [.c (.int .i64 a), .c (.int .u64 b)]] [] = some ⟨agg [gU (wHi ((wVal a b) % 340282366920938463463374607431768211456)), gU (wLo ((wVal a b) % 340282366920938463463374607431768211456))], []⟩ := by
  refine ⟨0, ?_⟩
  rw [FnD.run, wbits_ent]
  obtain ⟨ha, hb⟩ := hp
  simp only [ret, Option.some.injEq, Out.mk.injEq, SV.tup.injEq, SV.one.injEq, S1.c.injEq, S1.agg.injEq, List.cons.injEq, Sg.c.injEq, Cl.int.injEq, Cl.bool.injEq, Cl.str.injEq, and_true, true_and]
  unfold isH at ha; unfold isW at hb; unfold wHi wLo wVal; rw [u64w]
  refine ⟨?_, ?_⟩ <;> omega
theorem wbits_ok (a : Int) (b : Int) (hp : isH a ∧ isW b) : FnOk cfg 235 ([agg [.c (.int .i64 a), .c (.int .u64 b)]].map SV.den) (agg [gU (wHi ((wVal a b) % 340282366920938463463374607431768211456)), gU (wLo ((wVal a b) % 340282366920938463463374607431768211456))] : SV).den := by
  obtain ⟨nn, h⟩ := wbits_run a b hp
  exact FnD.ok wbits_g wbits_f mixed Tryz.func235 rfl rfl rfl rfl rfl rfl h
noncomputable def c_wbits : SpecF := fun args _ K => match args with
  | [.one (.agg [.c (.int .i64 a), .c (.int .u64 b)])] => bif decide (isH a ∧ isW b) then K (agg [gU (wHi ((wVal a b) % 340282366920938463463374607431768211456)), gU (wLo ((wVal a b) % 340282366920938463463374607431768211456))]) [] else none
  | _ => none
theorem c_wbits_ok : SpecOk cfg 235 c_wbits := by
  intro args bx K out h
  unfold c_wbits at h
  split at h
  · obtain ⟨hp, h⟩ := bif_some h
    exact ⟨_, _, h, .inl (wbits_ok _ _ (of_decide_eq_true hp) _), by simp [isTupS]⟩
  · cases h
/-! ### wide.from -/
noncomputable def wfrom_e : Ev' := ⟨Tryz.prog, glob, Γof []⟩
theorem wfrom_g : Gd cfg wfrom_e := gd (env_nil _)
noncomputable def wfrom_f : FnD := ⟨236, Tryz.f236, noSh, Tryz.f236.resultTypes.toList, 0⟩
theorem wfrom_ent (h : Hd) (a : Int) (b : Int) : wfrom_f.ent wfrom_e [] h [agg [.c (.int .u64 a), .c (.int .u64 b)]] [] = ret (agg [gI (IntKind.i64.wrap a), gU b]) := by kernel_rfl
theorem wfrom_run (a : Int) (b : Int) (hp : isW a ∧ isW b) : ∃ fu, wfrom_f.run wfrom_e [] fu [agg [.c (.int .u64 a), .c (.int .u64 b)]] [] = some ⟨agg [gI (wHi (((wVal a b) + 170141183460469231731687303715884105728) % 340282366920938463463374607431768211456 - 170141183460469231731687303715884105728)), gU (wLo (((wVal a b) + 170141183460469231731687303715884105728) % 340282366920938463463374607431768211456 - 170141183460469231731687303715884105728))], []⟩ := by
  refine ⟨0, ?_⟩
  rw [FnD.run, wfrom_ent]
  obtain ⟨ha, hb⟩ := hp
  simp only [ret, Option.some.injEq, Out.mk.injEq, SV.tup.injEq, SV.one.injEq, S1.c.injEq, S1.agg.injEq, List.cons.injEq, Sg.c.injEq, Cl.int.injEq, Cl.bool.injEq, Cl.str.injEq, and_true, true_and]
  unfold isW at ha hb; unfold wHi wLo wVal; rw [i64w]
  refine ⟨?_, ?_⟩ <;> omega
theorem wfrom_ok (a : Int) (b : Int) (hp : isW a ∧ isW b) : FnOk cfg 236 ([agg [.c (.int .u64 a), .c (.int .u64 b)]].map SV.den) (agg [gI (wHi (((wVal a b) + 170141183460469231731687303715884105728) % 340282366920938463463374607431768211456 - 170141183460469231731687303715884105728)), gU (wLo (((wVal a b) + 170141183460469231731687303715884105728) % 340282366920938463463374607431768211456 - 170141183460469231731687303715884105728))] : SV).den := by
  obtain ⟨nn, h⟩ := wfrom_run a b hp
  exact FnD.ok wfrom_g wfrom_f mixed Tryz.func236 rfl rfl rfl rfl rfl rfl h
noncomputable def c_wfrom : SpecF := fun args _ K => match args with
  | [.one (.agg [.c (.int .u64 a), .c (.int .u64 b)])] => bif decide (isW a ∧ isW b) then K (agg [gI (wHi (((wVal a b) + 170141183460469231731687303715884105728) % 340282366920938463463374607431768211456 - 170141183460469231731687303715884105728)), gU (wLo (((wVal a b) + 170141183460469231731687303715884105728) % 340282366920938463463374607431768211456 - 170141183460469231731687303715884105728))]) [] else none
  | _ => none
theorem c_wfrom_ok : SpecOk cfg 236 c_wfrom := by
  intro args bx K out h
  unfold c_wfrom at h
  split at h
  · obtain ⟨hp, h⟩ := bif_some h
    exact ⟨_, _, h, .inl (wfrom_ok _ _ (of_decide_eq_true hp) _), by simp [isTupS]⟩
  · cases h
/-! ### wide.Of -/
noncomputable def wof_e : Ev' := ⟨Tryz.prog, glob, Γof []⟩
theorem wof_g : Gd cfg wof_e := gd (env_nil _)
noncomputable def wof_f : FnD := ⟨85, Tryz.f85, noSh, Tryz.f85.resultTypes.toList, 0⟩
theorem wof_ent (h : Hd) (n : Int) : wof_f.ent wof_e [] h [vI n] [] = ret (agg [gI (shrI IntKind.i64 n (63 : Int)), gU (IntKind.u64.wrap n)]) := by kernel_rfl
theorem wof_run (n : Int) (hp : isH n) : ∃ fu, wof_f.run wof_e [] fu [vI n] [] = some ⟨agg [gI (wHi (n)), gU (wLo (n))], []⟩ := by
  refine ⟨0, ?_⟩
  rw [FnD.run, wof_ent]
  simp only [ret, Option.some.injEq, Out.mk.injEq, SV.tup.injEq, SV.one.injEq, S1.c.injEq, S1.agg.injEq, List.cons.injEq, Sg.c.injEq, Cl.int.injEq, Cl.bool.injEq, Cl.str.injEq, and_true, true_and]
  unfold isH at hp; rw [sar63, u64w]; unfold wHi wLo
  refine ⟨?_, ?_⟩ <;> omega
theorem wof_ok (n : Int) (hp : isH n) : FnOk cfg 85 ([vI n].map SV.den) (agg [gI (wHi (n)), gU (wLo (n))] : SV).den := by
  obtain ⟨nn, h⟩ := wof_run n hp
  exact FnD.ok wof_g wof_f mixed Tryz.func85 rfl rfl rfl rfl rfl rfl h
noncomputable def c_wof : SpecF := fun args _ K => match args with
  | [.one (.c (.int .i64 n))] => bif decide (isH n) then K (agg [gI (wHi (n)), gU (wLo (n))]) [] else none
  | _ => none
theorem c_wof_ok : SpecOk cfg 85 c_wof := by
  intro args bx K out h
  unfold c_wof at h
  split at h
  · obtain ⟨hp, h⟩ := bif_some h
    exact ⟨_, _, h, .inl (wof_ok _ (of_decide_eq_true hp) _), by simp [isTupS]⟩
  · cases h
/-! ### wide.Int -/
noncomputable def wint_e : Ev' := ⟨Tryz.prog, glob, Γof [(85, c_wof)]⟩
theorem wint_g : Gd cfg wint_e := gd (env_cons c_wof_ok (env_nil _))
noncomputable def wint_f : FnD := ⟨204, Tryz.f204, noSh, Tryz.f204.resultTypes.toList, 0⟩
theorem wint_ent (h : Hd) (a : Int) (b : Int) : wint_f.ent wint_e [] h [agg [.c (.int .i64 a), .c (.int .u64 b)]] [] = bif decide (isH (IntKind.i64.wrap b)) then bif decide (wHi (IntKind.i64.wrap b) = a) && (decide (wLo (IntKind.i64.wrap b) = b) && true) then ret (SV.tup [tI (IntKind.i64.wrap b), tI (0 : Int)]) else ret (SV.tup [tI (0 : Int), tI (2 : Int)]) else none := by kernel_rfl
theorem wint_run (a : Int) (b : Int) (hp : isH a ∧ isW b) : ∃ fu, wint_f.run wint_e [] fu [agg [.c (.int .i64 a), .c (.int .u64 b)]] [] = some ⟨.tup [tI (if isH (wVal a b) then wVal a b else 0), tI (if isH (wVal a b) then 0 else 2)], []⟩ := by
  refine ⟨0, ?_⟩
  rw [FnD.run, wint_ent]
  obtain ⟨ha, hb⟩ := hp
  have hi : isH (IntKind.i64.wrap b) := by rw [i64w]; unfold isH; omega
  refine condT hi ?_
  have h1 : wLo (IntKind.i64.wrap b) = b := by rw [i64w]; unfold isW at hb; unfold wLo; omega
  have h2 : wHi (IntKind.i64.wrap b) = a ↔ isH (wVal a b) := by rw [i64w]; unfold isW at hb; unfold isH at ha; unfold wHi isH wVal; omega
  by_cases h : isH (wVal a b)
  · have h3 : IntKind.i64.wrap b = wVal a b := by rw [← wVal_mk (IntKind.i64.wrap b), h1, h2.2 h]
    rw [decide_eq_true (h2.2 h), decide_eq_true h1, if_pos h, if_pos h, h3]
    rfl
  · rw [decide_eq_false (fun e => h (h2.1 e)), if_neg h, if_neg h]
    rfl
theorem wint_ok (a : Int) (b : Int) (hp : isH a ∧ isW b) : FnOk cfg 204 ([agg [.c (.int .i64 a), .c (.int .u64 b)]].map SV.den) (.tup [tI (if isH (wVal a b) then wVal a b else 0), tI (if isH (wVal a b) then 0 else 2)] : SV).den := by
  obtain ⟨nn, h⟩ := wint_run a b hp
  exact FnD.ok wint_g wint_f mixed Tryz.func204 rfl rfl rfl rfl rfl rfl h
noncomputable def c_wint : SpecF := fun args _ K => match args with
  | [.one (.agg [.c (.int .i64 a), .c (.int .u64 b)])] => bif decide (isH a ∧ isW b) then K (.tup [tI (if isH (wVal a b) then wVal a b else 0), tI (if isH (wVal a b) then 0 else 2)]) [] else none
  | _ => none
theorem c_wint_ok : SpecOk cfg 204 c_wint := by
  intro args bx K out h
  unfold c_wint at h
  split at h
  · obtain ⟨hp, h⟩ := bif_some h
    exact ⟨_, _, h, .inl (wint_ok _ _ (of_decide_eq_true hp) _), by simp [isTupS]⟩
  · cases h
/-! ### wide.Cmp -/
noncomputable def wcmp_e : Ev' := ⟨Tryz.prog, glob, Γof []⟩
theorem wcmp_g : Gd cfg wcmp_e := gd (env_nil _)
noncomputable def wcmp_f : FnD := ⟨262, Tryz.f262, noSh, Tryz.f262.resultTypes.toList, 0⟩
theorem wcmp_ent (h : Hd) (a : Int) (b : Int) (c : Int) (d : Int) : wcmp_f.ent wcmp_e [] h [agg [.c (.int .i64 a), .c (.int .u64 b)], agg [.c (.int .i64 c), .c (.int .u64 d)]] [] = bif decide (a = c) && (decide (b = d) && true) then ret (vI (0 : Int)) else bif decide (a < c) then ret (vI (-1 : Int)) else bif decide (a = c) then bif decide (b < d) then ret (vI (-1 : Int)) else ret (vI (1 : Int)) else ret (vI (1 : Int)) := by kernel_rfl
theorem wcmp_run (a : Int) (b : Int) (c : Int) (d : Int) (hp : isH a ∧ isW b ∧ isH c ∧ isW d) : ∃ fu, wcmp_f.run wcmp_e [] fu [agg [.c (.int .i64 a), .c (.int .u64 b)], agg [.c (.int .i64 c), .c (.int .u64 d)]] [] = some ⟨vI (cmpV (wVal a b) (wVal c d)), []⟩ := by
  refine ⟨0, ?_⟩
  rw [FnD.run, wcmp_ent]
  obtain ⟨ha, hb, hc, hd⟩ := hp
  obtain ⟨e1, e2⟩ := cmp_val (a := a) (c := c) hb hd
  unfold cmpV
  simp only [e1, e2]
  by_cases h1 : a = c
  · subst h1
    by_cases h2 : b = d
    · subst h2; simp
    · by_cases h3 : b < d <;> simp [h2, h3]
  · by_cases h3 : a < c <;> simp [h1, h3]
theorem wcmp_ok (a : Int) (b : Int) (c : Int) (d : Int) (hp : isH a ∧ isW b ∧ isH c ∧ isW d) : FnOk cfg 262 ([agg [.c (.int .i64 a), .c (.int .u64 b)], agg [.c (.int .i64 c), .c (.int .u64 d)]].map SV.den) (vI (cmpV (wVal a b) (wVal c d)) : SV).den := by
  obtain ⟨nn, h⟩ := wcmp_run a b c d hp
  exact FnD.ok wcmp_g wcmp_f mixed Tryz.func262 rfl rfl rfl rfl rfl rfl h
noncomputable def c_wcmp : SpecF := fun args _ K => match args with
  | [.one (.agg [.c (.int .i64 a), .c (.int .u64 b)]), .one (.agg [.c (.int .i64 c), .c (.int .u64 d)])] => bif decide (isH a ∧ isW b ∧ isH c ∧ isW d) then K (vI (cmpV (wVal a b) (wVal c d))) [] else none
  | _ => none
theorem c_wcmp_ok : SpecOk cfg 262 c_wcmp := by
  intro args bx K out h
  unfold c_wcmp at h
  split at h
  · obtain ⟨hp, h⟩ := bif_some h
    exact ⟨_, _, h, .inl (wcmp_ok _ _ _ _ (of_decide_eq_true hp) _), by simp [isTupS]⟩
  · cases h
/-! ### wide.size -/
noncomputable def wsize_e : Ev' := ⟨Tryz.prog, glob, Γof [(235, c_wbits), (255, c_lsub)]⟩
theorem wsize_g : Gd cfg wsize_e := gd (env_cons c_wbits_ok (env_cons c_lsub_ok (env_nil _)))
noncomputable def wsize_f : FnD := ⟨238, Tryz.f238, noSh, Tryz.f238.resultTypes.toList, 0⟩
theorem wsize_ent (h : Hd) (a : Int) (b : Int) : wsize_f.ent wsize_e [] h [agg [.c (.int .i64 a), .c (.int .u64 b)]] [] = let v1 : Int := (wVal (0 : Int) (0 : Int) - wVal (wHi (wVal a b % (340282366920938463463374607431768211456 : Int))) (wLo (wVal a b % (340282366920938463463374607431768211456 : Int)))) % (340282366920938463463374607431768211456 : Int); bif decide ((0 : Int) ≤ a) then bif decide (isH a ∧ isW b) then ret (agg [gU (wHi (wVal a b % (340282366920938463463374607431768211456 : Int))), gU (wLo (wVal a b % (340282366920938463463374607431768211456 : Int)))]) else none else bif decide (isH a ∧ isW b) then bif decide (isW (0 : Int) ∧ isW (0 : Int) ∧ isW (wHi (wVal a b % (340282366920938463463374607431768211456 : Int))) ∧ isW (wLo (wVal a b % (340282366920938463463374607431768211456 : Int)))) then ret (agg [gU (wHi v1), gU (wLo v1)]) else none else none := by kernel_rfl
theorem wsize_run (a : Int) (b : Int) (hp : isH a ∧ isW b) : ∃ fu, wsize_f.run wsize_e [] fu [agg [.c (.int .i64 a), .c (.int .u64 b)]] [] = some ⟨agg [gU (wHi (absV (wVal a b))), gU (wLo (absV (wVal a b)))], []⟩ := by
  refine ⟨0, ?_⟩
  rw [FnD.run, wsize_ent]
  have mW : ∀ x : Int, isW (wHi (x % 340282366920938463463374607431768211456)) ∧ isW (wLo (x % 340282366920938463463374607431768211456)) := fun x => ⟨wHi_W ⟨by omega, by omega⟩, wLo_in _⟩
  have z0 : isW 0 := ⟨by omega, by omega⟩
  obtain ⟨ha, hb⟩ := hp
  have hI := isI_val ha hb
  have hn := wVal_neg (a := a) hb
  unfold isI at hI
  simp only [wVal_mk]
  by_cases h : 0 ≤ a
  · refine condT h (condT ⟨ha, hb⟩ ?_)
    rw [show absV (wVal a b) = wVal a b from if_neg (by omega), Int.emod_eq_of_lt (by omega) (by omega)]
  · refine condF h (condT ⟨ha, hb⟩ (condT ⟨z0, z0, (mW _).1, (mW _).2⟩ ?_))
    rw [show absV (wVal a b) = - wVal a b from if_pos (by omega), show (wVal 0 0 - wVal a b % 340282366920938463463374607431768211456) % 340282366920938463463374607431768211456 = - wVal a b by rw [show wVal 0 0 = 0 from rfl]; omega]
theorem wsize_ok (a : Int) (b : Int) (hp : isH a ∧ isW b) : FnOk cfg 238 ([agg [.c (.int .i64 a), .c (.int .u64 b)]].map SV.den) (agg [gU (wHi (absV (wVal a b))), gU (wLo (absV (wVal a b)))] : SV).den := by
  obtain ⟨nn, h⟩ := wsize_run a b hp
  exact FnD.ok wsize_g wsize_f mixed Tryz.func238 rfl rfl rfl rfl rfl rfl h
noncomputable def c_wsize : SpecF := fun args _ K => match args with
  | [.one (.agg [.c (.int .i64 a), .c (.int .u64 b)])] => bif decide (isH a ∧ isW b) then K (agg [gU (wHi (absV (wVal a b))), gU (wLo (absV (wVal a b)))]) [] else none
  | _ => none
theorem c_wsize_ok : SpecOk cfg 238 c_wsize := by
  intro args bx K out h
  unfold c_wsize at h
  split at h
  · obtain ⟨hp, h⟩ := bif_some h
    exact ⟨_, _, h, .inl (wsize_ok _ _ (of_decide_eq_true hp) _), by simp [isTupS]⟩
  · cases h
/-! ### wide.signed -/
noncomputable def wsgn_e : Ev' := ⟨Tryz.prog, glob, Γof [(257, c_lcmp), (255, c_lsub), (236, c_wfrom)]⟩
theorem wsgn_g : Gd cfg wsgn_e := gd (env_cons c_lcmp_ok (env_cons c_lsub_ok (env_cons c_wfrom_ok (env_nil _))))
noncomputable def wsgn_f : FnD := ⟨237, Tryz.f237, noSh, Tryz.f237.resultTypes.toList, 0⟩
theorem wsgn_ent (h : Hd) (a : Int) (b : Int) (m : Bool) : wsgn_f.ent wsgn_e [] h [agg [.c (.int .u64 a), .c (.int .u64 b)], vB m] [] = let v1 : Int := (wVal (0 : Int) (0 : Int) - wVal a b) % (340282366920938463463374607431768211456 : Int); let v2 : Int := wHi v1; let v3 : Int := wLo v1; let v4 : Int := (wVal v2 v3 + (170141183460469231731687303715884105728 : Int)) % (340282366920938463463374607431768211456 : Int) - (170141183460469231731687303715884105728 : Int); let v5 : Int := (wVal a b + (170141183460469231731687303715884105728 : Int)) % (340282366920938463463374607431768211456 : Int) - (170141183460469231731687303715884105728 : Int); let v6 : Int := wHi v5; bif m then bif decide (isW a ∧ isW b ∧ isW (9223372036854775808 : Int) ∧ isW (0 : Int)) then bif decide (cmpV (wVal a b) (wVal (9223372036854775808 : Int) (0 : Int)) ≤ (0 : Int)) then bif decide (isW (0 : Int) ∧ isW (0 : Int) ∧ isW a ∧ isW b) then bif decide (isW v2 ∧ isW v3) then ret (SV.tup [S1.agg [gI (wHi v4), gU (wLo v4)], tI (0 : Int)]) else none else none else bif !m then bif decide (isW a ∧ isW b ∧ isW (9223372036854775808 : Int) ∧ isW (0 : Int)) then bif decide (cmpV (wVal a b) (wVal (9223372036854775808 : Int) (0 : Int)) < (0 : Int)) then bif decide (isW a ∧ isW b) then ret (SV.tup [S1.agg [gI v6, gU (wLo v5)], tI (0 : Int)]) else none else ret (SV.tup [S1.agg [gI (0 : Int), gU (0 : Int)], tI (2 : Int)]) else none else ret (SV.tup [S1.agg [gI (0 : Int), gU (0 : Int)], tI (2 : Int)]) else none else bif !m then bif decide (isW a ∧ isW b ∧ isW (9223372036854775808 : Int) ∧ isW (0 : Int)) then bif decide (cmpV (wVal a b) (wVal (9223372036854775808 : Int) (0 : Int)) < (0 : Int)) then bif decide (isW a ∧ isW b) then ret (SV.tup [S1.agg [gI v6, gU (wLo v5)], tI (0 : Int)]) else none else ret (SV.tup [S1.agg [gI (0 : Int), gU (0 : Int)], tI (2 : Int)]) else none else ret (SV.tup [S1.agg [gI (0 : Int), gU (0 : Int)], tI (2 : Int)]) := by kernel_rfl
theorem wsgn_run (a : Int) (b : Int) (m : Bool) (hp : isW a ∧ isW b) : ∃ fu, wsgn_f.run wsgn_e [] fu [agg [.c (.int .u64 a), .c (.int .u64 b)], vB m] [] = some ⟨.tup [.agg [gI (wHi (clip (if m then - wVal a b else wVal a b))), gU (wLo (clip (if m then - wVal a b else wVal a b)))], tI (errV (if m then - wVal a b else wVal a b))], []⟩ := by
  refine ⟨0, ?_⟩
  rw [FnD.run, wsgn_ent]
  have mW : ∀ x : Int, isW (wHi (x % 340282366920938463463374607431768211456)) ∧ isW (wLo (x % 340282366920938463463374607431768211456)) := fun x => ⟨wHi_W ⟨by omega, by omega⟩, wLo_in _⟩
  have z0 : isW 0 := ⟨by omega, by omega⟩
  obtain ⟨ha, hb⟩ := hp
  obtain ⟨v0, v1⟩ := wVal_M ha hb
  have l0 : isW 9223372036854775808 := ⟨by omega, by omega⟩
  simp only [wVal_mk, cmpV_le, cmpV_lt]
  rw [show wVal 0 0 = 0 from rfl, show wVal 9223372036854775808 0 = 170141183460469231731687303715884105728 from rfl]
  cases m with
  | true =>
    simp only [cond_true, Bool.not_true, cond_false, if_true]
    refine condT ⟨ha, hb, l0, z0⟩ ?_
    by_cases h : wVal a b ≤ 170141183460469231731687303715884105728
    · have hi : isI (- wVal a b) := by unfold isI; omega
      refine condT h (condT ⟨z0, z0, ha, hb⟩ (condT (mW _) ?_))
      rw [clip_in hi, errV_in hi, show ((0 - wVal a b) % 340282366920938463463374607431768211456 + 170141183460469231731687303715884105728) % 340282366920938463463374607431768211456 - 170141183460469231731687303715884105728 = - wVal a b by omega]
    · have hi : ¬ isI (- wVal a b) := by unfold isI; omega
      refine condF h ?_
      rw [clip_out hi, errV_out hi]; rfl
  | false =>
    simp only [Bool.not_false, cond_true, cond_false, Bool.false_eq_true, if_false]
    refine condT ⟨ha, hb, l0, z0⟩ ?_
    by_cases h : wVal a b < 170141183460469231731687303715884105728
    · have hi : isI (wVal a b) := by unfold isI; omega
      refine condT h (condT ⟨ha, hb⟩ ?_)
      rw [clip_in hi, errV_in hi, show (wVal a b + 170141183460469231731687303715884105728) % 340282366920938463463374607431768211456 - 170141183460469231731687303715884105728 = wVal a b by omega]
    · have hi : ¬ isI (wVal a b) := by unfold isI; omega
      refine condF h ?_
      rw [clip_out hi, errV_out hi]; rfl
theorem wsgn_ok (a : Int) (b : Int) (m : Bool) (hp : isW a ∧ isW b) : FnOk cfg 237 ([agg [.c (.int .u64 a), .c (.int .u64 b)], vB m].map SV.den) (.tup [.agg [gI (wHi (clip (if m then - wVal a b else wVal a b))), gU (wLo (clip (if m then - wVal a b else wVal a b)))], tI (errV (if m then - wVal a b else wVal a b))] : SV).den := by
  obtain ⟨nn, h⟩ := wsgn_run a b m hp
  exact FnD.ok wsgn_g wsgn_f mixed Tryz.func237 rfl rfl rfl rfl rfl rfl h
noncomputable def c_wsgn : SpecF := fun args _ K => match args with
  | [.one (.agg [.c (.int .u64 a), .c (.int .u64 b)]), .one (.c (.bool m))] => bif decide (isW a ∧ isW b) then K (.tup [.agg [gI (wHi (clip (if m then - wVal a b else wVal a b))), gU (wLo (clip (if m then - wVal a b else wVal a b)))], tI (errV (if m then - wVal a b else wVal a b))]) [] else none
  | _ => none
theorem c_wsgn_ok : SpecOk cfg 237 c_wsgn := by
  intro args bx K out h
  unfold c_wsgn at h
  split at h
  · obtain ⟨hp, h⟩ := bif_some h
    exact ⟨_, _, h, .inl (wsgn_ok _ _ _ (of_decide_eq_true hp) _), by simp [isTupS]⟩
  · cases h
theorem absV_M {v : Int} (h : isI v) : isW (wHi (absV v)) ∧ isW (wLo (absV v)) := by
  unfold isI at h
  exact ⟨wHi_W (by unfold absV; split <;> omega), wLo_in _⟩
/-! ### wide.Neg -/
noncomputable def wdneg_e : Ev' := ⟨Tryz.prog, glob, Γof [(238, c_wsize), (237, c_wsgn)]⟩
theorem wdneg_g : Gd cfg wdneg_e := gd (env_cons c_wsize_ok (env_cons c_wsgn_ok (env_nil _)))
noncomputable def wdneg_f : FnD := ⟨206, Tryz.f206, noSh, Tryz.f206.resultTypes.toList, 0⟩
theorem wdneg_ent (h : Hd) (a : Int) (b : Int) : wdneg_f.ent wdneg_e [] h [agg [.c (.int .i64 a), .c (.int .u64 b)]] [] = let v1 : Int := if decide ((0 : Int) ≤ a) = true then -wVal (wHi (absV (wVal a b))) (wLo (absV (wVal a b))) else wVal (wHi (absV (wVal a b))) (wLo (absV (wVal a b))); let v2 : Int := clip v1; bif decide (isH a ∧ isW b) then bif decide (isW (wHi (absV (wVal a b))) ∧ isW (wLo (absV (wVal a b)))) then ret (SV.tup [S1.agg [gI (wHi v2), gU (wLo v2)], tI (errV v1)]) else none else none := by kernel_rfl
theorem wdneg_run (a : Int) (b : Int) (hp : isH a ∧ isW b) : ∃ fu, wdneg_f.run wdneg_e [] fu [agg [.c (.int .i64 a), .c (.int .u64 b)]] [] = some ⟨.tup [.agg [gI (wHi (clip (- wVal a b))), gU (wLo (clip (- wVal a b)))], tI (errV (- wVal a b))], []⟩ := by
  refine ⟨0, ?_⟩
  rw [FnD.run, wdneg_ent]
  obtain ⟨ha, hb⟩ := hp
  have hn := wVal_neg (a := a) hb
  simp only [wVal_mk]
  refine condT ⟨ha, hb⟩ (condT (absV_M (isI_val ha hb)) ?_)
  have e : (if decide (0 ≤ a) = true then - absV (wVal a b) else absV (wVal a b)) = - wVal a b := by
    unfold absV
    by_cases h : 0 ≤ a
    · rw [if_pos (decide_eq_true h), if_neg (by omega)]
    · rw [if_neg (by simpa using h), if_pos (by omega)]
  rw [e]
theorem wdneg_ok (a : Int) (b : Int) (hp : isH a ∧ isW b) : FnOk cfg 206 ([agg [.c (.int .i64 a), .c (.int .u64 b)]].map SV.den) (.tup [.agg [gI (wHi (clip (- wVal a b))), gU (wLo (clip (- wVal a b)))], tI (errV (- wVal a b))] : SV).den := by
  obtain ⟨nn, h⟩ := wdneg_run a b hp
  exact FnD.ok wdneg_g wdneg_f mixed Tryz.func206 rfl rfl rfl rfl rfl rfl h
noncomputable def c_wdneg : SpecF := fun args _ K => match args with
  | [.one (.agg [.c (.int .i64 a), .c (.int .u64 b)])] => bif decide (isH a ∧ isW b) then K (.tup [.agg [gI (wHi (clip (- wVal a b))), gU (wLo (clip (- wVal a b)))], tI (errV (- wVal a b))]) [] else none
  | _ => none
theorem c_wdneg_ok : SpecOk cfg 206 c_wdneg := by
  intro args bx K out h
  unfold c_wdneg at h
  split at h
  · obtain ⟨hp, h⟩ := bif_some h
    exact ⟨_, _, h, .inl (wdneg_ok _ _ (of_decide_eq_true hp) _), by simp [isTupS]⟩
  · cases h
/-! ### wide.Add -/
noncomputable def wdadd_e : Ev' := ⟨Tryz.prog, glob, Γof [(235, c_wbits), (234, c_ladd), (236, c_wfrom)]⟩
theorem wdadd_g : Gd cfg wdadd_e := gd (env_cons c_wbits_ok (env_cons c_ladd_ok (env_cons c_wfrom_ok (env_nil _))))
noncomputable def wdadd_f : FnD := ⟨205, Tryz.f205, noSh, Tryz.f205.resultTypes.toList, 0⟩
theorem wdadd_ent (h : Hd) (a : Int) (b : Int) (c : Int) (d : Int) : wdadd_f.ent wdadd_e [] h [agg [.c (.int .i64 a), .c (.int .u64 b)], agg [.c (.int .i64 c), .c (.int .u64 d)]] [] = let v1 : Int := (wVal (wHi (wVal a b % (340282366920938463463374607431768211456 : Int))) (wLo (wVal a b % (340282366920938463463374607431768211456 : Int))) + wVal (wHi (wVal c d % (340282366920938463463374607431768211456 : Int))) (wLo (wVal c d % (340282366920938463463374607431768211456 : Int)))) % (340282366920938463463374607431768211456 : Int); let v2 : Int := wHi v1; let v3 : Int := wLo v1; let v4 : Int := (wVal v2 v3 + (170141183460469231731687303715884105728 : Int)) % (340282366920938463463374607431768211456 : Int) - (170141183460469231731687303715884105728 : Int); let v5 : Int := wHi v4; let v6 : Int := shrI IntKind.i64 v5 (63 : Int); bif decide (isH a ∧ isW b) then bif decide (isH c ∧ isW d) then bif decide (isW (wHi (wVal a b % (340282366920938463463374607431768211456 : Int))) ∧ isW (wLo (wVal a b % (340282366920938463463374607431768211456 : Int))) ∧ isW (wHi (wVal c d % (340282366920938463463374607431768211456 : Int))) ∧ isW (wLo (wVal c d % (340282366920938463463374607431768211456 : Int)))) then bif decide (isW v2 ∧ isW v3) then bif decide (shrI IntKind.i64 a (63 : Int) = shrI IntKind.i64 c (63 : Int)) then bif !decide (v6 = shrI IntKind.i64 a (63 : Int)) then ret (SV.tup [S1.agg [gI (0 : Int), gU (0 : Int)], tI (2 : Int)]) else ret (SV.tup [S1.agg [gI v5, gU (wLo v4)], tI (0 : Int)]) else ret (SV.tup [S1.agg [gI v5, gU (wLo v4)], tI (0 : Int)]) else none else none else none else none := by kernel_rfl
theorem wdadd_run (a : Int) (b : Int) (c : Int) (d : Int) (hp : isH a ∧ isW b ∧ isH c ∧ isW d) : ∃ fu, wdadd_f.run wdadd_e [] fu [agg [.c (.int .i64 a), .c (.int .u64 b)], agg [.c (.int .i64 c), .c (.int .u64 d)]] [] = some ⟨.tup [.agg [gI (wHi (clip (wVal a b + wVal c d))), gU (wLo (clip (wVal a b + wVal c d)))], tI (errV (wVal a b + wVal c d))], []⟩ := by
  refine ⟨0, ?_⟩
  rw [FnD.run, wdadd_ent]
  have mW : ∀ x : Int, isW (wHi (x % 340282366920938463463374607431768211456)) ∧ isW (wLo (x % 340282366920938463463374607431768211456)) := fun x => ⟨wHi_W ⟨by omega, by omega⟩, wLo_in _⟩
  have z0 : isW 0 := ⟨by omega, by omega⟩
  obtain ⟨ha, hb, hc, hd⟩ := hp
  have h1 := isI_val ha hb
  have h2 := isI_val hc hd
  have n1 := wVal_neg (a := a) hb
  have n2 := wVal_neg (a := c) hd
  have ha' := ha
  have hc' := hc
  unfold isI at h1 h2
  unfold isH at ha' hc'
  simp only [wVal_mk, sar63]
  refine condT ⟨ha, hb⟩ (condT ⟨hc, hd⟩ (condT ⟨(mW _).1, (mW _).2, (mW _).1, (mW _).2⟩ (condT (mW _) ?_)))
  generalize wVal a b = u at *
  generalize wVal c d = v at *
  rw [show (u % 340282366920938463463374607431768211456 + v % 340282366920938463463374607431768211456) % 340282366920938463463374607431768211456 = (u + v) % 340282366920938463463374607431768211456 by omega, show ((u + v) % 340282366920938463463374607431768211456 + 170141183460469231731687303715884105728) % 340282366920938463463374607431768211456 - 170141183460469231731687303715884105728 = ((u + v) + 170141183460469231731687303715884105728) % 340282366920938463463374607431768211456 - 170141183460469231731687303715884105728 by omega]
  generalize hs : ((u + v) + 170141183460469231731687303715884105728) % 340282366920938463463374607431768211456 - 170141183460469231731687303715884105728 = s
  have hs1 : wHi s / 9223372036854775808 = if s < 0 then -1 else 0 := by unfold wHi; split <;> omega
  have ha1 : a / 9223372036854775808 = if u < 0 then -1 else 0 := by split <;> omega
  have hc1 : c / 9223372036854775808 = if v < 0 then -1 else 0 := by split <;> omega
  rw [hs1, ha1, hc1]
  by_cases hi : isI (u + v)
  · have e : s = u + v := by unfold isI at hi; omega
    rw [clip_in hi, errV_in hi, ← e]
    unfold isI at hi
    by_cases q1 : u < 0 <;> by_cases q2 : v < 0 <;> by_cases q3 : s < 0 <;> simp [q1, q2, q3] <;> omega
  · rw [clip_out hi, errV_out hi]
    unfold isI at hi
    by_cases q1 : u < 0 <;> by_cases q2 : v < 0 <;> by_cases q3 : s < 0 <;> first | (exfalso; omega) | (simp [q1, q2, q3, wH0, wL0])
theorem wdadd_ok (a : Int) (b : Int) (c : Int) (d : Int) (hp : isH a ∧ isW b ∧ isH c ∧ isW d) : FnOk cfg 205 ([agg [.c (.int .i64 a), .c (.int .u64 b)], agg [.c (.int .i64 c), .c (.int .u64 d)]].map SV.den) (.tup [.agg [gI (wHi (clip (wVal a b + wVal c d))), gU (wLo (clip (wVal a b + wVal c d)))], tI (errV (wVal a b + wVal c d))] : SV).den := by
  obtain ⟨nn, h⟩ := wdadd_run a b c d hp
  exact FnD.ok wdadd_g wdadd_f mixed Tryz.func205 rfl rfl rfl rfl rfl rfl h
noncomputable def c_wdadd : SpecF := fun args _ K => match args with
  | [.one (.agg [.c (.int .i64 a), .c (.int .u64 b)]), .one (.agg [.c (.int .i64 c), .c (.int .u64 d)])] => bif decide (isH a ∧ isW b ∧ isH c ∧ isW d) then K (.tup [.agg [gI (wHi (clip (wVal a b + wVal c d))), gU (wLo (clip (wVal a b + wVal c d)))], tI (errV (wVal a b + wVal c d))]) [] else none
  | _ => none
theorem c_wdadd_ok : SpecOk cfg 205 c_wdadd := by
  intro args bx K out h
  unfold c_wdadd at h
  split at h
  · obtain ⟨hp, h⟩ := bif_some h
    exact ⟨_, _, h, .inl (wdadd_ok _ _ _ _ (of_decide_eq_true hp) _), by simp [isTupS]⟩
  · cases h
/-! ### wide.Sub -/
noncomputable def wdsub_e : Ev' := ⟨Tryz.prog, glob, Γof [(235, c_wbits), (255, c_lsub), (236, c_wfrom)]⟩
theorem wdsub_g : Gd cfg wdsub_e := gd (env_cons c_wbits_ok (env_cons c_lsub_ok (env_cons c_wfrom_ok (env_nil _))))
noncomputable def wdsub_f : FnD := ⟨254, Tryz.f254, noSh, Tryz.f254.resultTypes.toList, 0⟩
theorem wdsub_ent (h : Hd) (a : Int) (b : Int) (c : Int) (d : Int) : wdsub_f.ent wdsub_e [] h [agg [.c (.int .i64 a), .c (.int .u64 b)], agg [.c (.int .i64 c), .c (.int .u64 d)]] [] = let v1 : Int := (wVal (wHi (wVal a b % (340282366920938463463374607431768211456 : Int))) (wLo (wVal a b % (340282366920938463463374607431768211456 : Int))) - wVal (wHi (wVal c d % (340282366920938463463374607431768211456 : Int))) (wLo (wVal c d % (340282366920938463463374607431768211456 : Int)))) % (340282366920938463463374607431768211456 : Int); let v2 : Int := wHi v1; let v3 : Int := wLo v1; let v4 : Int := (wVal v2 v3 + (170141183460469231731687303715884105728 : Int)) % (340282366920938463463374607431768211456 : Int) - (170141183460469231731687303715884105728 : Int); let v5 : Int := wHi v4; let v6 : Int := shrI IntKind.i64 v5 (63 : Int); bif decide (isH a ∧ isW b) then bif decide (isH c ∧ isW d) then bif decide (isW (wHi (wVal a b % (340282366920938463463374607431768211456 : Int))) ∧ isW (wLo (wVal a b % (340282366920938463463374607431768211456 : Int))) ∧ isW (wHi (wVal c d % (340282366920938463463374607431768211456 : Int))) ∧ isW (wLo (wVal c d % (340282366920938463463374607431768211456 : Int)))) then bif decide (isW v2 ∧ isW v3) then bif !decide (shrI IntKind.i64 a (63 : Int) = shrI IntKind.i64 c (63 : Int)) then bif !decide (v6 = shrI IntKind.i64 a (63 : Int)) then ret (SV.tup [S1.agg [gI (0 : Int), gU (0 : Int)], tI (2 : Int)]) else ret (SV.tup [S1.agg [gI v5, gU (wLo v4)], tI (0 : Int)]) else ret (SV.tup [S1.agg [gI v5, gU (wLo v4)], tI (0 : Int)]) else none else none else none else none := by kernel_rfl
theorem wdsub_run (a : Int) (b : Int) (c : Int) (d : Int) (hp : isH a ∧ isW b ∧ isH c ∧ isW d) : ∃ fu, wdsub_f.run wdsub_e [] fu [agg [.c (.int .i64 a), .c (.int .u64 b)], agg [.c (.int .i64 c), .c (.int .u64 d)]] [] = some ⟨.tup [.agg [gI (wHi (clip (wVal a b - wVal c d))), gU (wLo (clip (wVal a b - wVal c d)))], tI (errV (wVal a b - wVal c d))], []⟩ := by
  refine ⟨0, ?_⟩
  rw [FnD.run, wdsub_ent]
  have mW : ∀ x : Int, isW (wHi (x % 340282366920938463463374607431768211456)) ∧ isW (wLo (x % 340282366920938463463374607431768211456)) := fun x => ⟨wHi_W ⟨by omega, by omega⟩, wLo_in _⟩
  have z0 : isW 0 := ⟨by omega, by omega⟩
  obtain ⟨ha, hb, hc, hd⟩ := hp
  have h1 := isI_val ha hb
  have h2 := isI_val hc hd
  have n1 := wVal_neg (a := a) hb
  have n2 := wVal_neg (a := c) hd
  have ha' := ha
  have hc' := hc
  unfold isI at h1 h2
  unfold isH at ha' hc'
  simp only [wVal_mk, sar63]
  refine condT ⟨ha, hb⟩ (condT ⟨hc, hd⟩ (condT ⟨(mW _).1, (mW _).2, (mW _).1, (mW _).2⟩ (condT (mW _) ?_)))
  generalize wVal a b = u at *
  generalize wVal c d = v at *
  rw [show (u % 340282366920938463463374607431768211456 - v % 340282366920938463463374607431768211456) % 340282366920938463463374607431768211456 = (u - v) % 340282366920938463463374607431768211456 by omega, show ((u - v) % 340282366920938463463374607431768211456 + 170141183460469231731687303715884105728) % 340282366920938463463374607431768211456 - 170141183460469231731687303715884105728 = ((u - v) + 170141183460469231731687303715884105728) % 340282366920938463463374607431768211456 - 170141183460469231731687303715884105728 by omega]
  generalize hs : ((u - v) + 170141183460469231731687303715884105728) % 340282366920938463463374607431768211456 - 170141183460469231731687303715884105728 = s
  have hs1 : wHi s / 9223372036854775808 = if s < 0 then -1 else 0 := by unfold wHi; split <;> omega
  have ha1 : a / 9223372036854775808 = if u < 0 then -1 else 0 := by split <;> omega
  have hc1 : c / 9223372036854775808 = if v < 0 then -1 else 0 := by split <;> omega
  rw [hs1, ha1, hc1]
  by_cases hi : isI (u - v)
  · have e : s = u - v := by unfold isI at hi; omega
    rw [clip_in hi, errV_in hi, ← e]
    unfold isI at hi
    by_cases q1 : u < 0 <;> by_cases q2 : v < 0 <;> by_cases q3 : s < 0 <;> simp [q1, q2, q3] <;> omega
  · rw [clip_out hi, errV_out hi]
    unfold isI at hi
    by_cases q1 : u < 0 <;> by_cases q2 : v < 0 <;> by_cases q3 : s < 0 <;> first | (exfalso; omega) | (simp [q1, q2, q3, wH0, wL0])
theorem wdsub_ok (a : Int) (b : Int) (c : Int) (d : Int) (hp : isH a ∧ isW b ∧ isH c ∧ isW d) : FnOk cfg 254 ([agg [.c (.int .i64 a), .c (.int .u64 b)], agg [.c (.int .i64 c), .c (.int .u64 d)]].map SV.den) (.tup [.agg [gI (wHi (clip (wVal a b - wVal c d))), gU (wLo (clip (wVal a b - wVal c d)))], tI (errV (wVal a b - wVal c d))] : SV).den := by
  obtain ⟨nn, h⟩ := wdsub_run a b c d hp
  exact FnD.ok wdsub_g wdsub_f mixed Tryz.func254 rfl rfl rfl rfl rfl rfl h
noncomputable def c_wdsub : SpecF := fun args _ K => match args with
  | [.one (.agg [.c (.int .i64 a), .c (.int .u64 b)]), .one (.agg [.c (.int .i64 c), .c (.int .u64 d)])] => bif decide (isH a ∧ isW b ∧ isH c ∧ isW d) then K (.tup [.agg [gI (wHi (clip (wVal a b - wVal c d))), gU (wLo (clip (wVal a b - wVal c d)))], tI (errV (wVal a b - wVal c d))]) [] else none
  | _ => none
theorem c_wdsub_ok : SpecOk cfg 254 c_wdsub := by
  intro args bx K out h
  unfold c_wdsub at h
  split at h
  · obtain ⟨hp, h⟩ := bif_some h
    exact ⟨_, _, h, .inl (wdsub_ok _ _ _ _ (of_decide_eq_true hp) _), by simp [isTupS]⟩
  · cases h
/-! ### wide.Mul -/
noncomputable def wdmul_e : Ev' := ⟨Tryz.prog, glob, Γof [(238, c_wsize), (243, c_lmul), (237, c_wsgn)]⟩
theorem wdmul_g : Gd cfg wdmul_e := gd (env_cons c_wsize_ok (env_cons c_lmul_ok (env_cons c_wsgn_ok (env_nil _))))
noncomputable def wdmul_f : FnD := ⟨214, Tryz.f214, noSh, Tryz.f214.resultTypes.toList, 0⟩
theorem wdmul_ent (h : Hd) (a : Int) (b : Int) (c : Int) (d : Int) : wdmul_f.ent wdmul_e [] h [agg [.c (.int .i64 a), .c (.int .u64 b)], agg [.c (.int .i64 c), .c (.int .u64 d)]] [] = let v1 : Int := wVal (wHi (absV (wVal a b))) (wLo (absV (wVal a b))) * wVal (wHi (absV (wVal c d))) (wLo (absV (wVal c d))); let v2 : Int := v1 / (340282366920938463463374607431768211456 : Int); let v3 : Int := wHi v2; let v4 : Int := wLo v2; let v5 : Int := v1 % (340282366920938463463374607431768211456 : Int); let v6 : Int := wHi v5; let v7 : Int := wLo v5; let v8 : Int := wVal v6 v7; let v9 : Int := if (decide (a < (0 : Int)) != decide (c < (0 : Int))) = true then -v8 else v8; let v10 : Int := clip v9; bif decide (isH a ∧ isW b) then bif decide (isH c ∧ isW d) then bif decide (isW (wHi (absV (wVal a b))) ∧ isW (wLo (absV (wVal a b))) ∧ isW (wHi (absV (wVal c d))) ∧ isW (wLo (absV (wVal c d)))) then bif !(decide (v3 = (0 : Int)) && (decide (v4 = (0 : Int)) && true)) then ret (SV.tup [S1.agg [gI (0 : Int), gU (0 : Int)], tI (2 : Int)]) else bif decide (isW v6 ∧ isW v7) then ret (SV.tup [S1.agg [gI (wHi v10), gU (wLo v10)], tI (errV v9)]) else none else none else none else none := by kernel_rfl
theorem wdmul_run (a : Int) (b : Int) (c : Int) (d : Int) (hp : isH a ∧ isW b ∧ isH c ∧ isW d) : ∃ fu, wdmul_f.run wdmul_e [] fu [agg [.c (.int .i64 a), .c (.int .u64 b)], agg [.c (.int .i64 c), .c (.int .u64 d)]] [] = some ⟨.tup [.agg [gI (wHi (clip (wVal a b * wVal c d))), gU (wLo (clip (wVal a b * wVal c d)))], tI (errV (wVal a b * wVal c d))], []⟩ := by
  refine ⟨0, ?_⟩
  rw [FnD.run, wdmul_ent]
  have mW : ∀ x : Int, isW (wHi (x % 340282366920938463463374607431768211456)) ∧ isW (wLo (x % 340282366920938463463374607431768211456)) := fun x => ⟨wHi_W ⟨by omega, by omega⟩, wLo_in _⟩
  have z0 : isW 0 := ⟨by omega, by omega⟩
  obtain ⟨ha, hb, hc, hd⟩ := hp
  have h1 := isI_val ha hb
  have h2 := isI_val hc hd
  have n1 := wVal_neg (a := a) hb
  have n2 := wVal_neg (a := c) hd
  simp only [wVal_mk]
  refine condT ⟨ha, hb⟩ (condT ⟨hc, hd⟩ (condT ⟨(absV_M h1).1, (absV_M h1).2, (absV_M h2).1, (absV_M h2).2⟩ ?_))
  generalize wVal a b = u at *
  generalize wVal c d = v at *
  rw [absV_mul]
  have e : ∀ x : Int, 0 ≤ x → x = absV (u * v) → (if (decide (a < 0) != decide (c < 0)) = true then - x else x) = u * v := by
    intro x hx he
    have s1 : u < 0 → v < 0 → 0 < u * v := Int.mul_pos_of_neg_of_neg
    have s2 : u < 0 → 0 ≤ v → u * v ≤ 0 := fun h h' => Int.mul_nonpos_of_nonpos_of_nonneg (by omega) h'
    have s3 : 0 ≤ u → v < 0 → u * v ≤ 0 := fun h h' => Int.mul_nonpos_of_nonneg_of_nonpos h (by omega)
    have s4 : 0 ≤ u → 0 ≤ v → 0 ≤ u * v := Int.mul_nonneg
    unfold absV at he
    generalize u * v = t at *
    by_cases q1 : a < 0 <;> by_cases q2 : c < 0 <;> simp [q1, q2] <;> split at he <;> omega
  have hnn : 0 ≤ absV (u * v) := by unfold absV; split <;> omega
  by_cases h0 : absV (u * v) / 340282366920938463463374607431768211456 = 0
  · rw [h0]
    have hm : absV (u * v) % 340282366920938463463374607431768211456 = absV (u * v) := Int.emod_eq_of_lt hnn (by omega)
    rw [hm, e _ hnn rfl]
    refine condN rfl (condT ?_ rfl)
    rw [← hm]; exact mW _
  · refine condB ?_ ?_
    · have : ¬ (wHi (absV (u * v) / 340282366920938463463374607431768211456) = 0 ∧ wLo (absV (u * v) / 340282366920938463463374607431768211456) = 0) := by unfold wHi wLo; omega
      rw [Bool.not_eq_true', Bool.and_eq_false_iff, decide_eq_false_iff_not, Bool.and_true, decide_eq_false_iff_not]
      omega
    · have hi : ¬ isI (u * v) := by unfold isI; unfold absV at h0; split at h0 <;> omega
      rw [clip_out hi, errV_out hi]; rfl
theorem wdmul_ok (a : Int) (b : Int) (c : Int) (d : Int) (hp : isH a ∧ isW b ∧ isH c ∧ isW d) : FnOk cfg 214 ([agg [.c (.int .i64 a), .c (.int .u64 b)], agg [.c (.int .i64 c), .c (.int .u64 d)]].map SV.den) (.tup [.agg [gI (wHi (clip (wVal a b * wVal c d))), gU (wLo (clip (wVal a b * wVal c d)))], tI (errV (wVal a b * wVal c d))] : SV).den := by
  obtain ⟨nn, h⟩ := wdmul_run a b c d hp
  exact FnD.ok wdmul_g wdmul_f mixed Tryz.func214 rfl rfl rfl rfl rfl rfl h
noncomputable def c_wdmul : SpecF := fun args _ K => match args with
  | [.one (.agg [.c (.int .i64 a), .c (.int .u64 b)]), .one (.agg [.c (.int .i64 c), .c (.int .u64 d)])] => bif decide (isH a ∧ isW b ∧ isH c ∧ isW d) then K (.tup [.agg [gI (wHi (clip (wVal a b * wVal c d))), gU (wLo (clip (wVal a b * wVal c d)))], tI (errV (wVal a b * wVal c d))]) [] else none
  | _ => none
theorem c_wdmul_ok : SpecOk cfg 214 c_wdmul := by
  intro args bx K out h
  unfold c_wdmul at h
  split at h
  · obtain ⟨hp, h⟩ := bif_some h
    exact ⟨_, _, h, .inl (wdmul_ok _ _ _ _ (of_decide_eq_true hp) _), by simp [isTupS]⟩
  · cases h
/-! ### wide.above -/
noncomputable def wabove_e : Ev' := ⟨Tryz.prog, glob, Γof [(262, c_wcmp)]⟩
theorem wabove_g : Gd cfg wabove_e := gd (env_cons c_wcmp_ok (env_nil _))
noncomputable def wabove_f : FnD := ⟨251, Tryz.f251, noSh, Tryz.f251.resultTypes.toList, 0⟩
theorem wabove_ent (h : Hd) (a : Int) (b : Int) : wabove_f.ent wabove_e [] h [agg [.c (.int .i64 a), .c (.int .u64 b)]] [] = bif decide (isH a ∧ isW b ∧ isH (0 : Int) ∧ isW (0 : Int)) then ret (vB (decide ((0 : Int) < cmpV (wVal a b) (wVal (0 : Int) (0 : Int))))) else none := by kernel_rfl
theorem wabove_run (a : Int) (b : Int) (hp : isH a ∧ isW b) : ∃ fu, wabove_f.run wabove_e [] fu [agg [.c (.int .i64 a), .c (.int .u64 b)]] [] = some ⟨vB (decide (0 < wVal a b)), []⟩ := by
  refine ⟨0, ?_⟩
  rw [FnD.run, wabove_ent]
  refine condT ⟨hp.1, hp.2, ⟨by omega, by omega⟩, ⟨by omega, by omega⟩⟩ ?_
  rw [show wVal 0 0 = 0 from rfl]
  simp only [cmpV_gt]
theorem wabove_ok (a : Int) (b : Int) (hp : isH a ∧ isW b) : FnOk cfg 251 ([agg [.c (.int .i64 a), .c (.int .u64 b)]].map SV.den) (vB (decide (0 < wVal a b)) : SV).den := by
  obtain ⟨nn, h⟩ := wabove_run a b hp
  exact FnD.ok wabove_g wabove_f mixed Tryz.func251 rfl rfl rfl rfl rfl rfl h
noncomputable def c_wabove : SpecF := fun args _ K => match args with
  | [.one (.agg [.c (.int .i64 a), .c (.int .u64 b)])] => bif decide (isH a ∧ isW b) then K (vB (decide (0 < wVal a b))) [] else none
  | _ => none
theorem c_wabove_ok : SpecOk cfg 251 c_wabove := by
  intro args bx K out h
  unfold c_wabove at h
  split at h
  · obtain ⟨hp, h⟩ := bif_some h
    exact ⟨_, _, h, .inl (wabove_ok _ _ (of_decide_eq_true hp) _), by simp [isTupS]⟩
  · cases h
/-! ### wide.least -/
noncomputable def wleast_e : Ev' := ⟨Tryz.prog, glob, Γof []⟩
theorem wleast_g : Gd cfg wleast_e := gd (env_nil _)
noncomputable def wleast_f : FnD := ⟨253, Tryz.f253, noSh, Tryz.f253.resultTypes.toList, 0⟩
theorem wleast_ent (h : Hd) (a : Int) (b : Int) : wleast_f.ent wleast_e [] h [agg [.c (.int .i64 a), .c (.int .u64 b)]] [] = ret (vB (decide (a = (-9223372036854775808 : Int)) && (decide (b = (0 : Int)) && true))) := by kernel_rfl
theorem wleast_run (a : Int) (b : Int) (hp : isH a ∧ isW b) : ∃ fu, wleast_f.run wleast_e [] fu [agg [.c (.int .i64 a), .c (.int .u64 b)]] [] = some ⟨vB (decide (wVal a b = -170141183460469231731687303715884105728)), []⟩ := by
  refine ⟨0, ?_⟩
  rw [FnD.run, wleast_ent]
  have e : (decide (a = -9223372036854775808) && (decide (b = 0) && true)) = decide (wVal a b = -170141183460469231731687303715884105728) := by
    obtain ⟨ha, hb⟩ := hp
    unfold isH at ha; unfold isW at hb; unfold wVal
    rw [Bool.eq_iff_iff]
    simp only [Bool.and_true, Bool.and_eq_true, decide_eq_true_eq]
    omega
  rw [e]
theorem wleast_ok (a : Int) (b : Int) (hp : isH a ∧ isW b) : FnOk cfg 253 ([agg [.c (.int .i64 a), .c (.int .u64 b)]].map SV.den) (vB (decide (wVal a b = -170141183460469231731687303715884105728)) : SV).den := by
  obtain ⟨nn, h⟩ := wleast_run a b hp
  exact FnD.ok wleast_g wleast_f mixed Tryz.func253 rfl rfl rfl rfl rfl rfl h
noncomputable def c_wleast : SpecF := fun args _ K => match args with
  | [.one (.agg [.c (.int .i64 a), .c (.int .u64 b)])] => bif decide (isH a ∧ isW b) then K (vB (decide (wVal a b = -170141183460469231731687303715884105728))) [] else none
  | _ => none
theorem c_wleast_ok : SpecOk cfg 253 c_wleast := by
  intro args bx K out h
  unfold c_wleast at h
  split at h
  · obtain ⟨hp, h⟩ := bif_some h
    exact ⟨_, _, h, .inl (wleast_ok _ _ (of_decide_eq_true hp) _), by simp [isTupS]⟩
  · cases h
/-! ### wide.MulDiv -/
noncomputable def wmuldiv_e : Ev' := ⟨Tryz.prog, glob, Γof [(251, c_wabove), (238, c_wsize), (243, c_lmul), (235, c_wbits), (252, c_ldiv), (237, c_wsgn), (236, c_wfrom), (253, c_wleast), (85, c_wof), (254, c_wdsub), (255, c_lsub)]⟩
theorem wmuldiv_g : Gd cfg wmuldiv_e := gd (env_cons c_wabove_ok (env_cons c_wsize_ok (env_cons c_lmul_ok (env_cons c_wbits_ok (env_cons c_ldiv_ok (env_cons c_wsgn_ok (env_cons c_wfrom_ok (env_cons c_wleast_ok (env_cons c_wof_ok (env_cons c_wdsub_ok (env_cons c_lsub_ok (env_nil _))))))))))))
noncomputable def wmuldiv_f : FnD := ⟨233, Tryz.f233, noSh, Tryz.f233.resultTypes.toList, 0⟩
theorem wmuldiv_ent (h : Hd) (a : Int) (b : Int) (c : Int) (d : Int) (e : Int) (f : Int) : wmuldiv_f.ent wmuldiv_e [] h [agg [.c (.int .i64 a), .c (.int .u64 b)], agg [.c (.int .i64 c), .c (.int .u64 d)], agg [.c (.int .i64 e), .c (.int .u64 f)]] [] = let v1 : Int := wVal (wHi (absV (wVal a b))) (wLo (absV (wVal a b))) * wVal (wHi (absV (wVal c d))) (wLo (absV (wVal c d))); let v2 : Int := v1 / (340282366920938463463374607431768211456 : Int); let v3 : Int := wHi v2; let v4 : Int := wLo v2; let v5 : Int := v1 % (340282366920938463463374607431768211456 : Int); let v6 : Int := wHi v5; let v7 : Int := wLo v5; let v8 : Int := wVal v3 v4; let v9 : Int := wVal (wHi (wVal e f % (340282366920938463463374607431768211456 : Int))) (wLo (wVal e f % (340282366920938463463374607431768211456 : Int))); let v10 : Int := v8 * (340282366920938463463374607431768211456 : Int) + wVal v6 v7; let v11 : Int := if v8 < v9 then v10 / v9 else (0 : Int); let v12 : Int := wHi v11; let v13 : Int := wLo v11; let v14 : Int := wVal v12 v13; let v15 : Int := if (decide (a < (0 : Int)) != decide (c < (0 : Int))) = true then -v14 else v14; let v16 : Int := errV v15; let v17 : Int := clip v15; let v18 : Int := wHi v17; let v19 : Int := wLo v17; let v20 : Int := if v8 < v9 then v10 % v9 else (0 : Int); let v21 : Int := wHi v20; let v22 : Int := wLo v20; let v23 : Int := wVal v21 v22; let v24 : Int := (v23 + (170141183460469231731687303715884105728 : Int)) % (340282366920938463463374607431768211456 : Int) - (170141183460469231731687303715884105728 : Int); let v25 : Int := wHi v24; let v26 : Int := wVal v18 v19; let v27 : Int := (v9 - v23) % (340282366920938463463374607431768211456 : Int); let v28 : Int := wHi v27; let v29 : Int := wLo v27; let v30 : Int := clip (v26 - wVal (wHi (1 : Int)) (wLo (1 : Int))); let v31 : Int := (wVal v28 v29 + (170141183460469231731687303715884105728 : Int)) % (340282366920938463463374607431768211456 : Int) - (170141183460469231731687303715884105728 : Int); bif decide (isH e ∧ isW f) then bif !decide ((0 : Int) < wVal e f) then ret (SV.tup [S1.agg [gI (0 : Int), gU (0 : Int)], S1.agg [gI (0 : Int), gU (0 : Int)], tI (3 : Int)]) else bif decide (isH a ∧ isW b) then bif decide (isH c ∧ isW d) then bif decide (isW (wHi (absV (wVal a b))) ∧ isW (wLo (absV (wVal a b))) ∧ isW (wHi (absV (wVal c d))) ∧ isW (wLo (absV (wVal c d)))) then bif decide (isH e ∧ isW f) then bif decide (isW v3 ∧ isW v4 ∧ isW v6 ∧ isW v7 ∧ isW (wHi (wVal e f % (340282366920938463463374607431768211456 : Int))) ∧ isW (wLo (wVal e f % (340282366920938463463374607431768211456 : Int)))) then bif !decide (v8 < v9) then ret (SV.tup [S1.agg [gI (0 : Int), gU (0 : Int)], S1.agg [gI (0 : Int), gU (0 : Int)], tI (2 : Int)]) else bif decide (isW v12 ∧ isW v13) then bif !decide (v16 = (0 : Int)) then ret (SV.tup [S1.agg [gI v18, gU v19], S1.agg [gI (0 : Int), gU (0 : Int)], tI v16]) else bif !decide (a < (0 : Int)) != decide (c < (0 : Int)) then bif decide (isW v21 ∧ isW v22) then ret (SV.tup [S1.agg [gI v18, gU v19], S1.agg [gI v25, gU (wLo v24)], tI (0 : Int)]) else none else bif decide (v21 = (0 : Int)) && (decide (v22 = (0 : Int)) && true) then bif decide (isW v21 ∧ isW v22) then ret (SV.tup [S1.agg [gI v18, gU v19], S1.agg [gI v25, gU (wLo v24)], tI (0 : Int)]) else none else bif decide (isH v18 ∧ isW v19) then bif decide (v26 = (-170141183460469231731687303715884105728 : Int)) then ret (SV.tup [S1.agg [gI (0 : Int), gU (0 : Int)], S1.agg [gI (0 : Int), gU (0 : Int)], tI (2 : Int)]) else bif decide (isH v18 ∧ isW v19 ∧ isH (wHi (1 : Int)) ∧ isW (wLo (1 : Int))) then bif decide (isH e ∧ isW f) then bif decide (isW (wHi (wVal e f % (340282366920938463463374607431768211456 : Int))) ∧ isW (wLo (wVal e f % (340282366920938463463374607431768211456 : Int))) ∧ isW v21 ∧ isW v22) then bif decide (isW v28 ∧ isW v29) then ret (SV.tup [S1.agg [gI (wHi v30), gU (wLo v30)], S1.agg [gI (wHi v31), gU (wLo v31)], tI (0 : Int)]) else none else none else none else none else none else none else none else none else none else none else none else none := by kernel_rfl

theorem out3 {q r s q' r' s' : Int} (h1 : q = q') (h2 : r = r') (h3 : s = s') : (ret (.tup [.agg [gI (wHi (q)), gU (wLo (q))], .agg [gI (wHi (r)), gU (wLo (r))], tI s])) = some ⟨.tup [.agg [gI (wHi (q')), gU (wLo (q'))], .agg [gI (wHi (r')), gU (wLo (r'))], tI s'], []⟩ := by rw [h1, h2, h3]
theorem out0 {q r s s0 : Int} (h1 : q = 0) (h2 : r = 0) (h3 : s = s0) : (ret (.tup [.agg [gI 0, gU 0], .agg [gI 0, gU 0], tI s0])) = some ⟨.tup [.agg [gI (wHi (q)), gU (wLo (q))], .agg [gI (wHi (r)), gU (wLo (r))], tI s], []⟩ := by rw [h1, h2, h3]; rfl
theorem out1 {q q' r s s0 : Int} (h1 : q = q') (h2 : r = 0) (h3 : s = s0) : (ret (.tup [.agg [gI (wHi (q')), gU (wLo (q'))], .agg [gI 0, gU 0], tI s0])) = some ⟨.tup [.agg [gI (wHi (q)), gU (wLo (q))], .agg [gI (wHi (r)), gU (wLo (r))], tI s], []⟩ := by rw [h1, h2, h3]; rfl
theorem wmuldiv_run (a : Int) (b : Int) (c : Int) (d : Int) (e : Int) (f : Int) (hp : isH a ∧ isW b ∧ isH c ∧ isW d ∧ isH e ∧ isW f) : ∃ fu, wmuldiv_f.run wmuldiv_e [] fu [agg [.c (.int .i64 a), .c (.int .u64 b)], agg [.c (.int .i64 c), .c (.int .u64 d)], agg [.c (.int .i64 e), .c (.int .u64 f)]] [] = some ⟨.tup [.agg [gI (wHi (qV (wVal a b * wVal c d) (wVal e f))), gU (wLo (qV (wVal a b * wVal c d) (wVal e f)))], .agg [gI (wHi (rV (wVal a b * wVal c d) (wVal e f))), gU (wLo (rV (wVal a b * wVal c d) (wVal e f)))], tI (eV (wVal a b * wVal c d) (wVal e f))], []⟩ := by
  refine ⟨0, ?_⟩
  rw [FnD.run, wmuldiv_ent]
  have mW : ∀ x : Int, isW (wHi (x % 340282366920938463463374607431768211456)) ∧ isW (wLo (x % 340282366920938463463374607431768211456)) := fun x => ⟨wHi_W ⟨by omega, by omega⟩, wLo_in _⟩
  have z0 : isW 0 := ⟨by omega, by omega⟩
  obtain ⟨ha, hb, hc, hd, he, hf⟩ := hp
  have h1 := isI_val ha hb
  have h2 := isI_val hc hd
  have h3 := isI_val he hf
  have n1 := wVal_neg (a := a) hb
  have n2 := wVal_neg (a := c) hd
  simp only [wVal_mk]
  generalize wVal a b = u at *
  generalize wVal c d = v at *
  generalize wVal e f = D at *
  refine condT ⟨he, hf⟩ ?_
  by_cases hD : 0 < D
  · refine condN (by rw [decide_eq_true hD]; rfl) (condT ⟨ha, hb⟩ (condT ⟨hc, hd⟩ (condT ⟨(absV_M h1).1, (absV_M h1).2, (absV_M h2).1, (absV_M h2).2⟩ (condT ⟨he, hf⟩ ?_))))
    unfold isI at h3
    rw [absV_mul, show D % 340282366920938463463374607431768211456 = D by omega]
    obtain ⟨x0, x1⟩ := absV_big h1 h2
    have hs := sign_mul n1 n2
    generalize u * v = P at *
    generalize hm : (decide (a < 0) != decide (c < 0)) = m at *
    generalize hX : absV P = X at *
    refine condT ⟨wHi_W ⟨by omega, by omega⟩, wLo_in _, (mW _).1, (mW _).2, wHi_W ⟨by omega, by omega⟩, wLo_in _⟩ ?_
    rw [show X / 340282366920938463463374607431768211456 * 340282366920938463463374607431768211456 + X % 340282366920938463463374607431768211456 = X by omega]
    have eX := Int.mul_ediv_add_emod X D
    have r0 := Int.emod_nonneg X (b := D) (by omega)
    have r1 := Int.emod_lt_of_pos X hD
    have q0 : 0 ≤ X / D := Int.ediv_nonneg x0 (by omega)
    rw [Int.mul_comm] at eX
    by_cases h8 : X / 340282366920938463463374607431768211456 < D
    · refine condN (by rw [decide_eq_true h8]; rfl) ?_
      rw [if_pos h8, if_pos h8]
      have qM : X / D < 340282366920938463463374607431768211456 := Int.ediv_lt_of_lt_mul hD (by rw [Int.mul_comm]; omega)
      generalize X / D = q at *
      generalize X % D = r at *
      refine condT ⟨wHi_W ⟨q0, qM⟩, wLo_in _⟩ ?_
      have hr : isW (wHi r) ∧ isW (wLo r) := ⟨wHi_W ⟨r0, by omega⟩, wLo_in _⟩
      have er : (r + 170141183460469231731687303715884105728) % 340282366920938463463374607431768211456 - 170141183460469231731687303715884105728 = r := by omega
      rcases hs with ⟨rfl, p0, p1⟩ | ⟨rfl, p0, p1⟩
      · simp only [if_true, Bool.not_true, cond_false]
        have key : r ≠ 0 → (-q - 1) * D + (D - r) = P := fun _ => by rw [Int.sub_mul, Int.neg_mul]; omega
        have key0 : r = 0 → (-q) * D + 0 = P := fun _ => by rw [Int.neg_mul]; omega
        by_cases hi : isI (-q)
        · rw [errV_in hi, clip_in hi]
          refine condN rfl ?_
          by_cases hr0 : r = 0
          · obtain ⟨g1, g2, g3⟩ := divV_ok hD (key0 hr0) (by omega) hD hi
            subst hr0
            refine condB rfl (condT hr ?_)
            exact out3 g1.symm (by rw [g2]; rfl) g3.symm
          · refine condN ?_ (condT ⟨wHi_H hi, wLo_in _⟩ ?_)
            · have : ¬ (wHi r = 0 ∧ wLo r = 0) := by unfold wHi wLo; omega
              rw [Bool.and_eq_false_iff, decide_eq_false_iff_not, Bool.and_true, decide_eq_false_iff_not]
              omega
            · by_cases hl : -q = -170141183460469231731687303715884105728
              · obtain ⟨g1, g2, g3⟩ := divV_no hD (key hr0) (by omega) (by omega) (by unfold isI; omega)
                exact condT hl (out0 g1 g2 g3)
              · have hi2 : isI (-q - 1) := by unfold isI at hi ⊢; omega
                obtain ⟨g1, g2, g3⟩ := divV_ok hD (key hr0) (by omega) (by omega) hi2
                refine condF hl (condT ⟨wHi_H hi, wLo_in _, by decide, by decide⟩ (condT ⟨he, hf⟩ (condT ⟨wHi_W ⟨by omega, by omega⟩, wLo_in _, hr⟩ (condT (mW _) ?_))))
                exact out3 (by rw [g1, clip_in hi2]) (by rw [g2]; omega) g3.symm
        · rw [errV_out hi, clip_out hi]
          refine condB rfl ?_
          have : qV P D = 0 ∧ rV P D = 0 ∧ eV P D = 2 := by
            by_cases hr0 : r = 0
            · exact divV_no hD (key0 hr0) (by omega) hD hi
            · exact divV_no hD (key hr0) (by omega) (by omega) (by unfold isI at hi ⊢; omega)
          obtain ⟨g1, g2, g3⟩ := this
          exact out1 g1 g2 g3
      · simp only [Bool.false_eq_true, if_false, Bool.not_false, cond_true]
        have key : q * D + r = P := by omega
        by_cases hi : isI q
        · obtain ⟨g1, g2, g3⟩ := divV_ok hD key r0 r1 hi
          rw [errV_in hi, clip_in hi]
          refine condN rfl (condT hr ?_)
          exact out3 g1.symm (by rw [er, g2]) g3.symm
        · obtain ⟨g1, g2, g3⟩ := divV_no hD key r0 r1 hi
          rw [errV_out hi, clip_out hi]
          exact condB rfl (out1 g1 g2 g3)
    · refine condB (by rw [decide_eq_false h8]; rfl) ?_
      have qM : 340282366920938463463374607431768211456 ≤ X / D := Int.le_ediv_of_mul_le hD (by rw [Int.mul_comm]; omega)
      have : qV P D = 0 ∧ rV P D = 0 ∧ eV P D = 2 := by
        generalize X / D = q at *
        generalize X % D = r at *
        rcases hs with ⟨_, p0, p1⟩ | ⟨_, p0, p1⟩
        · by_cases hr0 : r = 0
          · exact divV_no (Q := -q) (R := 0) hD (by rw [Int.neg_mul]; omega) (by omega) hD (by unfold isI; omega)
          · exact divV_no (Q := -q - 1) (R := D - r) hD (by rw [Int.sub_mul, Int.neg_mul]; omega) (by omega) (by omega) (by unfold isI; omega)
        · exact divV_no hD (show q * D + r = P by omega) r0 r1 (by unfold isI; omega)
      obtain ⟨g1, g2, g3⟩ := this
      exact out0 g1 g2 g3
  · refine condB (by rw [decide_eq_false hD]; rfl) ?_
    exact out0 (if_neg hD) (if_neg fun h => hD h.1) (if_neg hD)
theorem wmuldiv_ok (a : Int) (b : Int) (c : Int) (d : Int) (e : Int) (f : Int) (hp : isH a ∧ isW b ∧ isH c ∧ isW d ∧ isH e ∧ isW f) : FnOk cfg 233 ([agg [.c (.int .i64 a), .c (.int .u64 b)], agg [.c (.int .i64 c), .c (.int .u64 d)], agg [.c (.int .i64 e), .c (.int .u64 f)]].map SV.den) (.tup [.agg [gI (wHi (qV (wVal a b * wVal c d) (wVal e f))), gU (wLo (qV (wVal a b * wVal c d) (wVal e f)))], .agg [gI (wHi (rV (wVal a b * wVal c d) (wVal e f))), gU (wLo (rV (wVal a b * wVal c d) (wVal e f)))], tI (eV (wVal a b * wVal c d) (wVal e f))] : SV).den := by
  obtain ⟨nn, h⟩ := wmuldiv_run a b c d e f hp
  exact FnD.ok wmuldiv_g wmuldiv_f mixed Tryz.func233 rfl rfl rfl rfl rfl rfl h
noncomputable def c_wmuldiv : SpecF := fun args _ K => match args with
  | [.one (.agg [.c (.int .i64 a), .c (.int .u64 b)]), .one (.agg [.c (.int .i64 c), .c (.int .u64 d)]), .one (.agg [.c (.int .i64 e), .c (.int .u64 f)])] => bif decide (isH a ∧ isW b ∧ isH c ∧ isW d ∧ isH e ∧ isW f) then K (.tup [.agg [gI (wHi (qV (wVal a b * wVal c d) (wVal e f))), gU (wLo (qV (wVal a b * wVal c d) (wVal e f)))], .agg [gI (wHi (rV (wVal a b * wVal c d) (wVal e f))), gU (wLo (rV (wVal a b * wVal c d) (wVal e f)))], tI (eV (wVal a b * wVal c d) (wVal e f))]) [] else none
  | _ => none
theorem c_wmuldiv_ok : SpecOk cfg 233 c_wmuldiv := by
  intro args bx K out h
  unfold c_wmuldiv at h
  split at h
  · obtain ⟨hp, h⟩ := bif_some h
    exact ⟨_, _, h, .inl (wmuldiv_ok _ _ _ _ _ _ (of_decide_eq_true hp) _), by simp [isTupS]⟩
  · cases h
/-! ### wide.Div -/
noncomputable def wdiv_e : Ev' := ⟨Tryz.prog, glob, Γof [(85, c_wof), (233, c_wmuldiv)]⟩
theorem wdiv_g : Gd cfg wdiv_e := gd (env_cons c_wof_ok (env_cons c_wmuldiv_ok (env_nil _)))
noncomputable def wdiv_f : FnD := ⟨203, Tryz.f203, noSh, Tryz.f203.resultTypes.toList, 0⟩
theorem wdiv_ent (h : Hd) (a : Int) (b : Int) (c : Int) (d : Int) : wdiv_f.ent wdiv_e [] h [agg [.c (.int .i64 a), .c (.int .u64 b)], agg [.c (.int .i64 c), .c (.int .u64 d)]] [] = let v1 : Int := qV (wVal a b * wVal (wHi (1 : Int)) (wLo (1 : Int))) (wVal c d); let v2 : Int := rV (wVal a b * wVal (wHi (1 : Int)) (wLo (1 : Int))) (wVal c d); bif decide (isH a ∧ isW b ∧ isH (wHi (1 : Int)) ∧ isW (wLo (1 : Int)) ∧ isH c ∧ isW d) then ret (SV.tup [S1.agg [gI (wHi v1), gU (wLo v1)], S1.agg [gI (wHi v2), gU (wLo v2)], tI (eV (wVal a b * wVal (wHi (1 : Int)) (wLo (1 : Int))) (wVal c d))]) else none := by kernel_rfl
theorem wdiv_run (a : Int) (b : Int) (c : Int) (d : Int) (hp : isH a ∧ isW b ∧ isH c ∧ isW d) : ∃ fu, wdiv_f.run wdiv_e [] fu [agg [.c (.int .i64 a), .c (.int .u64 b)], agg [.c (.int .i64 c), .c (.int .u64 d)]] [] = some ⟨.tup [.agg [gI (wHi (qV (wVal a b) (wVal c d))), gU (wLo (qV (wVal a b) (wVal c d)))], .agg [gI (wHi (rV (wVal a b) (wVal c d))), gU (wLo (rV (wVal a b) (wVal c d)))], tI (eV (wVal a b) (wVal c d))], []⟩ := by
  refine ⟨0, ?_⟩
  rw [FnD.run, wdiv_ent]
  obtain ⟨ha, hb, hc, hd⟩ := hp
  simp only [wVal_mk, Int.mul_one]
  exact condT ⟨ha, hb, by decide, by decide, hc, hd⟩ rfl
theorem wdiv_ok (a : Int) (b : Int) (c : Int) (d : Int) (hp : isH a ∧ isW b ∧ isH c ∧ isW d) : FnOk cfg 203 ([agg [.c (.int .i64 a), .c (.int .u64 b)], agg [.c (.int .i64 c), .c (.int .u64 d)]].map SV.den) (.tup [.agg [gI (wHi (qV (wVal a b) (wVal c d))), gU (wLo (qV (wVal a b) (wVal c d)))], .agg [gI (wHi (rV (wVal a b) (wVal c d))), gU (wLo (rV (wVal a b) (wVal c d)))], tI (eV (wVal a b) (wVal c d))] : SV).den := by
  obtain ⟨nn, h⟩ := wdiv_run a b c d hp
  exact FnD.ok wdiv_g wdiv_f mixed Tryz.func203 rfl rfl rfl rfl rfl rfl h
noncomputable def c_wdiv : SpecF := fun args _ K => match args with
  | [.one (.agg [.c (.int .i64 a), .c (.int .u64 b)]), .one (.agg [.c (.int .i64 c), .c (.int .u64 d)])] => bif decide (isH a ∧ isW b ∧ isH c ∧ isW d) then K (.tup [.agg [gI (wHi (qV (wVal a b) (wVal c d))), gU (wLo (qV (wVal a b) (wVal c d)))], .agg [gI (wHi (rV (wVal a b) (wVal c d))), gU (wLo (rV (wVal a b) (wVal c d)))], tI (eV (wVal a b) (wVal c d))]) [] else none
  | _ => none
theorem c_wdiv_ok : SpecOk cfg 203 c_wdiv := by
  intro args bx K out h
  unfold c_wdiv at h
  split at h
  · obtain ⟨hp, h⟩ := bif_some h
    exact ⟨_, _, h, .inl (wdiv_ok _ _ _ _ (of_decide_eq_true hp) _), by simp [isTupS]⟩
  · cases h
end Go.Proofs.YtldofkogmkfpjaaGreatDoor
