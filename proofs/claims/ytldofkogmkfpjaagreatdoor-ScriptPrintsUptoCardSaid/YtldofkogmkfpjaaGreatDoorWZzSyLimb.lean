/-
  The contracts of the functions of layer 1 (limb).
-/
import Derived.Test.YtldofkogmkfpjaaGreatDoorWZzSyShelf
namespace Go.Proofs.YtldofkogmkfpjaaGreatDoor
open Go Go.Ev Go.Sy
set_option linter.unusedSimpArgs false
set_option linter.unusedVariables false
set_option maxRecDepth 10000
set_option maxHeartbeats 4000000
/-! ### math/bits.Mul64 -/
noncomputable def mul64_e : Ev' := ⟨Tryz.prog, glob, Γof []⟩
theorem mul64_g : Gd cfg mul64_e := gd (env_nil _)
noncomputable def mul64_f : FnD := ⟨179, Tryz.f179, noSh, Tryz.f179.resultTypes.toList, 0⟩
theorem mul64_ent (h : Hd) (x : Int) (y : Int) : mul64_f.ent mul64_e [] h [c1 (.int .u64 x), c1 (.int .u64 y)] [] = let v1 : Int := IntKind.u64.wrap (IntKind.u64.wrap (shrI IntKind.u64 x (32 : Int) * andI IntKind.u64 y (4294967295 : Int)) + shrI IntKind.u64 (IntKind.u64.wrap (andI IntKind.u64 x (4294967295 : Int) * andI IntKind.u64 y (4294967295 : Int))) (32 : Int)); ret (SV.tup [tU (IntKind.u64.wrap (IntKind.u64.wrap (IntKind.u64.wrap (shrI IntKind.u64 x (32 : Int) * shrI IntKind.u64 y (32 : Int)) + shrI IntKind.u64 v1 (32 : Int)) + shrI IntKind.u64 (IntKind.u64.wrap (andI IntKind.u64 v1 (4294967295 : Int) + IntKind.u64.wrap (andI IntKind.u64 x (4294967295 : Int) * shrI IntKind.u64 y (32 : Int)))) (32 : Int))), tU (IntKind.u64.wrap (x * y))]) := by kernel_rfl
theorem mul64_run (x : Int) (y : Int) (hp : isW x ∧ isW y) : ∃ fu, mul64_f.run mul64_e [] fu [c1 (.int .u64 x), c1 (.int .u64 y)] [] = some ⟨.tup [tU (x * y / 18446744073709551616), tU (x * y % 18446744073709551616)], []⟩ := by
  refine ⟨0, ?_⟩
  rw [FnD.run, mul64_ent]
  dsimp only
  rw [mul_hi hp.1 hp.2, u64w]
theorem mul64_ok (x : Int) (y : Int) (hp : isW x ∧ isW y) : FnOk cfg 179 ([c1 (.int .u64 x), c1 (.int .u64 y)].map SV.den) (.tup [tU (x * y / 18446744073709551616), tU (x * y % 18446744073709551616)] : SV).den := by
  obtain ⟨nn, h⟩ := mul64_run x y hp
  exact FnD.ok mul64_g mul64_f mixed Tryz.func179 rfl rfl rfl rfl rfl rfl h
noncomputable def c_mul64 : SpecF := fun args _ K => match args with
  | [.one (.c (.int .u64 x)), .one (.c (.int .u64 y))] => bif decide (isW x ∧ isW y) then K (.tup [tU (x * y / 18446744073709551616), tU (x * y % 18446744073709551616)]) [] else none
  | _ => none
theorem c_mul64_ok : SpecOk cfg 179 c_mul64 := by
  intro args bx K out h
  unfold c_mul64 at h
  split at h
  · obtain ⟨hp, h⟩ := bif_some h
    exact ⟨_, _, h, .inl (mul64_ok _ _ (of_decide_eq_true hp) _), by simp [isTupS]⟩
  · cases h
/-! ### limb.Add -/
noncomputable def ladd_e : Ev' := ⟨Tryz.prog, glob, Γof [(256, c_add64)]⟩
theorem ladd_g : Gd cfg ladd_e := gd (env_cons c_add64_ok (env_nil _))
noncomputable def ladd_f : FnD := ⟨234, Tryz.f234, noSh, Tryz.f234.resultTypes.toList, 0⟩
theorem ladd_ent (h : Hd) (a : Int) (b : Int) (c : Int) (d : Int) : ladd_f.ent ladd_e [] h [agg [.c (.int .u64 a), .c (.int .u64 b)], agg [.c (.int .u64 c), .c (.int .u64 d)]] [] = let v1 : Int := (b + d + (0 : Int)) / (18446744073709551616 : Int); let v2 : Int := a + c + v1; let v3 : Int := v2 / (18446744073709551616 : Int); bif decide (isW b ∧ isW d ∧ (0 : Int) ≤ (0 : Int) ∧ (0 : Int) ≤ (1 : Int)) then bif decide (isW a ∧ isW c ∧ (0 : Int) ≤ v1 ∧ v1 ≤ (1 : Int)) then ret (SV.tup [S1.agg [gU (v2 % (18446744073709551616 : Int)), gU ((b + d + (0 : Int)) % (18446744073709551616 : Int))], S1.c (Cl.bool (decide (v3 = (1 : Int))))]) else none else none := by kernel_rfl
theorem ladd_run (a : Int) (b : Int) (c : Int) (d : Int) (hp : isW a ∧ isW b ∧ isW c ∧ isW d) : ∃ fu, ladd_f.run ladd_e [] fu [agg [.c (.int .u64 a), .c (.int .u64 b)], agg [.c (.int .u64 c), .c (.int .u64 d)]] [] = some ⟨.tup [.agg [gU (wHi ((wVal a b + wVal c d) % 340282366920938463463374607431768211456)), gU (wLo ((wVal a b + wVal c d) % 340282366920938463463374607431768211456))], .c (.bool (decide (340282366920938463463374607431768211456 ≤ wVal a b + wVal c d)))], []⟩ := by
  refine ⟨0, ?_⟩
  rw [FnD.run, ladd_ent]
  obtain ⟨ha, hb, hc, hd⟩ := hp
  have hv : 0 ≤ (b + d + 0) / 18446744073709551616 ∧ (b + d + 0) / 18446744073709551616 ≤ 1 := by unfold isW at hb hd; omega
  dsimp only
  rw [decide_eq_true (⟨hb, hd, by omega, by omega⟩ : isW b ∧ isW d ∧ (0 : Int) ≤ 0 ∧ (0 : Int) ≤ 1), decide_eq_true (⟨ha, hc, hv.1, hv.2⟩ : isW a ∧ isW c ∧ _ ∧ _)]
  simp only [cond_true]
  simp only [ret, Option.some.injEq, Out.mk.injEq, SV.tup.injEq, SV.one.injEq, S1.c.injEq, S1.agg.injEq, List.cons.injEq, Sg.c.injEq, Cl.int.injEq, Cl.bool.injEq, Cl.str.injEq, and_true, true_and]
  unfold isW at ha hb hc hd; unfold wHi wLo wVal
  refine ⟨⟨?_, ?_⟩, ?_⟩
  · omega
  · omega
  · apply decide_eq_decide.2; omega
theorem ladd_ok (a : Int) (b : Int) (c : Int) (d : Int) (hp : isW a ∧ isW b ∧ isW c ∧ isW d) : FnOk cfg 234 ([agg [.c (.int .u64 a), .c (.int .u64 b)], agg [.c (.int .u64 c), .c (.int .u64 d)]].map SV.den) (.tup [.agg [gU (wHi ((wVal a b + wVal c d) % 340282366920938463463374607431768211456)), gU (wLo ((wVal a b + wVal c d) % 340282366920938463463374607431768211456))], .c (.bool (decide (340282366920938463463374607431768211456 ≤ wVal a b + wVal c d)))] : SV).den := by
  obtain ⟨nn, h⟩ := ladd_run a b c d hp
  exact FnD.ok ladd_g ladd_f mixed Tryz.func234 rfl rfl rfl rfl rfl rfl h
noncomputable def c_ladd : SpecF := fun args _ K => match args with
  | [.one (.agg [.c (.int .u64 a), .c (.int .u64 b)]), .one (.agg [.c (.int .u64 c), .c (.int .u64 d)])] => bif decide (isW a ∧ isW b ∧ isW c ∧ isW d) then K (.tup [.agg [gU (wHi ((wVal a b + wVal c d) % 340282366920938463463374607431768211456)), gU (wLo ((wVal a b + wVal c d) % 340282366920938463463374607431768211456))], .c (.bool (decide (340282366920938463463374607431768211456 ≤ wVal a b + wVal c d)))]) [] else none
  | _ => none
theorem c_ladd_ok : SpecOk cfg 234 c_ladd := by
  intro args bx K out h
  unfold c_ladd at h
  split at h
  · obtain ⟨hp, h⟩ := bif_some h
    exact ⟨_, _, h, .inl (ladd_ok _ _ _ _ (of_decide_eq_true hp) _), by simp [isTupS]⟩
  · cases h
/-! ### limb.Sub -/
noncomputable def lsub_e : Ev' := ⟨Tryz.prog, glob, Γof [(265, c_sub64)]⟩
theorem lsub_g : Gd cfg lsub_e := gd (env_cons c_sub64_ok (env_nil _))
noncomputable def lsub_f : FnD := ⟨255, Tryz.f255, noSh, Tryz.f255.resultTypes.toList, 0⟩
theorem lsub_ent (h : Hd) (a : Int) (b : Int) (c : Int) (d : Int) : lsub_f.ent lsub_e [] h [agg [.c (.int .u64 a), .c (.int .u64 b)], agg [.c (.int .u64 c), .c (.int .u64 d)]] [] = let v1 : Int := if b < d + (0 : Int) then (1 : Int) else (0 : Int); let v2 : Int := c + v1; let v3 : Int := if a < v2 then (1 : Int) else (0 : Int); bif decide (isW b ∧ isW d ∧ (0 : Int) ≤ (0 : Int) ∧ (0 : Int) ≤ (1 : Int)) then bif decide (isW a ∧ isW c ∧ (0 : Int) ≤ v1 ∧ v1 ≤ (1 : Int)) then ret (SV.tup [S1.agg [gU ((a - c - v1) % (18446744073709551616 : Int)), gU ((b - d - (0 : Int)) % (18446744073709551616 : Int))], S1.c (Cl.bool (decide (v3 = (1 : Int))))]) else none else none := by kernel_rfl
theorem lsub_run (a : Int) (b : Int) (c : Int) (d : Int) (hp : isW a ∧ isW b ∧ isW c ∧ isW d) : ∃ fu, lsub_f.run lsub_e [] fu [agg [.c (.int .u64 a), .c (.int .u64 b)], agg [.c (.int .u64 c), .c (.int .u64 d)]] [] = some ⟨.tup [.agg [gU (wHi ((wVal a b - wVal c d) % 340282366920938463463374607431768211456)), gU (wLo ((wVal a b - wVal c d) % 340282366920938463463374607431768211456))], .c (.bool (decide (wVal a b < wVal c d)))], []⟩ := by
  refine ⟨0, ?_⟩
  rw [FnD.run, lsub_ent]
  obtain ⟨ha, hb, hc, hd⟩ := hp
  have hv : 0 ≤ (if b < d + 0 then (1 : Int) else 0) ∧ (if b < d + 0 then (1 : Int) else 0) ≤ 1 := by split <;> omega
  dsimp only
  rw [decide_eq_true (⟨hb, hd, by omega, by omega⟩ : isW b ∧ isW d ∧ (0 : Int) ≤ 0 ∧ (0 : Int) ≤ 1), decide_eq_true (⟨ha, hc, hv.1, hv.2⟩ : isW a ∧ isW c ∧ _ ∧ _)]
  simp only [cond_true]
  simp only [ret, Option.some.injEq, Out.mk.injEq, SV.tup.injEq, SV.one.injEq, S1.c.injEq, S1.agg.injEq, List.cons.injEq, Sg.c.injEq, Cl.int.injEq, Cl.bool.injEq, Cl.str.injEq, and_true, true_and]
  unfold isW at ha hb hc hd; unfold wHi wLo wVal
  refine ⟨⟨?_, ?_⟩, ?_⟩
  · split <;> omega
  · omega
  · apply decide_eq_decide.2; split <;> split <;> omega
theorem lsub_ok (a : Int) (b : Int) (c : Int) (d : Int) (hp : isW a ∧ isW b ∧ isW c ∧ isW d) : FnOk cfg 255 ([agg [.c (.int .u64 a), .c (.int .u64 b)], agg [.c (.int .u64 c), .c (.int .u64 d)]].map SV.den) (.tup [.agg [gU (wHi ((wVal a b - wVal c d) % 340282366920938463463374607431768211456)), gU (wLo ((wVal a b - wVal c d) % 340282366920938463463374607431768211456))], .c (.bool (decide (wVal a b < wVal c d)))] : SV).den := by
  obtain ⟨nn, h⟩ := lsub_run a b c d hp
  exact FnD.ok lsub_g lsub_f mixed Tryz.func255 rfl rfl rfl rfl rfl rfl h
noncomputable def c_lsub : SpecF := fun args _ K => match args with
  | [.one (.agg [.c (.int .u64 a), .c (.int .u64 b)]), .one (.agg [.c (.int .u64 c), .c (.int .u64 d)])] => bif decide (isW a ∧ isW b ∧ isW c ∧ isW d) then K (.tup [.agg [gU (wHi ((wVal a b - wVal c d) % 340282366920938463463374607431768211456)), gU (wLo ((wVal a b - wVal c d) % 340282366920938463463374607431768211456))], .c (.bool (decide (wVal a b < wVal c d)))]) [] else none
  | _ => none
theorem c_lsub_ok : SpecOk cfg 255 c_lsub := by
  intro args bx K out h
  unfold c_lsub at h
  split at h
  · obtain ⟨hp, h⟩ := bif_some h
    exact ⟨_, _, h, .inl (lsub_ok _ _ _ _ (of_decide_eq_true hp) _), by simp [isTupS]⟩
  · cases h
/-! ### limb.Cmp -/
noncomputable def lcmp_e : Ev' := ⟨Tryz.prog, glob, Γof []⟩
theorem lcmp_g : Gd cfg lcmp_e := gd (env_nil _)
noncomputable def lcmp_f : FnD := ⟨257, Tryz.f257, noSh, Tryz.f257.resultTypes.toList, 0⟩
theorem lcmp_ent (h : Hd) (a : Int) (b : Int) (c : Int) (d : Int) : lcmp_f.ent lcmp_e [] h [agg [.c (.int .u64 a), .c (.int .u64 b)], agg [.c (.int .u64 c), .c (.int .u64 d)]] [] = bif decide (a = c) && (decide (b = d) && true) then ret (vI (0 : Int)) else bif decide (a < c) then ret (vI (-1 : Int)) else bif decide (a = c) then bif decide (b < d) then ret (vI (-1 : Int)) else ret (vI (1 : Int)) else ret (vI (1 : Int)) := by kernel_rfl
theorem lcmp_run (a : Int) (b : Int) (c : Int) (d : Int) (hp : isW a ∧ isW b ∧ isW c ∧ isW d) : ∃ fu, lcmp_f.run lcmp_e [] fu [agg [.c (.int .u64 a), .c (.int .u64 b)], agg [.c (.int .u64 c), .c (.int .u64 d)]] [] = some ⟨vI (cmpV (wVal a b) (wVal c d)), []⟩ := by
  refine ⟨0, ?_⟩
  rw [FnD.run, lcmp_ent]
  obtain ⟨ha, hb, hc, hd⟩ := hp
  obtain ⟨e1, e2⟩ := cmp_val (a := a) (c := c) hb hd
  unfold cmpV
  simp only [e1, e2]
  by_cases h1 : a = c
  · subst h1
    by_cases h2 : b = d
    · subst h2; simp
    · by_cases h3 : b < d <;> simp [h2, h3]
  · by_cases h3 : a < c <;> simp [h1, h3]
theorem lcmp_ok (a : Int) (b : Int) (c : Int) (d : Int) (hp : isW a ∧ isW b ∧ isW c ∧ isW d) : FnOk cfg 257 ([agg [.c (.int .u64 a), .c (.int .u64 b)], agg [.c (.int .u64 c), .c (.int .u64 d)]].map SV.den) (vI (cmpV (wVal a b) (wVal c d)) : SV).den := by
  obtain ⟨nn, h⟩ := lcmp_run a b c d hp
  exact FnD.ok lcmp_g lcmp_f mixed Tryz.func257 rfl rfl rfl rfl rfl rfl h
noncomputable def c_lcmp : SpecF := fun args _ K => match args with
  | [.one (.agg [.c (.int .u64 a), .c (.int .u64 b)]), .one (.agg [.c (.int .u64 c), .c (.int .u64 d)])] => bif decide (isW a ∧ isW b ∧ isW c ∧ isW d) then K (vI (cmpV (wVal a b) (wVal c d))) [] else none
  | _ => none
theorem c_lcmp_ok : SpecOk cfg 257 c_lcmp := by
  intro args bx K out h
  unfold c_lcmp at h
  split at h
  · obtain ⟨hp, h⟩ := bif_some h
    exact ⟨_, _, h, .inl (lcmp_ok _ _ _ _ (of_decide_eq_true hp) _), by simp [isTupS]⟩
  · cases h
/-! ### limb.double -/
noncomputable def ldbl_e : Ev' := ⟨Tryz.prog, glob, Γof []⟩
theorem ldbl_g : Gd cfg ldbl_e := gd (env_nil _)
noncomputable def ldbl_f : FnD := ⟨264, Tryz.f264, noSh, Tryz.f264.resultTypes.toList, 0⟩
theorem ldbl_ent (h : Hd) (a : Int) (b : Int) (c : Int) : ldbl_f.ent ldbl_e [] h [agg [.c (.int .u64 a), .c (.int .u64 b)], c1 (.int .u64 c)] [] = ret (SV.tup [S1.agg [gU (orI IntKind.u64 (shlI IntKind.u64 a (1 : Int)) (shrI IntKind.u64 b (63 : Int))), gU (orI IntKind.u64 (shlI IntKind.u64 b (1 : Int)) c)], S1.c (Cl.bool (decide (shrI IntKind.u64 a (63 : Int) = (1 : Int))))]) := by kernel_rfl
theorem ldbl_run (a : Int) (b : Int) (c : Int) (hp : isW a ∧ isW b ∧ (c = 0 ∨ c = 1)) : ∃ fu, ldbl_f.run ldbl_e [] fu [agg [.c (.int .u64 a), .c (.int .u64 b)], c1 (.int .u64 c)] [] = some ⟨.tup [.agg [gU (wHi ((2 * wVal a b + c) % 340282366920938463463374607431768211456)), gU (wLo ((2 * wVal a b + c) % 340282366920938463463374607431768211456))], .c (.bool (decide (340282366920938463463374607431768211456 ≤ 2 * wVal a b + c)))], []⟩ := by
  refine ⟨0, ?_⟩
  rw [FnD.run, ldbl_ent]
  obtain ⟨ha, hb, hc⟩ := hp
  simp only [shl1, shr63]
  rw [or63 ha hb, or1 hb c hc]
  simp only [ret, Option.some.injEq, Out.mk.injEq, SV.tup.injEq, SV.one.injEq, S1.c.injEq, S1.agg.injEq, List.cons.injEq, Sg.c.injEq, Cl.int.injEq, Cl.bool.injEq, Cl.str.injEq, and_true, true_and]
  unfold isW at ha hb; unfold wHi wLo wVal
  refine ⟨⟨?_, ?_⟩, ?_⟩
  · omega
  · omega
  · apply decide_eq_decide.2; omega
theorem ldbl_ok (a : Int) (b : Int) (c : Int) (hp : isW a ∧ isW b ∧ (c = 0 ∨ c = 1)) : FnOk cfg 264 ([agg [.c (.int .u64 a), .c (.int .u64 b)], c1 (.int .u64 c)].map SV.den) (.tup [.agg [gU (wHi ((2 * wVal a b + c) % 340282366920938463463374607431768211456)), gU (wLo ((2 * wVal a b + c) % 340282366920938463463374607431768211456))], .c (.bool (decide (340282366920938463463374607431768211456 ≤ 2 * wVal a b + c)))] : SV).den := by
  obtain ⟨nn, h⟩ := ldbl_run a b c hp
  exact FnD.ok ldbl_g ldbl_f mixed Tryz.func264 rfl rfl rfl rfl rfl rfl h
noncomputable def c_ldbl : SpecF := fun args _ K => match args with
  | [.one (.agg [.c (.int .u64 a), .c (.int .u64 b)]), .one (.c (.int .u64 c))] => bif decide (isW a ∧ isW b ∧ (c = 0 ∨ c = 1)) then K (.tup [.agg [gU (wHi ((2 * wVal a b + c) % 340282366920938463463374607431768211456)), gU (wLo ((2 * wVal a b + c) % 340282366920938463463374607431768211456))], .c (.bool (decide (340282366920938463463374607431768211456 ≤ 2 * wVal a b + c)))]) [] else none
  | _ => none
theorem c_ldbl_ok : SpecOk cfg 264 c_ldbl := by
  intro args bx K out h
  unfold c_ldbl at h
  split at h
  · obtain ⟨hp, h⟩ := bif_some h
    exact ⟨_, _, h, .inl (ldbl_ok _ _ _ (of_decide_eq_true hp) _), by simp [isTupS]⟩
  · cases h
end Go.Proofs.YtldofkogmkfpjaaGreatDoor
