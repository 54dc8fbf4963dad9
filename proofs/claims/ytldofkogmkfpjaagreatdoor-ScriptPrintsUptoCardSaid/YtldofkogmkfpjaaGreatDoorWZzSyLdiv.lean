/-
  The contract of limb.Div.
-/
import Derived.Test.YtldofkogmkfpjaaGreatDoorWZzSyMul
namespace Go.Proofs.YtldofkogmkfpjaaGreatDoor
open Go Go.Ev Go.Sy
set_option linter.unusedSimpArgs false
set_option linter.unusedVariables false
set_option maxRecDepth 10000
set_option maxHeartbeats 4000000
/-! ### limb.short -/
noncomputable def short_e : Ev' := ⟨Tryz.prog, glob, Γof [(266, c_div64)]⟩
theorem short_g : Gd cfg short_e := gd (env_cons c_div64_ok (env_nil _))
noncomputable def short_f : FnD := ⟨263, Tryz.f263, noSh, Tryz.f263.resultTypes.toList, 0⟩
theorem short_ent (h : Hd) (a : Int) (b : Int) (c : Int) (d : Int) (f : Int) : short_f.ent short_e [] h [agg [.c (.int .u64 a), .c (.int .u64 b)], agg [.c (.int .u64 c), .c (.int .u64 d)], c1 (.int .u64 f)] [] = bif decide (isW b ∧ isW c ∧ isW f ∧ b < f) then bif decide (isW (wVal b c % f) ∧ isW d ∧ isW f ∧ wVal b c % f < f) then ret (SV.tup [S1.agg [gU (wVal b c / f), gU (wVal (wVal b c % f) d / f)], S1.agg [gU (0 : Int), gU (wVal (wVal b c % f) d % f)]]) else none else none := by kernel_rfl
theorem short_run (a : Int) (b : Int) (c : Int) (d : Int) (f : Int) (hp : isW a ∧ isW b ∧ isW c ∧ isW d ∧ isW f ∧ b < f) : ∃ fu, short_f.run short_e [] fu [agg [.c (.int .u64 a), .c (.int .u64 b)], agg [.c (.int .u64 c), .c (.int .u64 d)], c1 (.int .u64 f)] [] = some ⟨.tup [.agg [gU (wHi ((wVal b c * 18446744073709551616 + d) / f)), gU (wLo ((wVal b c * 18446744073709551616 + d) / f))], .agg [gU (wHi ((wVal b c * 18446744073709551616 + d) % f)), gU (wLo ((wVal b c * 18446744073709551616 + d) % f))]], []⟩ := by
  refine ⟨0, ?_⟩
  rw [FnD.run, short_ent]
  obtain ⟨ha, hb, hc, hd, hf, hbf⟩ := hp
  have hb' := hb
  have hf' := hf
  have hd' := hd
  unfold isW at hb' hf' hd'
  have hf0 : 0 < f := by omega
  have hr0 := Int.emod_nonneg (wVal b c) (b := f) (by omega)
  have hr1 := Int.emod_lt_of_pos (wVal b c) hf0
  refine condT ⟨hb, hc, hf, hbf⟩ (condT ⟨⟨by omega, by omega⟩, hd, hf, by omega⟩ ?_)
  obtain ⟨e1, e2⟩ := div_two (A := wVal b c) (d := d) (K := 18446744073709551616) hf0
  rw [e1, e2, show wVal (wVal b c % f) d = wVal b c % f * 18446744073709551616 + d from rfl]
  have hx : 0 ≤ (wVal b c % f * 18446744073709551616 + d) / f ∧ (wVal b c % f * 18446744073709551616 + d) / f < 18446744073709551616 := by
    refine ⟨Int.ediv_nonneg (by omega) (by omega), Int.ediv_lt_of_lt_mul hf0 ?_⟩
    have : (wVal b c % f + 1) * 18446744073709551616 ≤ f * 18446744073709551616 := Int.mul_le_mul_of_nonneg_right (by omega) (by omega)
    omega
  have hy0 := Int.emod_nonneg (wVal b c % f * 18446744073709551616 + d) (b := f) (by omega)
  have hy1 := Int.emod_lt_of_pos (wVal b c % f * 18446744073709551616 + d) hf0
  generalize (wVal b c % f * 18446744073709551616 + d) / f = q at *
  generalize (wVal b c % f * 18446744073709551616 + d) % f = r at *
  simp only [ret, Option.some.injEq, Out.mk.injEq, SV.tup.injEq, SV.one.injEq, S1.c.injEq, S1.agg.injEq, List.cons.injEq, Sg.c.injEq, Cl.int.injEq, Cl.bool.injEq, Cl.str.injEq, and_true, true_and]
  unfold wHi wLo
  refine ⟨⟨?_, ?_⟩, ?_, ?_⟩ <;> omega
theorem short_ok (a : Int) (b : Int) (c : Int) (d : Int) (f : Int) (hp : isW a ∧ isW b ∧ isW c ∧ isW d ∧ isW f ∧ b < f) : FnOk cfg 263 ([agg [.c (.int .u64 a), .c (.int .u64 b)], agg [.c (.int .u64 c), .c (.int .u64 d)], c1 (.int .u64 f)].map SV.den) (.tup [.agg [gU (wHi ((wVal b c * 18446744073709551616 + d) / f)), gU (wLo ((wVal b c * 18446744073709551616 + d) / f))], .agg [gU (wHi ((wVal b c * 18446744073709551616 + d) % f)), gU (wLo ((wVal b c * 18446744073709551616 + d) % f))]] : SV).den := by
  obtain ⟨nn, h⟩ := short_run a b c d f hp
  exact FnD.ok short_g short_f mixed Tryz.func263 rfl rfl rfl rfl rfl rfl h
noncomputable def c_short : SpecF := fun args _ K => match args with
  | [.one (.agg [.c (.int .u64 a), .c (.int .u64 b)]), .one (.agg [.c (.int .u64 c), .c (.int .u64 d)]), .one (.c (.int .u64 f))] => bif decide (isW a ∧ isW b ∧ isW c ∧ isW d ∧ isW f ∧ b < f) then K (.tup [.agg [gU (wHi ((wVal b c * 18446744073709551616 + d) / f)), gU (wLo ((wVal b c * 18446744073709551616 + d) / f))], .agg [gU (wHi ((wVal b c * 18446744073709551616 + d) % f)), gU (wLo ((wVal b c * 18446744073709551616 + d) % f))]]) [] else none
  | _ => none
theorem c_short_ok : SpecOk cfg 263 c_short := by
  intro args bx K out h
  unfold c_short at h
  split at h
  · obtain ⟨hp, h⟩ := bif_some h
    exact ⟨_, _, h, .inl (short_ok _ _ _ _ _ (of_decide_eq_true hp) _), by simp [isTupS]⟩
  · cases h
/-! ### limb.Div -/
noncomputable def ldiv_e : Ev' := ⟨Tryz.prog, glob, Γof [(257, c_lcmp), (263, c_short), (264, c_ldbl), (255, c_lsub)]⟩
theorem ldiv_g : Gd cfg ldiv_e := gd (env_cons c_lcmp_ok (env_cons c_short_ok (env_cons c_ldbl_ok (env_cons c_lsub_ok (env_nil _)))))
noncomputable def ldiv_f : FnD := ⟨252, Tryz.f252, shOf [(0, ⟨70, [], [(4, [.c (.int .u64), .c (.int .u64)]), (5, [.c (.int .u64), .c (.int .u64)]), (6, [.c (.int .u64), .c (.int .u64)]), (7, [.c (.int .u64), .c (.int .u64)])], [(4, .c (.ptr 4 0)), (5, .c (.ptr 5 0)), (6, .c (.ptr 6 0)), (7, .c (.ptr 7 0)), (30, .c (.int .i64))]⟩)], Tryz.f252.resultTypes.toList, 0⟩
theorem ldiv_ent (h : Hd) (a : Int) (b : Int) (c : Int) (d : Int) (e : Int) (f : Int) : ldiv_f.ent ldiv_e [] h [agg [.c (.int .u64 a), .c (.int .u64 b)], agg [.c (.int .u64 c), .c (.int .u64 d)], agg [.c (.int .u64 e), .c (.int .u64 f)]] [] = let v1 : Int := (wVal b c * (18446744073709551616 : Int) + d) / f; let v2 : Int := (wVal b c * (18446744073709551616 : Int) + d) % f; bif decide (isW a ∧ isW b ∧ isW e ∧ isW f) then bif decide ((0 : Int) ≤ cmpV (wVal a b) (wVal e f)) then ret (SV.tup [S1.agg [gU (0 : Int), gU (0 : Int)], S1.agg [gU (0 : Int), gU (0 : Int)], S1.c (Cl.bool false)]) else bif decide (e = (0 : Int)) then bif decide (isW a ∧ isW b ∧ isW c ∧ isW d ∧ isW f ∧ b < f) then ret (SV.tup [S1.agg [gU (wHi v1), gU (wLo v1)], S1.agg [gU (wHi v2), gU (wLo v2)], S1.c (Cl.bool true)]) else none else h (0 : Nat) [Lf.i c, Lf.i d, Lf.i e, Lf.i f, Lf.i (0 : Int), Lf.i (0 : Int), Lf.i a, Lf.i b, Lf.i (0 : Int)] else none := by kernel_rfl
theorem ldiv_l0 (h : Hd) (i0 : Int) (i1 : Int) (i2 : Int) (i3 : Int) (i4 : Int) (i5 : Int) (i6 : Int) (i7 : Int) (i8 : Int) : ldiv_f.seg ldiv_e [] h 0 [.i i0, .i i1, .i i2, .i i3, .i i4, .i i5, .i i6, .i i7, .i i8] = let v1 : Int := (2 : Int) * wVal i6 i7 + shrI IntKind.u64 i0 (63 : Int); let v2 : Int := v1 % (340282366920938463463374607431768211456 : Int); let v3 : Int := wHi v2; let v4 : Int := wLo v2; let v5 : Int := ((2 : Int) * wVal i0 i1 + (0 : Int)) % (340282366920938463463374607431768211456 : Int); let v6 : Int := wHi v5; let v7 : Int := wLo v5; let v8 : Int := ((2 : Int) * wVal i4 i5 + (0 : Int)) % (340282366920938463463374607431768211456 : Int); let v9 : Int := wHi v8; let v10 : Int := wLo v8; let v11 : Int := orI IntKind.u64 v10 (1 : Int); let v12 : Int := wVal v3 v4; let v13 : Int := (v12 - wVal i2 i3) % (340282366920938463463374607431768211456 : Int); let v14 : Int := wHi v13; let v15 : Int := wLo v13; let v16 : Int := cmpV v12 (wVal i2 i3); bif decide (i8 < (128 : Int)) then bif decide (isW i6 ∧ isW i7 ∧ (shrI IntKind.u64 i0 (63 : Int) = (0 : Int) ∨ shrI IntKind.u64 i0 (63 : Int) = (1 : Int))) then bif decide (isW i0 ∧ isW i1 ∧ ((0 : Int) = (0 : Int) ∨ (0 : Int) = (1 : Int))) then bif decide (isW i4 ∧ isW i5 ∧ ((0 : Int) = (0 : Int) ∨ (0 : Int) = (1 : Int))) then bif decide ((340282366920938463463374607431768211456 : Int) ≤ v1) then bif decide (isW v3 ∧ isW v4 ∧ isW i2 ∧ isW i3) then h (0 : Nat) [Lf.i v6, Lf.i v7, Lf.i i2, Lf.i i3, Lf.i v9, Lf.i v11, Lf.i v14, Lf.i v15, Lf.i (IntKind.i64.wrap (i8 + (1 : Int)))] else none else bif decide (isW v3 ∧ isW v4 ∧ isW i2 ∧ isW i3) then bif decide ((0 : Int) ≤ v16) then bif decide (isW v3 ∧ isW v4 ∧ isW i2 ∧ isW i3) then h (0 : Nat) [Lf.i v6, Lf.i v7, Lf.i i2, Lf.i i3, Lf.i v9, Lf.i v11, Lf.i v14, Lf.i v15, Lf.i (IntKind.i64.wrap (i8 + (1 : Int)))] else none else h (0 : Nat) [Lf.i v6, Lf.i v7, Lf.i i2, Lf.i i3, Lf.i v9, Lf.i v10, Lf.i v3, Lf.i v4, Lf.i (IntKind.i64.wrap (i8 + (1 : Int)))] else none else none else none else none else ret (SV.tup [S1.agg [gU i4, gU i5], S1.agg [gU i6, gU i7], S1.c (Cl.bool true)]) := by kernel_rfl

theorem ldiv_loop {D N e f : Int} (hD : wVal e f = D) (he : isW e) (hf : isW f) (hD0 : 0 < D) (hD1 : D < 340282366920938463463374607431768211456) : ∀ (k n : Nat) (m Q R : Int), n + k = 128 → 0 ≤ m → m < 2 ^ k → 0 ≤ Q → Q < 2 ^ n → 0 ≤ R → R < D → (Q * D + R) * 2 ^ k + m = N → ∀ fu, k < fu →
    ldiv_f.H ldiv_e [] fu 0 [.i (wHi (m * 2 ^ n)), .i (wLo (m * 2 ^ n)), .i e, .i f, .i (wHi Q), .i (wLo Q), .i (wHi R), .i (wLo R), .i n] = some ⟨.tup [.agg [gU (wHi (N / D)), gU (wLo (N / D))], .agg [gU (wHi (N % D)), gU (wLo (N % D))], .c (.bool true)], []⟩ := by
  intro k
  induction k with
  | zero =>
    intro n m Q R hn m0 m1 q0 q1 r0 r1 hN fu hfu
    obtain ⟨fu, rfl⟩ : ∃ g, fu = g + 1 := ⟨fu - 1, by omega⟩
    obtain rfl : n = 128 := by omega
    rw [FnD.H_succ, ldiv_l0]
    dsimp only
    refine condF (by omega) ?_
    have hm : m = 0 := by
      have : (2 : Int) ^ 0 = 1 := rfl
      omega
    have e1 : Q * D + R = N := by
      have : (2 : Int) ^ 0 = 1 := rfl
      rw [this] at hN; omega
    obtain ⟨h1, h2⟩ := quo_uniq hD0 e1 r0 r1
    rw [h1, h2]
  | succ k ih =>
    intro n m Q R hn m0 m1 q0 q1 r0 r1 hN fu hfu
    obtain ⟨fu, rfl⟩ : ∃ g, fu = g + 1 := ⟨fu - 1, by omega⟩
    have hT : (0 : Int) < 2 ^ k := Int.pow_pos (by omega)
    have hS : (0 : Int) < 2 ^ n := Int.pow_pos (by omega)
    have hTS : (2 : Int) ^ k * 2 ^ n = 170141183460469231731687303715884105728 := by rw [← Int.pow_add, show k + n = 127 by omega]; rfl
    have e2 : (2 : Int) ^ (k + 1) = 2 * 2 ^ k := by rw [Int.pow_succ]; omega
    have e3 : (2 : Int) ^ (n + 1) = 2 * 2 ^ n := by rw [Int.pow_succ]; omega
    rw [e2] at m1 hN
    obtain ⟨bit, m', hbit, p0, p1, hb, hl, ms0, ms1, hc⟩ := ldiv_step hD0 hT hS hTS m0 m1 r0 r1 hN
    have hqb : (2 : Int) ^ n ≤ 170141183460469231731687303715884105728 := by
      have : (1 : Int) * 2 ^ n ≤ 2 ^ k * 2 ^ n := Int.mul_le_mul_of_nonneg_right (by omega) (by omega)
      omega
    rw [FnD.H_succ, ldiv_l0]
    have hsh : shrI .u64 (wHi (m * 2 ^ n)) 63 = bit := by rw [shr63, ← hb]; unfold wHi; omega
    have hw : IntKind.i64.wrap ((n : Int) + 1) = ((n + 1 : Nat) : Int) := by rw [IntWalk.i64_in _ (by omega)]; omega
    simp only [wVal_mk, hsh, hD, Int.add_zero, hl, ← e3, hw]
    rw [Int.emod_eq_of_lt (show 0 ≤ 2 * Q by omega) (by omega), or_lowQ]
    have g1 : isW (wHi R) ∧ isW (wLo R) ∧ (bit = 0 ∨ bit = 1) := ⟨wHi_W ⟨r0, by omega⟩, wLo_in _, hbit⟩
    refine condT (by omega) (condT g1 (condT ⟨wHi_W ⟨ms0, ms1⟩, wLo_in _, by simp⟩ (condT ⟨wHi_W ⟨q0, by omega⟩, wLo_in _, by simp⟩ ?_)))
    have g4 : isW (wHi ((2 * R + bit) % 340282366920938463463374607431768211456)) ∧ isW (wLo ((2 * R + bit) % 340282366920938463463374607431768211456)) ∧ isW e ∧ isW f := ⟨wHi_W ⟨by omega, by omega⟩, wLo_in _, he, hf⟩
    have sub : D ≤ 2 * R + bit → ldiv_f.H ldiv_e [] fu 0 [.i (wHi (m' * 2 ^ (n + 1))), .i (wLo (m' * 2 ^ (n + 1))), .i e, .i f, .i (wHi (2 * Q)), .i (wLo (2 * Q + 1)), .i (wHi (((2 * R + bit) % 340282366920938463463374607431768211456 - D) % 340282366920938463463374607431768211456)), .i (wLo (((2 * R + bit) % 340282366920938463463374607431768211456 - D) % 340282366920938463463374607431768211456)), .i ((n + 1 : Nat) : Int)] = some ⟨.tup [.agg [gU (wHi (N / D)), gU (wLo (N / D))], .agg [gU (wHi (N % D)), gU (wLo (N % D))], .c (.bool true)], []⟩ := fun h => by
      rw [show ((2 * R + bit) % 340282366920938463463374607431768211456 - D) % 340282366920938463463374607431768211456 = 2 * R + bit - 1 * D by omega, wHi_2]
      exact ih (n + 1) m' (2 * Q + 1) (2 * R + bit - 1 * D) (by omega) p0 p1 (by omega) (by rw [e3]; omega) (by omega) (by omega) (hc 1) fu (by omega)
    by_cases h1 : 340282366920938463463374607431768211456 ≤ 2 * R + bit
    · exact condT h1 (condT g4 (sub (by omega)))
    · refine condF h1 (condT g4 ?_)
      have e5 : (2 * R + bit) % 340282366920938463463374607431768211456 = 2 * R + bit := Int.emod_eq_of_lt (by omega) (by omega)
      by_cases h2 : D ≤ 2 * R + bit
      · exact condT (by rw [cmpV_ge, e5]; exact h2) (condT g4 (sub h2))
      · refine condF (by rw [cmpV_ge, e5]; exact h2) ?_
        have h3 := ih (n + 1) m' (2 * Q + 0) (2 * R + bit - 0 * D) (by omega) p0 p1 (by omega) (by rw [e3]; omega) (by omega) (by omega) (hc 0) fu (by omega)
        rw [show 2 * Q + 0 = 2 * Q by omega, show 2 * R + bit - 0 * D = 2 * R + bit by omega] at h3
        rw [e5]; exact h3
theorem ldiv_run (a : Int) (b : Int) (c : Int) (d : Int) (e : Int) (f : Int) (hp : isW a ∧ isW b ∧ isW c ∧ isW d ∧ isW e ∧ isW f) : ∃ fu, ldiv_f.run ldiv_e [] fu [agg [.c (.int .u64 a), .c (.int .u64 b)], agg [.c (.int .u64 c), .c (.int .u64 d)], agg [.c (.int .u64 e), .c (.int .u64 f)]] [] = some ⟨.tup [.agg [gU (wHi (if wVal a b < wVal e f then (wVal a b * 340282366920938463463374607431768211456 + wVal c d) / wVal e f else 0)), gU (wLo (if wVal a b < wVal e f then (wVal a b * 340282366920938463463374607431768211456 + wVal c d) / wVal e f else 0))], .agg [gU (wHi (if wVal a b < wVal e f then (wVal a b * 340282366920938463463374607431768211456 + wVal c d) % wVal e f else 0)), gU (wLo (if wVal a b < wVal e f then (wVal a b * 340282366920938463463374607431768211456 + wVal c d) % wVal e f else 0))], .c (.bool (decide (wVal a b < wVal e f)))], []⟩ := by
  obtain ⟨ha, hb, hc, hd, he, hf⟩ := hp
  obtain ⟨v0, v1⟩ := wVal_M ha hb
  obtain ⟨w0, w1⟩ := wVal_M hc hd
  obtain ⟨d0, d1⟩ := wVal_M he hf
  refine ⟨130, ?_⟩
  rw [FnD.run, ldiv_ent]
  dsimp only
  refine condT ⟨ha, hb, he, hf⟩ ?_
  by_cases h : wVal a b < wVal e f
  · refine condF (by rw [cmpV_ge]; omega) ?_
    simp only [if_pos h]
    rw [decide_eq_true h]
    by_cases h0 : e = 0
    · subst h0
      have h2 : a = 0 ∧ b < f := by unfold isW at ha hb hf; unfold wVal at h; omega
      obtain ⟨rfl, h3⟩ := h2
      refine condT rfl (condT ⟨ha, hb, hc, hd, hf, h3⟩ ?_)
      rw [show wVal b c * 18446744073709551616 + d = wVal 0 b * 340282366920938463463374607431768211456 + wVal c d by unfold wVal; omega, show wVal 0 f = f by unfold wVal; omega]
    · refine condF h0 ?_
      have := ldiv_loop (e := e) (f := f) (N := (wVal a b * 340282366920938463463374607431768211456 + wVal c d)) rfl he hf (by omega) d1 128 0 (wVal c d) 0 (wVal a b) (by omega) w0 (by simpa using w1) (by omega) (by decide) v0 h (by rw [Int.zero_mul, Int.zero_add]; rfl) 130 (by omega)
      rw [show wVal c d * 2 ^ 0 = wVal c d by omega, wHi_val hd, wLo_val hd, wHi_val hb, wLo_val hb] at this
      exact this
  · refine condT (by rw [cmpV_ge]; omega) ?_
    simp only [if_neg h]
    rw [decide_eq_false h]
    rfl
theorem ldiv_ok (a : Int) (b : Int) (c : Int) (d : Int) (e : Int) (f : Int) (hp : isW a ∧ isW b ∧ isW c ∧ isW d ∧ isW e ∧ isW f) : FnOk cfg 252 ([agg [.c (.int .u64 a), .c (.int .u64 b)], agg [.c (.int .u64 c), .c (.int .u64 d)], agg [.c (.int .u64 e), .c (.int .u64 f)]].map SV.den) (.tup [.agg [gU (wHi (if wVal a b < wVal e f then (wVal a b * 340282366920938463463374607431768211456 + wVal c d) / wVal e f else 0)), gU (wLo (if wVal a b < wVal e f then (wVal a b * 340282366920938463463374607431768211456 + wVal c d) / wVal e f else 0))], .agg [gU (wHi (if wVal a b < wVal e f then (wVal a b * 340282366920938463463374607431768211456 + wVal c d) % wVal e f else 0)), gU (wLo (if wVal a b < wVal e f then (wVal a b * 340282366920938463463374607431768211456 + wVal c d) % wVal e f else 0))], .c (.bool (decide (wVal a b < wVal e f)))] : SV).den := by
  obtain ⟨nn, h⟩ := ldiv_run a b c d e f hp
  exact FnD.ok ldiv_g ldiv_f mixed Tryz.func252 rfl rfl rfl rfl rfl rfl h
noncomputable def c_ldiv : SpecF := fun args _ K => match args with
  | [.one (.agg [.c (.int .u64 a), .c (.int .u64 b)]), .one (.agg [.c (.int .u64 c), .c (.int .u64 d)]), .one (.agg [.c (.int .u64 e), .c (.int .u64 f)])] => bif decide (isW a ∧ isW b ∧ isW c ∧ isW d ∧ isW e ∧ isW f) then K (.tup [.agg [gU (wHi (if wVal a b < wVal e f then (wVal a b * 340282366920938463463374607431768211456 + wVal c d) / wVal e f else 0)), gU (wLo (if wVal a b < wVal e f then (wVal a b * 340282366920938463463374607431768211456 + wVal c d) / wVal e f else 0))], .agg [gU (wHi (if wVal a b < wVal e f then (wVal a b * 340282366920938463463374607431768211456 + wVal c d) % wVal e f else 0)), gU (wLo (if wVal a b < wVal e f then (wVal a b * 340282366920938463463374607431768211456 + wVal c d) % wVal e f else 0))], .c (.bool (decide (wVal a b < wVal e f)))]) [] else none
  | _ => none
theorem c_ldiv_ok : SpecOk cfg 252 c_ldiv := by
  intro args bx K out h
  unfold c_ldiv at h
  split at h
  · obtain ⟨hp, h⟩ := bif_some h
    exact ⟨_, _, h, .inl (ldiv_ok _ _ _ _ _ _ (of_decide_eq_true hp) _), by simp [isTupS]⟩
  · cases h
end Go.Proofs.YtldofkogmkfpjaaGreatDoor
