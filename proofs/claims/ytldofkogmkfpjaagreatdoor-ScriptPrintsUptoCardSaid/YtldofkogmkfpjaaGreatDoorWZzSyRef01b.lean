/-
  The contracts of the document's whole numbers (epactref01), second part.
-/
import Derived.Test.YtldofkogmkfpjaaGreatDoorWZzSyRef01
import Derived.Test.YtldofkogmkfpjaaGreatDoorWPBig
import Derived.Test.YtldofkogmkfpjaaGreatDoorWPLex
namespace Go.Proofs.YtldofkogmkfpjaaGreatDoor
open Go Go.Ev Go.Sy
set_option linter.unusedSimpArgs false
set_option linter.unusedVariables false
set_option maxRecDepth 10000
set_option maxHeartbeats 4000000

theorem bigE {v w : Int} (h : v = w) : (ret (.one (.agg [.c (.bool (decide (v < 0))), .c (.ints .i64 (bigD (v).natAbs))]))) = some ⟨.one (.agg [.c (.bool (decide (w < 0))), .c (.ints .i64 (bigD (w).natAbs))]), []⟩ := by rw [h]
/-! ### epactref01.Int -/
noncomputable def rbint_e : Ev' := ⟨Tryz.prog, glob, Γof [(171, c_rword), (130, c_rbadd), (133, c_rbneg)]⟩
theorem rbint_g : Gd cfg rbint_e := gd (env_cons c_rword_ok (env_cons c_rbadd_ok (env_cons c_rbneg_ok (env_nil _))))
noncomputable def rbint_f : FnD := ⟨132, Tryz.f132, noSh, Tryz.f132.resultTypes.toList, 0⟩
theorem rbint_ent (h : Hd) (n : Int) : rbint_f.ent rbint_e [] h [vI n] [] = let v1 : Int := IntKind.u64.wrap (IntKind.i64.wrap ((0 : Int) - IntKind.i64.wrap (n + (1 : Int)))); let v2 : List Int := bigD v1.toNat; let v3 : Nat := v2.length; let v4 : Int := bV false v2 + bV false (bigD (1 : Nat)); let v5 : List Int := bigD v4.natAbs; let v6 : Int := -bV (decide (v4 < (0 : Int))) v5; bif decide ((0 : Int) ≤ n) then bif decide (isW (IntKind.u64.wrap n)) then ret (agg [Sg.c (Cl.bool false), Sg.c (Cl.ints IntKind.i64 (bigD (IntKind.u64.wrap n).toNat))]) else none else bif decide (isW v1) then bif decide (isBig false v2 ∧ isBig false (bigD (1 : Nat)) ∧ v3 ≤ (1000000000 : Nat) ∧ (1 : Nat) ≤ (1000000000 : Nat)) then bif decide (isBig (decide (v4 < (0 : Int))) v5) then ret (agg [Sg.c (Cl.bool (decide (v6 < (0 : Int)))), Sg.c (Cl.ints IntKind.i64 (bigD v6.natAbs))]) else none else none else none := by kernel_rfl
theorem rbint_run (n : Int) (hp : isH n) : ∃ fu, rbint_f.run rbint_e [] fu [vI n] [] = some ⟨.one (.agg [.c (.bool (decide (n < 0))), .c (.ints .i64 (bigD (n).natAbs))]), []⟩ := by
  refine ⟨0, ?_⟩
  rw [FnD.run, rbint_ent]
  have hp' := hp
  unfold isH at hp'
  dsimp only
  by_cases h : 0 ≤ n
  · have w : IntKind.u64.wrap n = n := by rw [u64w]; omega
    rw [w]
    refine condT h (condT ⟨by omega, by omega⟩ (bigR ?_ ?_))
    · exact (decide_eq_false (by omega)).symm
    · congr 1; omega
  · have w1 : IntKind.i64.wrap (n + 1) = n + 1 := IntWalk.i64_in _ (by omega)
    have w2 : IntKind.i64.wrap (0 - (n + 1)) = -(n + 1) := by rw [IntWalk.i64_in _ (by omega)]; omega
    have w3 : IntKind.u64.wrap (-(n + 1)) = -(n + 1) := by rw [u64w]; omega
    rw [w1, w2, w3]
    refine condF h (condT ⟨by omega, by omega⟩ (condT ⟨isBn _, isBn 1, lenBg (by omega), by omega⟩ (condT (isBig_mk _).1 (bigE ?_))))
    rw [bV_mk, bVn, show bV false (bigD 1) = 1 from bVn 1]
    omega
theorem rbint_ok (n : Int) (hp : isH n) : FnOk cfg 132 ([vI n].map SV.den) (.one (.agg [.c (.bool (decide (n < 0))), .c (.ints .i64 (bigD (n).natAbs))]) : SV).den := by
  obtain ⟨nn, h⟩ := rbint_run n hp
  exact FnD.ok rbint_g rbint_f mixed Tryz.func132 rfl rfl rfl rfl rfl rfl h
noncomputable def c_rbint : SpecF := fun args _ K => match args with
  | [.one (.c (.int .i64 n))] => bif decide (isH n) then K (.one (.agg [.c (.bool (decide (n < 0))), .c (.ints .i64 (bigD (n).natAbs))])) [] else none
  | _ => none
theorem c_rbint_ok : SpecOk cfg 132 c_rbint := by
  intro args bx K out h
  unfold c_rbint at h
  split at h
  · obtain ⟨hp, h⟩ := bif_some h
    exact ⟨_, _, h, .inl (rbint_ok _ (of_decide_eq_true hp) _), by simp [isTupS]⟩
  · cases h
/-! ### epactref01.Pow2 -/
noncomputable def rpow2_e : Ev' := ⟨Tryz.prog, glob, Γof []⟩
theorem rpow2_g : Gd cfg rpow2_e := gd (env_nil _)
noncomputable def rpow2_f : FnD := ⟨135, Tryz.f135, noSh, Tryz.f135.resultTypes.toList, 0⟩
theorem rpow2_ent (h : Hd) (n : Int) : rpow2_f.ent rpow2_e [] h [vI n] [] = let v1 : List Int := List.replicate (IntKind.i64.wrap (IntKind.i64.wrap (n.tdiv (16 : Int)) + (1 : Int))).toNat (0 : Int); let v2 : Nat := v1.length; let v3 : List Int := v1.set (IntKind.i64.wrap (n.tdiv (16 : Int))).toNat (shlI IntKind.i64 (1 : Int) (IntKind.u64.wrap (n.tmod (16 : Int)))); let v4 : Nat := v3.length; bif roomI (IntKind.i64.wrap (IntKind.i64.wrap (n.tdiv (16 : Int)) + (1 : Int))) (8 : Nat) then bif decide ((0 : Int) ≤ IntKind.u64.wrap (n.tmod (16 : Int))) then bif inB (IntKind.i64.wrap (n.tdiv (16 : Int))) (IntKind.i64.wrap (IntKind.i64.wrap (n.tdiv (16 : Int)) + (1 : Int))).toNat then bif decide ((IntKind.i64.wrap (n.tdiv (16 : Int))).toNat < v2) then bif decide ((IntKind.i64.wrap (IntKind.i64.wrap (n.tdiv (16 : Int)) + (1 : Int))).toNat ≤ v4) && true && true then ret (agg [Sg.c (Cl.bool false), Sg.c (Cl.ints IntKind.i64 (List.take (IntKind.i64.wrap (IntKind.i64.wrap (n.tdiv (16 : Int)) + (1 : Int))).toNat v3))]) else none else none else none else none else none := by kernel_rfl
theorem rpow2_run (n : Int) (hp : 0 ≤ n ∧ n ≤ 1000) : ∃ fu, rpow2_f.run rpow2_e [] fu [vI n] [] = some ⟨agg [.c (.bool false), .c (.ints .i64 (bigD (2 ^ n.toNat)))], []⟩ := by
  refine ⟨0, ?_⟩
  rw [FnD.run, rpow2_ent]
  obtain ⟨k, rfl⟩ := Int.eq_ofNat_of_zero_le hp.1
  have hk : k ≤ 1000 := by omega
  have w1 : IntKind.i64.wrap ((k : Int).tdiv 16) = ((k / 16 : Nat) : Int) := by rw [IntWalk.i64_quo _ _ ⟨by omega, by omega, by omega⟩]; omega
  have w2 : IntKind.i64.wrap (((k / 16 : Nat) : Int) + 1) = ((k / 16 + 1 : Nat) : Int) := by rw [IntWalk.i64_in _ (by omega)]; omega
  have w3 : IntKind.u64.wrap ((k : Int).tmod 16) = ((k % 16 : Nat) : Int) := by rw [IntWalk.rem_in _ _ (by omega), u64w]; omega
  dsimp only
  rw [w1, w2, w3, Int.toNat_natCast, Int.toNat_natCast, set_last]
  have hx : shlI .i64 1 ((k % 16 : Nat) : Int) = 2 ^ (k % 16) := by
    have hb : (2 : Int) ^ (k % 16) ≤ 2 ^ 15 := by
      have := Nat.pow_le_pow_right (n := 2) (by omega) (show k % 16 ≤ 15 by omega)
      have e : ∀ j : Nat, (2 : Int) ^ j = ((2 ^ j : Nat) : Int) := fun j => by rw [Int.natCast_pow]; rfl
      rw [e, e]; exact Int.ofNat_le.2 this
    have hb0 : (0 : Int) < 2 ^ (k % 16) := Int.pow_pos (by omega)
    have e15 : (2 : Int) ^ 15 = 32768 := rfl
    rw [shl_n 1 (k % 16) (by have : IntKind.bits .i64 = 64 := rfl
                             omega), Int.one_mul, IntWalk.i64_in _ (by omega)]
  rw [hx]
  have hb : (0 : Int) < 2 ^ (k % 16) ∧ (2 : Int) ^ (k % 16) < 65536 := by
    have := Nat.pow_le_pow_right (n := 2) (by omega) (show k % 16 ≤ 15 by omega)
    have e : ∀ j : Nat, (2 : Int) ^ j = ((2 ^ j : Nat) : Int) := fun j => by rw [Int.natCast_pow]; rfl
    have h2 := Int.ofNat_le.2 this
    rw [← e, ← e] at h2
    have e15 : (2 : Int) ^ 15 = 32768 := rfl
    have : (0 : Int) < 2 ^ (k % 16) := Int.pow_pos (by omega)
    omega
  refine condB (by unfold roomI; simp only [Bool.and_eq_true, decide_eq_true_eq]; omega) (condT (by omega) (condB ((inB_iff _ _).2 (by omega)) (condT (by simp) (condB (by simp) ?_))))
  have e := bigD_pow2 (k / 16) (2 ^ (k % 16)) hb
  have e2 : ((65536 : Int) ^ (k / 16) * 2 ^ (k % 16)).toNat = 2 ^ k := by
    have : (65536 : Int) ^ (k / 16) * 2 ^ (k % 16) = ((2 ^ k : Nat) : Int) := by
      rw [show (65536 : Int) = 2 ^ 16 from rfl, ← Int.pow_mul, ← Int.pow_add, show 16 * (k / 16) + k % 16 = k by omega, Int.natCast_pow]; rfl
    rw [this, Int.toNat_natCast]
  rw [e2] at e
  rw [Int.toNat_natCast, e, List.take_of_length_le (by simp)]
theorem rpow2_ok (n : Int) (hp : 0 ≤ n ∧ n ≤ 1000) : FnOk cfg 135 ([vI n].map SV.den) (agg [.c (.bool false), .c (.ints .i64 (bigD (2 ^ n.toNat)))] : SV).den := by
  obtain ⟨nn, h⟩ := rpow2_run n hp
  exact FnD.ok rpow2_g rpow2_f mixed Tryz.func135 rfl rfl rfl rfl rfl rfl h
noncomputable def c_rpow2 : SpecF := fun args _ K => match args with
  | [.one (.c (.int .i64 n))] => bif decide (0 ≤ n ∧ n ≤ 1000) then K (agg [.c (.bool false), .c (.ints .i64 (bigD (2 ^ n.toNat)))]) [] else none
  | _ => none
theorem c_rpow2_ok : SpecOk cfg 135 c_rpow2 := by
  intro args bx K out h
  unfold c_rpow2 at h
  split at h
  · obtain ⟨hp, h⟩ := bif_some h
    exact ⟨_, _, h, .inl (rpow2_ok _ (of_decide_eq_true hp) _), by simp [isTupS]⟩
  · cases h
/-! ### epactref01.Of -/
noncomputable def rbof_e : Ev' := ⟨Tryz.prog, glob, Γof [(132, c_rbint), (135, c_rpow2), (131, c_rbmul), (171, c_rword), (130, c_rbadd)]⟩
theorem rbof_g : Gd cfg rbof_e := gd (env_cons c_rbint_ok (env_cons c_rpow2_ok (env_cons c_rbmul_ok (env_cons c_rword_ok (env_cons c_rbadd_ok (env_nil _))))))
noncomputable def rbof_f : FnD := ⟨128, Tryz.f128, noSh, Tryz.f128.resultTypes.toList, 0⟩
theorem rbof_ent (h : Hd) (a : Int) (b : Int) : rbof_f.ent rbof_e [] h [agg [.c (.int .i64 a), .c (.int .u64 b)]] [] = let v1 : Int := bV (decide (a < (0 : Int))) (bigD a.natAbs) * bV false (bigD (18446744073709551616 : Nat)); let v2 : List Int := bigD v1.natAbs; let v3 : Nat := v2.length; let v4 : Int := bV (decide (v1 < (0 : Int))) v2 + bV false (bigD b.toNat); bif decide (isH a) then bif decide (isBig (decide (a < (0 : Int))) (bigD a.natAbs) ∧ isBig false (bigD (18446744073709551616 : Nat)) ∧ (bigD a.natAbs).length ≤ (1000000000 : Nat) ∧ (5 : Nat) ≤ (1000000000 : Nat)) then bif decide (isW b) then bif decide (isBig (decide (v1 < (0 : Int))) v2 ∧ isBig false (bigD b.toNat) ∧ v3 ≤ (1000000000 : Nat) ∧ (bigD b.toNat).length ≤ (1000000000 : Nat)) then ret (agg [Sg.c (Cl.bool (decide (v4 < (0 : Int)))), Sg.c (Cl.ints IntKind.i64 (bigD v4.natAbs))]) else none else none else none else none := by kernel_rfl
theorem rbof_run (a : Int) (b : Int) (hp : isH a ∧ isW b) : ∃ fu, rbof_f.run rbof_e [] fu [agg [.c (.int .i64 a), .c (.int .u64 b)]] [] = some ⟨.one (.agg [.c (.bool (decide ((wVal a b) < 0))), .c (.ints .i64 (bigD ((wVal a b)).natAbs))]), []⟩ := by
  refine ⟨0, ?_⟩
  rw [FnD.run, rbof_ent]
  obtain ⟨ha, hb⟩ := hp
  have ha' := ha
  have hb' := hb
  unfold isH at ha'
  unfold isW at hb'
  have e1 : bV (decide (a < 0)) (bigD a.natAbs) * bV false (bigD 18446744073709551616) = a * 18446744073709551616 := by rw [bV_mk, show bV false (bigD 18446744073709551616) = 18446744073709551616 from bVn 18446744073709551616]
  dsimp only
  rw [e1]
  refine condT ha (condT ⟨(isBig_mk _).1, isBn 18446744073709551616, lenBg (by omega), by omega⟩ (condT hb (condT ⟨(isBig_mk _).1, isBn _, lenBg (by omega), lenBg (by omega)⟩ (bigE ?_))))
  rw [bV_mk, bVn]
  unfold wVal
  omega
theorem rbof_ok (a : Int) (b : Int) (hp : isH a ∧ isW b) : FnOk cfg 128 ([agg [.c (.int .i64 a), .c (.int .u64 b)]].map SV.den) (.one (.agg [.c (.bool (decide ((wVal a b) < 0))), .c (.ints .i64 (bigD ((wVal a b)).natAbs))]) : SV).den := by
  obtain ⟨nn, h⟩ := rbof_run a b hp
  exact FnD.ok rbof_g rbof_f mixed Tryz.func128 rfl rfl rfl rfl rfl rfl h
noncomputable def c_rbof : SpecF := fun args _ K => match args with
  | [.one (.agg [.c (.int .i64 a), .c (.int .u64 b)])] => bif decide (isH a ∧ isW b) then K (.one (.agg [.c (.bool (decide ((wVal a b) < 0))), .c (.ints .i64 (bigD ((wVal a b)).natAbs))])) [] else none
  | _ => none
theorem c_rbof_ok : SpecOk cfg 128 c_rbof := by
  intro args bx K out h
  unfold c_rbof at h
  split at h
  · obtain ⟨hp, h⟩ := bif_some h
    exact ⟨_, _, h, .inl (rbof_ok _ _ (of_decide_eq_true hp) _), by simp [isTupS]⟩
  · cases h
/-! ### epactref01.Cmp -/
/-! ### epactref01.word -/
theorem divR {s t : Bool} {l k : List Int} {u w : Int} (h1 : s = decide (u < 0)) (h2 : l = bigD u.natAbs) (h3 : t = decide (w < 0)) (h4 : k = bigD w.natAbs) : (ret (.tup [.agg [.c (.bool s), .c (.ints .i64 l)], .agg [.c (.bool t), .c (.ints .i64 k)]])) = some ⟨.tup [.agg [.c (.bool (decide (u < 0))), .c (.ints .i64 (bigD (u).natAbs))], .agg [.c (.bool (decide (w < 0))), .c (.ints .i64 (bigD (w).natAbs))]], []⟩ := by rw [h1, h2, h3, h4]
/-! ### epactref01.Wide -/
/-! ### epactref01.digit -/
noncomputable def rdigit_e : Ev' := ⟨Tryz.prog, glob, Γof [(171, c_rword), (131, c_rbmul), (174, c_rcmp)]⟩
theorem rdigit_g : Gd cfg rdigit_e := gd (env_cons c_rword_ok (env_cons c_rbmul_ok (env_cons c_rcmp_ok (env_nil _))))
noncomputable def rdigit_f : FnD := ⟨215, Tryz.f215, shOf [(0, ⟨30, [], [], [(0, .c (.ints .i64)), (1, .c (.ints .i64)), (5, .c (.int .i64)), (6, .c (.int .i64))]⟩)], Tryz.f215.resultTypes.toList, 0⟩
theorem rdigit_ent (h : Hd) (r : List Int) (d : List Int) : rdigit_f.ent rdigit_e [] h [c1 (.ints .i64 r), c1 (.ints .i64 d)] [] = h (0 : Nat) [Lf.l r, Lf.l d, Lf.i (0 : Int), Lf.i (65535 : Int)] := by kernel_rfl
theorem rdigit_l0 (h : Hd) (l0 : List Int) (l1 : List Int) (i2 : Int) (i3 : Int) : rdigit_f.seg rdigit_e [] h 0 [.l l0, .l l1, .i i2, .i i3] = let v1 : Int := IntKind.i64.wrap ((IntKind.i64.wrap (IntKind.i64.wrap (i2 + i3) + (1 : Int))).tdiv (2 : Int)); let v2 : Int := IntKind.u64.wrap v1; let v3 : List Int := bigD v2.toNat; let v4 : Nat := v3.length; let v5 : List Int := bigD (bV false l1 * bV false v3).natAbs; let v6 : Nat := v5.length; let v7 : Int := cmpV (valD v5) (valD l0); bif decide (i2 < i3) then bif decide (isW v2) then bif decide (isBig false l1 ∧ isBig false v3 ∧ l1.length ≤ (1000000000 : Nat) ∧ v4 ≤ (1000000000 : Nat)) then bif decide (canon v5 ∧ canon l0 ∧ v6 ≤ (9223372036854775807 : Nat) ∧ l0.length ≤ (9223372036854775807 : Nat)) then bif decide (v7 ≤ (0 : Int)) then h (0 : Nat) [Lf.l l0, Lf.l l1, Lf.i v1, Lf.i i3] else h (0 : Nat) [Lf.l l0, Lf.l l1, Lf.i i2, Lf.i (IntKind.i64.wrap (v1 - (1 : Int)))] else none else none else none else ret (vI i2) := by kernel_rfl

theorem rdigit_loop (R D : Nat) (hr : (bigD R).length ≤ 1000000000) (hd : (bigD D).length ≤ 900000000) (hD : 0 < D) (hRD : R < 65536 * D) : ∀ (k a b : Nat), a ≤ R / D → R / D ≤ b → b ≤ 65535 → b - a < k →
    rdigit_f.H rdigit_e [] k 0 [.l (bigD R), .l (bigD D), .i a, .i b] = ret (vI ((R / D : Nat) : Int)) := by
  intro k
  induction k with
  | zero => intro a b _ _ _ h; omega
  | succ k ih =>
    intro a b ha hb h5 hk
    rw [FnD.H_succ, rdigit_l0]
    have w1 : IntKind.i64.wrap ((a : Int) + b) = (a : Int) + b := IntWalk.i64_in _ (by omega)
    have w2 : IntKind.i64.wrap ((a : Int) + b + 1) = (a : Int) + b + 1 := IntWalk.i64_in _ (by omega)
    have w3 : IntKind.i64.wrap (((a : Int) + b + 1).tdiv 2) = (((a + b + 1) / 2 : Nat) : Int) := by rw [IntWalk.i64_quo _ _ ⟨by omega, by omega, by omega⟩]; omega
    have w4 : IntKind.u64.wrap (((a + b + 1) / 2 : Nat) : Int) = (((a + b + 1) / 2 : Nat) : Int) := by rw [u64w]; omega
    dsimp only
    rw [w1, w2, w3, w4, Int.toNat_natCast]
    by_cases h : a < b
    · generalize hm : (a + b + 1) / 2 = m
      have hm1 : a < m := by omega
      have hm2 : m ≤ b := by omega
      have e : (bV false (bigD D) * bV false (bigD m)).natAbs = D * m := by rw [bVn, bVn, Int.natAbs_mul]; rfl
      rw [e]
      have hl : (bigD (D * m)).length ≤ 1000000000 := by
        have h1 : D < 65536 ^ (bigD D).length := by
          have := valD_lt (dgt_bigD D)
          rw [valD_bigD] at this
          have e : ∀ j : Nat, (65536 : Int) ^ j = ((65536 ^ j : Nat) : Int) := fun j => by rw [Int.natCast_pow]; rfl
          rw [e] at this
          exact Int.ofNat_lt.1 this
        have h2 : D * m < 65536 ^ ((bigD D).length + 1) := by
          rw [Nat.pow_succ]
          exact Nat.lt_of_lt_of_le (Nat.mul_lt_mul_of_lt_of_le h1 (show m ≤ 65536 by omega) (by omega)) (Nat.le_refl _)
        exact Nat.le_trans (bigD_len h2) (by omega)
      have key : cmpV (valD (bigD (D * m))) (valD (bigD R)) ≤ 0 ↔ m ≤ R / D := by
        rw [cmpV_le, valD_bigD, valD_bigD, Nat.le_div_iff_mul_le hD, Nat.mul_comm]; omega
      refine condT (by omega) (condT ⟨by omega, by omega⟩ (condT ⟨isBn _, isBn _, by omega, lenBg (by omega)⟩ (condT ⟨canon_bigD _, canon_bigD _, by omega, by omega⟩ ?_)))
      by_cases hc : m ≤ R / D
      · exact condT (key.2 hc) (ih m b hc hb h5 (by omega))
      · refine condF (fun h => hc (key.1 h)) ?_
        rw [show IntKind.i64.wrap ((m : Int) - 1) = ((m - 1 : Nat) : Int) by rw [IntWalk.i64_in _ (by omega)]; omega]
        exact ih a (m - 1) ha (by omega) (by omega) (by omega)
    · refine condF (by omega) ?_
      rw [show R / D = a by omega]
theorem rdigit_run (r : List Int) (d : List Int) (hp : canon r ∧ canon d ∧ r.length ≤ 1000000000 ∧ d.length ≤ 900000000 ∧ 0 < valD d ∧ valD r < 65536 * valD d) : ∃ fu, rdigit_f.run rdigit_e [] fu [c1 (.ints .i64 r), c1 (.ints .i64 d)] [] = some ⟨vI (valD r / valD d), []⟩ := by
  obtain ⟨h1, h2, h3, h4, h5, h6⟩ := hp
  obtain ⟨R, rfl⟩ := canon_ex h1
  obtain ⟨D, rfl⟩ := canon_ex h2
  rw [valD_bigD] at h5 h6
  rw [valD_bigD] at h6
  rw [valD_bigD, valD_bigD]
  refine ⟨65536, ?_⟩
  rw [FnD.run, rdigit_ent]
  have hq : R / D ≤ 65535 := by
    have : R / D < 65536 := Nat.div_lt_of_lt_mul (by rw [Nat.mul_comm]; omega)
    omega
  exact rdigit_loop R D h3 h4 (by omega) (by omega) 65536 0 65535 (Nat.zero_le _) hq (by omega) (by omega)
theorem rdigit_ok (r : List Int) (d : List Int) (hp : canon r ∧ canon d ∧ r.length ≤ 1000000000 ∧ d.length ≤ 900000000 ∧ 0 < valD d ∧ valD r < 65536 * valD d) : FnOk cfg 215 ([c1 (.ints .i64 r), c1 (.ints .i64 d)].map SV.den) (vI (valD r / valD d) : SV).den := by
  obtain ⟨nn, h⟩ := rdigit_run r d hp
  exact FnD.ok rdigit_g rdigit_f mixed Tryz.func215 rfl rfl rfl rfl rfl rfl h
noncomputable def c_rdigit : SpecF := fun args _ K => match args with
  | [.one (.c (.ints .i64 r)), .one (.c (.ints .i64 d))] => bif decide (canon r ∧ canon d ∧ r.length ≤ 1000000000 ∧ d.length ≤ 900000000 ∧ 0 < valD d ∧ valD r < 65536 * valD d) then K (vI (valD r / valD d)) [] else none
  | _ => none
theorem c_rdigit_ok : SpecOk cfg 215 c_rdigit := by
  intro args bx K out h
  unfold c_rdigit at h
  split at h
  · obtain ⟨hp, h⟩ := bif_some h
    exact ⟨_, _, h, .inl (rdigit_ok _ _ (of_decide_eq_true hp) _), by simp [isTupS]⟩
  · cases h
/-! ### epactref01.Div -/
noncomputable def rbdiv_e : Ev' := ⟨Tryz.prog, glob, Γof [(176, c_rtrim), (215, c_rdigit), (171, c_rword), (131, c_rbmul), (175, c_rsub), (133, c_rbneg), (136, c_rbsub)]⟩
theorem rbdiv_g : Gd cfg rbdiv_e := gd (env_cons c_rtrim_ok (env_cons c_rdigit_ok (env_cons c_rword_ok (env_cons c_rbmul_ok (env_cons c_rsub_ok (env_cons c_rbneg_ok (env_cons c_rbsub_ok (env_nil _))))))))
noncomputable def rbdiv_f : FnD := ⟨170, Tryz.f170, shOf [(0, ⟨75, [(6, ⟨.ints .i64, false, false⟩)], [(2, [.c .bool, .c (.ints .i64)]), (3, [.c .bool, .c (.ints .i64)]), (4, [.c .bool, .c .nils]), (5, [.c .bool, .c .nils])], [(2, .c (.ptr 2 0)), (3, .c (.ptr 3 0)), (4, .c (.ptr 4 0)), (5, .c (.ptr 5 0)), (6, .c (.sl 6 1)), (7, .c (.ints .i64)), (8, .c (.int .i64))]⟩)], Tryz.f170.resultTypes.toList, 0⟩
theorem rbdiv_ent (h : Hd) (s : Bool) (a : List Int) (t : Bool) (b : List Int) : rbdiv_f.ent rbdiv_e [] h [agg [.c (.bool s), .c (.ints .i64 a)], agg [.c (.bool t), .c (.ints .i64 b)]] [] = bif roomI (↑a.length : Int) (8 : Nat) then bif decide ((↑a.length : Int).toNat = (List.replicate (↑a.length : Int).toNat (0 : Int)).length) then h (0 : Nat) [Lf.l (List.replicate (↑a.length : Int).toNat (0 : Int)), Lf.b s, Lf.l a, Lf.b t, Lf.l b, Lf.b false, Lf.b false, Lf.l [], Lf.i (IntKind.i64.wrap ((↑a.length : Int) - (1 : Int)))] else none else none := by kernel_rfl
theorem rbdiv_l0 (h : Hd) (l0 : List Int) (b1 : Bool) (l2 : List Int) (b3 : Bool) (l4 : List Int) (b5 : Bool) (b6 : Bool) (l7 : List Int) (i8 : Int) : rbdiv_f.seg rbdiv_e [] h 0 [.l l0, .b b1, .l l2, .b b3, .l l4, .b b5, .b b6, .l l7, .i i8] = let v1 : List Int := [l2.getD i8.toNat (0 : Int)] ++ l7; let v2 : Nat := v1.length; let v3 : List Int := List.take ((1 : Nat) + l7.length) v1; let v4 : Nat := v3.length; let v5 : List Int := trimL v3; let v6 : Nat := v5.length; let v7 : Int := valD v5; let v8 : List Int := l0.set i8.toNat (v7 / valD l4); let v9 : Nat := v8.length; let v10 : Int := IntKind.u64.wrap (v8.getD i8.toNat (0 : Int)); let v11 : List Int := bigD v10.toNat; let v12 : Nat := v11.length; let v13 : List Int := bigD (bV false l4 * bV false v11).natAbs; let v14 : Int := valD v13; let v15 : Int := bV (decide (-bV false (trimL (List.take l0.length l0)) < (0 : Int))) (bigD (-bV false (trimL (List.take l0.length l0))).natAbs) - bV false (bigD (1 : Nat)); bif decide ((0 : Int) ≤ i8) then bif inB i8 l2.length then bif roomB ((1 : Nat) + l7.length) (8 : Nat) then bif decide ((1 : Nat) + l7.length ≤ v2) && true then bif decide (v4 ≤ (9223372036854775807 : Nat)) then bif decide (canon v5 ∧ canon l4 ∧ v6 ≤ (1000000000 : Nat) ∧ l4.length ≤ (900000000 : Nat) ∧ (0 : Int) < valD l4 ∧ v7 < (65536 : Int) * valD l4) then bif inB i8 l0.length then bif decide (i8.toNat < l0.length) then bif inB i8 l0.length then bif decide (i8.toNat < v9) then bif decide (isW v10) then bif decide (isBig false l4 ∧ isBig false v11 ∧ l4.length ≤ (1000000000 : Nat) ∧ v12 ≤ (1000000000 : Nat)) then bif decide (canon v5 ∧ canon v13 ∧ v14 ≤ v7 ∧ v6 ≤ (1000000000 : Nat)) then bif decide (l0.length = v9) then h (0 : Nat) [Lf.l v8, Lf.b b1, Lf.l l2, Lf.b b3, Lf.l l4, Lf.b b5, Lf.b b6, Lf.l (bigD (v7 - v14).toNat), Lf.i (IntKind.i64.wrap (i8 - (1 : Int)))] else none else none else none else none else none else none else none else none else none else none else none else none else none else bif decide (l0.length ≤ l0.length) && true then bif decide ((List.take l0.length l0).length ≤ (9223372036854775807 : Nat)) then bif !b1 then ret (SV.tup [S1.agg [Sg.c (Cl.bool false), Sg.c (Cl.ints IntKind.i64 (trimL (List.take l0.length l0)))], S1.agg [Sg.c (Cl.bool false), Sg.c (Cl.ints IntKind.i64 l7)]]) else bif decide (isBig false (trimL (List.take l0.length l0))) then bif decide ((↑l7.length : Int) = (0 : Int)) then ret (SV.tup [S1.agg [Sg.c (Cl.bool (decide (-bV false (trimL (List.take l0.length l0)) < (0 : Int)))), Sg.c (Cl.ints IntKind.i64 (bigD (-bV false (trimL (List.take l0.length l0))).natAbs))], S1.agg [Sg.c (Cl.bool false), Sg.c (Cl.ints IntKind.i64 l7)]]) else bif decide (isBig (decide (-bV false (trimL (List.take l0.length l0)) < (0 : Int))) (bigD (-bV false (trimL (List.take l0.length l0))).natAbs) ∧ isBig false (bigD (1 : Nat)) ∧ (bigD (-bV false (trimL (List.take l0.length l0))).natAbs).length ≤ (1000000000 : Nat) ∧ (1 : Nat) ≤ (1000000000 : Nat)) then bif decide (isBig b3 l4 ∧ isBig false l7 ∧ l4.length ≤ (1000000000 : Nat) ∧ l7.length ≤ (1000000000 : Nat)) then ret (SV.tup [S1.agg [Sg.c (Cl.bool (decide (v15 < (0 : Int)))), Sg.c (Cl.ints IntKind.i64 (bigD v15.natAbs))], S1.agg [Sg.c (Cl.bool (decide (bV b3 l4 - bV false l7 < (0 : Int)))), Sg.c (Cl.ints IntKind.i64 (bigD (bV b3 l4 - bV false l7).natAbs))]]) else none else none else none else none else none := by kernel_rfl

theorem rbdiv_loop (s t : Bool) (m D : Nat) (x y : Bool) (ht : isBig t (bigD D)) (hm : s = true → m ≠ 0) (ha : (bigD m).length ≤ 900000000) (hb : (bigD D).length ≤ 900000000) (hD : 0 < D) (htv : bV t (bigD D) = D) : ∀ (k i : Nat) (q : List Int) (R : Nat), i < k → i ≤ (bigD m).length → q.length = (bigD m).length → dgt q → R < D →
    valD ((bigD m).drop i) = valD (q.drop i) * D + R →
    rbdiv_f.H rbdiv_e [] k 0 [.l q, .b s, .l (bigD m), .b t, .l (bigD D), .b x, .b y, .l (bigD R), .i ((i : Int) - 1)] = some ⟨.tup [.agg [.c (.bool (decide ((bV s (bigD m) / D) < 0))), .c (.ints .i64 (bigD ((bV s (bigD m) / D)).natAbs))], .agg [.c (.bool (decide ((bV s (bigD m) % D) < 0))), .c (.ints .i64 (bigD ((bV s (bigD m) % D)).natAbs))]], []⟩ := by
  intro k
  induction k with
  | zero => intro i q R h; omega
  | succ k ih =>
    intro i q R hk hi hq hdq hR hT
    have hlR : (bigD R).length ≤ 900000000 := Nat.le_trans (len_lt hR) hb
    rw [FnD.H_succ, rbdiv_l0]
    dsimp only
    cases i with
    | zero =>
      simp only [List.drop_zero, valD_bigD] at hT
      rw [List.take_length, trim_bigD hdq]
      obtain ⟨Q, hQ⟩ := Int.eq_ofNat_of_zero_le (valD_nonneg hdq)
      rw [hQ] at hT ⊢
      rw [Int.toNat_natCast]
      have hD' : (0 : Int) < D := by omega
      have hlq : (bigD Q).length ≤ 1000000000 := by
        have h1 : Q < 65536 ^ q.length := by
          have := valD_lt hdq
          rw [hQ] at this
          have e : ∀ j : Nat, (65536 : Int) ^ j = ((65536 ^ j : Nat) : Int) := fun j => by rw [Int.natCast_pow]; rfl
          rw [e] at this
          exact Int.ofNat_lt.1 this
        exact Nat.le_trans (bigD_len h1) (by omega)
      refine condF (by omega) (condB (by simp) (condT (by omega) ?_))
      obtain ⟨e1, e2⟩ := quo_uniq hD' hT.symm (by omega) (by omega)
      obtain ⟨n1, n2⟩ := neg_div hD' hT.symm (by omega) (by omega)
      cases s with
      | false =>
        refine condB rfl (divR ?_ ?_ ?_ ?_)
        · rw [bVn, e1]; exact (decide_eq_false (by omega)).symm
        · rw [bVn, e1]; rfl
        · rw [bVn, e2]; exact (decide_eq_false (by omega)).symm
        · rw [bVn, e2]; rfl
      | true =>
        refine condN rfl (condT (isBn _) ?_)
        rw [bVt, n1, n2]
        have z : bV false (bigD Q) = Q := bVn Q
        rw [z]
        by_cases hR0 : R = 0
        · rw [if_pos (by omega), if_pos (by omega)]
          exact condT (by rw [hR0, bigD_0]; rfl) (divR rfl rfl (decide_eq_false (by omega)).symm (by rw [hR0]; rfl))
        · have hz : (bigD R).length ≠ 0 := fun e => hR0 (bigD_nil.1 (List.length_eq_zero_iff.1 e))
          refine condF (by omega) (condT ⟨(isBig_mk _).1, isBn 1, by rw [show (-(Q : Int)).natAbs = Q by omega]; exact hlq, by omega⟩ (condT ⟨ht, isBn _, by omega, by omega⟩ ?_))
          rw [bV_mk, show bV false (bigD 1) = 1 from bVn 1, htv, bVn]
          rw [if_neg (by omega), if_neg (by omega)]
    | succ j =>
      have w1 : IntKind.i64.wrap (((j + 1 : Nat) : Int) - 1 - 1) = (j : Int) - 1 := by rw [IntWalk.i64_in _ (by omega)]; omega
      rw [w1, show ((j + 1 : Nat) : Int) - 1 = (j : Int) by omega, Int.toNat_natCast]
      have hg := dgt_getD (dgt_bigD m) j
      generalize hx : (bigD m).getD j 0 = xd at *
      have hdr : dgt ([xd] ++ bigD R) := by
        intro d hd
        rcases List.mem_append.1 hd with hd | hd
        · simp at hd; subst hd; exact hg
        · exact dgt_bigD R d hd
      have hv : valD ([xd] ++ bigD R) = ((xd.toNat + 65536 * R : Nat) : Int) := by
        show xd + 65536 * valD (bigD R) = _
        rw [valD_bigD]; omega
      have et : List.take (1 + (bigD R).length) ([xd] ++ bigD R) = [xd] ++ bigD R := List.take_of_length_le (by simp; omega)
      rw [et, trim_bigD hdr, hv, Int.toNat_natCast, valD_bigD, valD_bigD]
      generalize hr' : xd.toNat + 65536 * R = r' at *
      have hr1 : r' < 65536 * D := by omega
      have hdig : r' / D < 65536 := Nat.div_lt_of_lt_mul (by rw [Nat.mul_comm]; omega)
      have hlr : (bigD r').length ≤ 900000001 := by
        have h1 : D < 65536 ^ (bigD D).length := by
          have := valD_lt (dgt_bigD D)
          rw [valD_bigD] at this
          have e : ∀ j : Nat, (65536 : Int) ^ j = ((65536 ^ j : Nat) : Int) := fun j => by rw [Int.natCast_pow]; rfl
          rw [e] at this
          exact Int.ofNat_lt.1 this
        have h2 : r' < 65536 ^ ((bigD D).length + 1) := by rw [Nat.pow_succ]; omega
        exact Nat.le_trans (bigD_len h2) (by omega)
      have eq : ((r' : Nat) : Int) / D = ((r' / D : Nat) : Int) := rfl
      have hmod := Nat.div_add_mod r' D
      have hlt := Nat.mod_lt r' hD
      rw [eq]
      have e4 : ((r' : Int) - ((D * (r' / D) : Nat) : Int)).toNat = r' % D := by omega
      generalize r' / D = dg at *
      generalize r' % D = md at *
      have hjq : j < q.length := by omega
      rw [getD_set hjq, if_pos rfl]
      have w2 : IntKind.u64.wrap (dg : Int) = (dg : Int) := by rw [u64w]; omega
      rw [w2, Int.toNat_natCast]
      have e3 : (bV false (bigD D) * bV false (bigD dg)).natAbs = D * dg := by rw [bVn, bVn, Int.natAbs_mul]; rfl
      rw [e3, valD_bigD]
      rw [e4]
      refine condT (by omega) (condB ((inB_iff _ _).2 (by omega)) (condB (room_ok2 (by omega)) (condB (by simp; omega) (condT (by simp; omega) (condT ⟨canon_bigD _, canon_bigD _, by omega, by omega, by omega, by omega⟩ (condB ((inB_iff _ _).2 (by omega)) (condT (by omega) (condB ((inB_iff _ _).2 (by omega)) (condT (by simp; omega) (condT ⟨by omega, by omega⟩ (condT ⟨isBn _, isBn _, by omega, lenBg (by omega)⟩ (condT ⟨canon_bigD _, canon_bigD _, by omega, by omega⟩ (condT (by simp) ?_)))))))))))))
      refine ih j _ md (by omega) (by omega) (by simp [hq]) (dgt_set hdq (by omega)) hlt ?_
      rw [drop_val, hx, hT, drop_set hjq]
      have : (xd : Int) + 65536 * R = r' := by omega
      have h5 : ((r' : Nat) : Int) = (dg : Int) * D + md := by
        have := congrArg (Nat.cast (R := Int)) hmod
        rw [Int.natCast_add, Int.natCast_mul, Int.mul_comm] at this
        exact this.symm
      rw [Int.add_mul, Int.mul_assoc 65536, Int.mul_add]
      omega
theorem rbdiv_run (s : Bool) (a : List Int) (t : Bool) (b : List Int) (hp : isBig s a ∧ isBig t b ∧ a.length ≤ 900000000 ∧ b.length ≤ 900000000 ∧ 0 < bV t b) : ∃ fu, rbdiv_f.run rbdiv_e [] fu [agg [.c (.bool s), .c (.ints .i64 a)], agg [.c (.bool t), .c (.ints .i64 b)]] [] = some ⟨.tup [.agg [.c (.bool (decide ((bV s a / bV t b) < 0))), .c (.ints .i64 (bigD ((bV s a / bV t b)).natAbs))], .agg [.c (.bool (decide ((bV s a % bV t b) < 0))), .c (.ints .i64 (bigD ((bV s a % bV t b)).natAbs))]], []⟩ := by
  obtain ⟨p1, p2, p3, p4, p5⟩ := hp
  obtain ⟨m, rfl, m2, m3⟩ := big_sgn p1
  obtain ⟨D, rfl, n2, n3⟩ := big_sgn p2
  have htv : bV t (bigD D) = D := by
    rw [n3] at p5 ⊢
    cases t
    · rfl
    · simp at p5
      omega
  rw [htv] at p5 ⊢
  refine ⟨(bigD m).length + 1, ?_⟩
  rw [FnD.run, rbdiv_ent]
  refine condB (by unfold roomI; simp only [Bool.and_eq_true, decide_eq_true_eq]; omega) (condT (by simp) ?_)
  rw [Int.toNat_natCast, IntWalk.i64_in _ (by omega)]
  have e0 : valD ((bigD m).drop (bigD m).length) = valD ((List.replicate (bigD m).length (0 : Int)).drop (bigD m).length) * D + ((0 : Nat) : Int) := by
    rw [List.drop_length, List.drop_eq_nil_of_le (by simp)]; simp [valD]
  have := rbdiv_loop s t m D false false p2 m2 p3 p4 (by omega) htv ((bigD m).length + 1) (bigD m).length (List.replicate (bigD m).length 0) 0 (by omega) (by omega) (by simp) (dgt_zeros _) (by omega) e0
  rw [bigD_0] at this
  exact this
theorem rbdiv_ok (s : Bool) (a : List Int) (t : Bool) (b : List Int) (hp : isBig s a ∧ isBig t b ∧ a.length ≤ 900000000 ∧ b.length ≤ 900000000 ∧ 0 < bV t b) : FnOk cfg 170 ([agg [.c (.bool s), .c (.ints .i64 a)], agg [.c (.bool t), .c (.ints .i64 b)]].map SV.den) (.tup [.agg [.c (.bool (decide ((bV s a / bV t b) < 0))), .c (.ints .i64 (bigD ((bV s a / bV t b)).natAbs))], .agg [.c (.bool (decide ((bV s a % bV t b) < 0))), .c (.ints .i64 (bigD ((bV s a % bV t b)).natAbs))]] : SV).den := by
  obtain ⟨nn, h⟩ := rbdiv_run s a t b hp
  exact FnD.ok rbdiv_g rbdiv_f mixed Tryz.func170 rfl rfl rfl rfl rfl rfl h
noncomputable def c_rbdiv : SpecF := fun args _ K => match args with
  | [.one (.agg [.c (.bool s), .c (.ints .i64 a)]), .one (.agg [.c (.bool t), .c (.ints .i64 b)])] => bif decide (isBig s a ∧ isBig t b ∧ a.length ≤ 900000000 ∧ b.length ≤ 900000000 ∧ 0 < bV t b) then K (.tup [.agg [.c (.bool (decide ((bV s a / bV t b) < 0))), .c (.ints .i64 (bigD ((bV s a / bV t b)).natAbs))], .agg [.c (.bool (decide ((bV s a % bV t b) < 0))), .c (.ints .i64 (bigD ((bV s a % bV t b)).natAbs))]]) [] else none
  | _ => none
theorem c_rbdiv_ok : SpecOk cfg 170 c_rbdiv := by
  intro args bx K out h
  unfold c_rbdiv at h
  split at h
  · obtain ⟨hp, h⟩ := bif_some h
    exact ⟨_, _, h, .inl (rbdiv_ok _ _ _ _ (of_decide_eq_true hp) _), by simp [isTupS]⟩
  · cases h
/-! ### epactref04.Text -/
noncomputable def rtext_e : Ev' := ⟨Tryz.prog, glob, Γof [(132, c_rbint), (170, c_rbdiv)]⟩
theorem rtext_g : Gd cfg rtext_e := gd (env_cons c_rbint_ok (env_cons c_rbdiv_ok (env_nil _)))
noncomputable def rtext_f : FnD := ⟨127, Tryz.f127, shOf [(0, ⟨47, [], [(1, [.c .bool, .c (.ints .i64)]), (41, [.c .bool, .c (.ints .i64)])], [(1, .c (.ptr 1 0)), (3, .c (.str)), (4, .c (.ptr 41 0))]⟩)], Tryz.f127.resultTypes.toList, 0⟩
theorem rtext_ent (h : Hd) (s : Bool) (a : List Int) : rtext_f.ent rtext_e [] h [agg [.c (.bool s), .c (.ints .i64 a)]] [] = bif decide ((↑a.length : Int) = (0 : Int)) then ret (vS (tx [48])) else h (0 : Nat) [Lf.b s, Lf.l a, Lf.b false, Lf.l a, Lf.s (tx [])] := by kernel_rfl
theorem rtext_l0 (h : Hd) (b0 : Bool) (l1 : List Int) (b2 : Bool) (l3 : List Int) (s4 : ByteArray) : rtext_f.seg rtext_e [] h 0 [.b b0, .l l1, .b b2, .l l3, .s s4] = let v1 : ByteArray := textOf [IntKind.u8.wrap (IntKind.i64.wrap ((48 : Int) + (bigD (bV b2 l3 % bV false (bigD (10 : Nat))).natAbs).getD (0 : Nat) (0 : Int)))]; let v2 : Nat := v1.size + s4.size; bif decide ((0 : Int) < (↑l3.length : Int)) then bif decide (isBig b2 l3 ∧ isBig false (bigD (10 : Nat)) ∧ l3.length ≤ (900000000 : Nat) ∧ (1 : Nat) ≤ (900000000 : Nat) ∧ (0 : Int) < bV false (bigD (10 : Nat))) then bif decide ((0 : Int) < (↑(bigD (bV b2 l3 % bV false (bigD (10 : Nat))).natAbs).length : Int)) then bif inB (0 : Int) (bigD (bV b2 l3 % bV false (bigD (10 : Nat))).natAbs).length then bif decide (v2 ≤ (9223372036854775807 : Nat)) then h (0 : Nat) [Lf.b b0, Lf.l l1, Lf.b (decide (bV b2 l3 / bV false (bigD (10 : Nat)) < (0 : Int))), Lf.l (bigD (bV b2 l3 / bV false (bigD (10 : Nat))).natAbs), Lf.s (v1 ++ s4)] else none else none else bif decide ((1 : Nat) + s4.size ≤ (9223372036854775807 : Nat)) then h (0 : Nat) [Lf.b b0, Lf.l l1, Lf.b (decide (bV b2 l3 / bV false (bigD (10 : Nat)) < (0 : Int))), Lf.l (bigD (bV b2 l3 / bV false (bigD (10 : Nat))).natAbs), Lf.s (textOf [IntKind.u8.wrap (IntKind.i64.wrap ((48 : Int) + (0 : Int)))] ++ s4)] else none else none else bif b0 then bif decide ((1 : Nat) + s4.size ≤ (9223372036854775807 : Nat)) then ret (vS ((tx [45]) ++ s4)) else none else ret (vS s4) := by kernel_rfl

theorem rtext_loop (s : Bool) (a : List Int) (N : Nat) (hN : N < 10 ^ 40) (h0 : N ≠ 0) : ∀ (k : Nat) (u : Bool) (M : Nat) (S : List UInt8), M < k → (u = true → M ≠ 0) → bV u (bigD M) = M → Lib.decDigits N = (if M = 0 then S else Lib.decDigits M ++ S) → M ≤ N →
    rtext_f.H rtext_e [] k 0 [.b s, .l a, .b u, .l (bigD M), .s (tx S)] = ret (vS (tx (if s then 45 :: Lib.decDigits N else Lib.decDigits N))) := by
  intro k
  induction k with
  | zero => intro u M S h; omega
  | succ k ih =>
    intro u M S hk hu hv hS hMN
    have hlen := dec_len (k := 39) hN
    have hSl : S.length ≤ 40 := by
      rw [hS] at hlen
      split at hlen
      · exact hlen
      · rw [List.length_append] at hlen; omega
    rw [FnD.H_succ, rtext_l0]
    dsimp only
    rw [hv, show bV false (bigD 10) = 10 from bVn 10, tx_size]
    have hz := big_pos M
    by_cases hM : M = 0
    · subst hM
      rw [if_pos rfl] at hS
      refine condF (by rw [bigD_0]; simp) ?_
      rw [hS]
      cases s with
      | false => rfl
      | true =>
        refine condB rfl (condT (by omega) ?_)
        rw [if_pos rfl, tx_append]; rfl
    · have e1 : ((M : Int) % 10).natAbs = M % 10 := by omega
      have e2 : ((M : Int) / 10).natAbs = M / 10 := by omega
      rw [e1, e2, bigD_one (show M % 10 < 65536 by omega)]
      have w : IntKind.u8.wrap (IntKind.i64.wrap (48 + ((M % 10 : Nat) : Int))) = ((48 + M % 10 : Nat) : Int) := by rw [IntWalk.i64_in _ (by omega), IntWalk.u8_in _ (by omega)]; omega
      rw [w, textOf_one _ (by omega)]
      have next : rtext_f.H rtext_e [] k 0 [.b s, .l a, .b (decide ((M : Int) / 10 < 0)), .l (bigD (M / 10)), .s (tx [UInt8.ofNat (48 + M % 10)] ++ tx S)] = ret (vS (tx (if s then 45 :: Lib.decDigits N else Lib.decDigits N))) := by
        rw [tx_append]
        refine ih _ (M / 10) _ (by omega) (fun h => by have := of_decide_eq_true h; omega) (by rw [decide_eq_false (by omega), bVn]) ?_ (by omega)
        rw [hS, if_neg hM]
        by_cases h10 : M < 10
        · rw [if_pos (by omega), dec_small h10, show M % 10 = M by omega]
        · rw [if_neg (by omega), dec_big h10, List.append_assoc]
      refine condT (hz.2 hM) (condT ⟨⟨canon_bigD _, fun h => fun e => hu h (bigD_nil.1 e)⟩, isBn 10, ?_, by omega, by omega⟩ ?_)
      · exact Nat.le_trans (bigD_len (k := 40) (Nat.lt_of_lt_of_le (show M < 10 ^ 40 by omega) (by decide))) (by omega)
      have hz2 := big_pos (M % 10)
      by_cases hd : M % 10 = 0
      · refine condF (fun h => hz2.1 h hd) (condT (by omega) ?_)
        have w0 : IntKind.u8.wrap (IntKind.i64.wrap (48 + 0)) = ((48 + M % 10 : Nat) : Int) := by rw [hd]; rfl
        rw [w0, textOf_one _ (by omega)]
        exact next
      · have h1 := hz2.2 hd
        refine condT h1 (condB ((inB_iff _ _).2 (by omega)) (condT (by rw [tx_size]; simp; omega) next))
theorem rtext_run (s : Bool) (a : List Int) (hp : isBig s a ∧ isI (bV s a)) : ∃ fu, rtext_f.run rtext_e [] fu [agg [.c (.bool s), .c (.ints .i64 a)]] [] = some ⟨vS (tx (Lib.itoa (bV s a))), []⟩ := by
  obtain ⟨p1, p2⟩ := hp
  obtain ⟨m, rfl, m2, m3⟩ := big_sgn p1
  rw [m3] at p2 ⊢
  unfold isI at p2
  by_cases h0 : m = 0
  · subst h0
    refine ⟨0, ?_⟩
    rw [FnD.run, rtext_ent]
    refine condT (by rw [bigD_0]; rfl) ?_
    have : s = false := by cases s; rfl; exact absurd rfl (m2 rfl)
    subst this
    simp only [Bool.false_eq_true, if_false]
    rw [itoa_pos (by omega), show ((0 : Nat) : Int).toNat = 0 from rfl, dec_small (by omega)]; rfl
  · have hm : m < 10 ^ 40 := by
      split at p2 <;> omega
    refine ⟨m + 1, ?_⟩
    rw [FnD.run, rtext_ent]
    have hz := (big_pos m).2 h0
    refine condF (by omega) ?_
    have := rtext_loop s (bigD m) m hm h0 (m + 1) false m [] (by omega) (by simp) (bVn m) (by rw [if_neg h0, List.append_nil]) (Nat.le_refl _)
    refine this.trans ?_
    cases s with
    | true => simp only [if_true]; rw [itoa_neg (by omega), show (-(-(m : Int))).toNat = m by omega]
    | false => simp only [Bool.false_eq_true, if_false]; rw [itoa_pos (by omega), Int.toNat_natCast]
theorem rtext_ok (s : Bool) (a : List Int) (hp : isBig s a ∧ isI (bV s a)) : FnOk cfg 127 ([agg [.c (.bool s), .c (.ints .i64 a)]].map SV.den) (vS (tx (Lib.itoa (bV s a))) : SV).den := by
  obtain ⟨nn, h⟩ := rtext_run s a hp
  exact FnD.ok rtext_g rtext_f mixed Tryz.func127 rfl rfl rfl rfl rfl rfl h
noncomputable def c_rtext : SpecF := fun args _ K => match args with
  | [.one (.agg [.c (.bool s), .c (.ints .i64 a)])] => bif decide (isBig s a ∧ isI (bV s a)) then K (vS (tx (Lib.itoa (bV s a)))) [] else none
  | _ => none
theorem c_rtext_ok : SpecOk cfg 127 c_rtext := by
  intro args bx K out h
  unfold c_rtext at h
  split at h
  · obtain ⟨hp, h⟩ := bif_some h
    exact ⟨_, _, h, .inl (rtext_ok _ _ (of_decide_eq_true hp) _), by simp [isTupS]⟩
  · cases h
/-! ### epactref04.Number -/
end Go.Proofs.YtldofkogmkfpjaaGreatDoor
