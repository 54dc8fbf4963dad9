/-
  The contracts of the document's whole numbers (epactref01), second part.
-/
import Derived.Test.YtldofkogmkfpjaaGreatDoorWZzSyRef01
import Derived.Test.YtldofkogmkfpjaaGreatDoorWPBig
import Derived.Test.YtldofkogmkfpjaaGreatDoorWPLex
namespace Go.Proofs.YtldofkogmkfpjaaGreatDoor
open Go Go.Ev Go.Sy
set_option linter.unusedSimpArgs false
set_option linter.unusedVariables false
set_option maxRecDepth 10000
set_option maxHeartbeats 4000000

theorem bigE {v w : Int} (h : v = w) : (ret (.one (.agg [.c (.bool (decide (v < 0))), .c (.ints .i64 (bigD (v).natAbs))]))) = some ⟨.one (.agg [.c (.bool (decide (w < 0))), .c (.ints .i64 (bigD (w).natAbs))]), []⟩ := by rw [h]
/-! ### epactref01.Int -/
noncomputable def rbint_e : Ev' := ⟨Tryz.prog, glob, Γof [(171, c_rword), (130, c_rbadd), (133, c_rbneg)]⟩
theorem rbint_g : Gd cfg rbint_e := gd (env_cons c_rword_ok (env_cons c_rbadd_ok (env_cons c_rbneg_ok (env_nil _))))
noncomputable def rbint_f : FnD := ⟨132, Tryz.f132, noSh, Tryz.f132.resultTypes.toList, 0⟩
theorem rbint_ent (h : Hd) (n : Int) : rbint_f.ent rbint_e [] h [vI n] [] = let v1 : Int := IntKind.u64.wrap (IntKind.i64.wrap ((0 : Int) - IntKind.i64.wrap (n + (1 : Int)))); let v2 : List Int := bigD v1.toNat; let v3 : Nat := v2.length; let v4 : Int := bV false v2 + bV false (bigD (1 : Nat)); let v5 : List Int := bigD v4.natAbs; let v6 : Int := -bV (decide (v4 < (0 : Int))) v5; bif decide ((0 : Int) ≤ n) then bif decide (isW (IntKind.u64.wrap n)) then ret (agg [Sg.c (Cl.bool false), Sg.c (Cl.ints IntKind.i64 (bigD (IntKind.u64.wrap n).toNat))]) else none else bif decide (isW v1) then bif decide (isBig false v2 ∧ isBig false (bigD (1 : Nat)) ∧ v3 ≤ (1000000000 : Nat) ∧ (1 : Nat) ≤ (1000000000 : Nat)) then bif decide (isBig (decide (v4 < (0 : Int))) v5) then ret (agg [Sg.c (Cl.bool (decide (v6 < (0 : Int)))), Sg.c (Cl.ints IntKind.i64 (bigD v6.natAbs))]) else none else none else none := by kernel_rfl
theorem rbint_run (n : Int) (hp : isH n) : ∃ fu, rbint_f.run rbint_e [] fu [vI n] [] = some ⟨.one (.agg [.c (.bool (decide (n < 0))), .c (.ints .i64 (bigD (n).natAbs))]), []⟩ := by
  refine ⟨0, ?_⟩
  rw [FnD.run, rbint_ent]
  have hp' := hp
  unfold isH at hp'
  dsimp only
  by_cases h : 0 ≤ n
  · have w : IntKind.u64.wrap n = n := by rw [u64w]; omega
    rw [w]
    refine condT h (condT ⟨by omega, by omega⟩ (bigR ?_ ?_))
    · exact (decide_eq_false (by omega)).symm
    · congr 1; omega
  · have w1 : IntKind.i64.wrap (n + 1) = n + 1 := IntWalk.i64_in _ (by omega)
    have w2 : IntKind.i64.wrap (0 - (n + 1)) = -(n + 1) := by rw [IntWalk.i64_in _ (by omega)]; omega
    have w3 : IntKind.u64.wrap (-(n + 1)) = -(n + 1) := by rw [u64w]; omega
    rw [w1, w2, w3]
    refine condF h (condT ⟨by omega, by omega⟩ (condT ⟨isBn _, isBn 1, lenBg (by omega), by omega⟩ (condT (isBig_mk _).1 (bigE ?_))))
    rw [bV_mk, bVn, show bV false (bigD 1) = 1 from bVn 1]
    omega
theorem rbint_ok (n : Int) (hp : isH n) : FnOk cfg 132 ([vI n].map SV.den) (.one (.agg [.c (.bool (decide (n < 0))), .c (.ints .i64 (bigD (n).natAbs))]) : SV).den := by
  obtain ⟨nn, h⟩ := rbint_run n hp
  exact FnD.ok rbint_g rbint_f mixed Tryz.func132 rfl rfl rfl rfl rfl rfl h
noncomputable def c_rbint : SpecF := fun args _ K => match args with
  | [.one (.c (.int .i64 n))] => bif decide (isH n) then K (.one (.agg [.c (.bool (decide (n < 0))), .c (.ints .i64 (bigD (n).natAbs))])) [] else none
  | _ => none
theorem c_rbint_ok : SpecOk cfg 132 c_rbint := by
  intro args bx K out h
  unfold c_rbint at h
  split at h
  · obtain ⟨hp, h⟩ := bif_some h
    exact ⟨_, _, h, .inl (rbint_ok _ (of_decide_eq_true hp) _), by simp [isTupS]⟩
  · cases h
/-! ### epactref01.Pow2 -/
noncomputable def rpow2_e : Ev' := ⟨Tryz.prog, glob, Γof []⟩
theorem rpow2_g : Gd cfg rpow2_e := gd (env_nil _)
noncomputable def rpow2_f : FnD := ⟨135, Tryz.f135, noSh, Tryz.f135.resultTypes.toList, 0⟩
theorem rpow2_ent (h : Hd) (n : Int) : rpow2_f.ent rpow2_e [] h [vI n] [] = let v1 : List Int := List.replicate (IntKind.i64.wrap (IntKind.i64.wrap (n.tdiv (16 : Int)) + (1 : Int))).toNat (0 : Int); let v2 : Nat := v1.length; let v3 : List Int := v1.set (IntKind.i64.wrap (n.tdiv (16 : Int))).toNat (shlI IntKind.i64 (1 : Int) (IntKind.u64.wrap (n.tmod (16 : Int)))); let v4 : Nat := v3.length; bif roomI (IntKind.i64.wrap (IntKind.i64.wrap (n.tdiv (16 : Int)) + (1 : Int))) (8 : Nat) then bif decide ((0 : Int) ≤ IntKind.u64.wrap (n.tmod (16 : Int))) then bif inB (IntKind.i64.wrap (n.tdiv (16 : Int))) (IntKind.i64.wrap (IntKind.i64.wrap (n.tdiv (16 : Int)) + (1 : Int))).toNat then bif decide ((IntKind.i64.wrap (n.tdiv (16 : Int))).toNat < v2) then bif decide ((IntKind.i64.wrap (IntKind.i64.wrap (n.tdiv (16 : Int)) + (1 : Int))).toNat ≤ v4) && true && true then ret (agg [Sg.c (Cl.bool false), Sg.c (Cl.ints IntKind.i64 (List.take (IntKind.i64.wrap (IntKind.i64.wrap (n.tdiv (16 : Int)) + (1 : Int))).toNat v3))]) else none else none else none else none else none := by kernel_rfl
theorem rpow2_run (n : Int) (hp : 0 ≤ n ∧ n ≤ 1000) : ∃ fu, rpow2_f.run rpow2_e [] fu [vI n] [] = some ⟨agg [.c (.bool false), .c (.ints .i64 (bigD (2 ^ n.toNat)))], []⟩ := by
  refine ⟨0, ?_⟩
  rw [FnD.run, rpow2_ent]
  obtain ⟨k, rfl⟩ := Int.eq_ofNat_of_zero_le hp.1
  have hk : k ≤ 1000 := by omega
  have w1 : IntKind.i64.wrap ((k : Int).tdiv 16) = ((k / 16 : Nat) : Int) := by rw [IntWalk.i64_quo _ _ ⟨by omega, by omega, by omega⟩]; omega
  have w2 : IntKind.i64.wrap (((k / 16 : Nat) : Int) + 1) = ((k / 16 + 1 : Nat) : Int) := by rw [IntWalk.i64_in _ (by omega)]; omega
  have w3 : IntKind.u64.wrap ((k : Int).tmod 16) = ((k % 16 : Nat) : Int) := by rw [IntWalk.rem_in _ _ (by omega), u64w]; omega
  dsimp only
  rw [w1, w2, w3, Int.toNat_natCast, Int.toNat_natCast, set_last]
  have hx : shlI .i64 1 ((k % 16 : Nat) : Int) = 2 ^ (k % 16) := by
    have hb : (2 : Int) ^ (k % 16) ≤ 2 ^ 15 := by
      have := Nat.pow_le_pow_right (n := 2) (by omega) (show k % 16 ≤ 15 by omega)
      have e : ∀ j : Nat, (2 : Int) ^ j = ((2 ^ j : Nat) : Int) := fun j => by rw [Int.natCast_pow]; rfl
      rw [e, e]; exact Int.ofNat_le.2 this
    have hb0 : (0 : Int) < 2 ^ (k % 16) := Int.pow_pos (by omega)
    have e15 : (2 : Int) ^ 15 = 32768 := rfl
    rw [shl_n 1 (k % 16) (by have : IntKind.bits .i64 = 64 := rfl
                             omega), Int.one_mul, IntWalk.i64_in _ (by omega)]
  rw [hx]
  have hb : (0 : Int) < 2 ^ (k % 16) ∧ (2 : Int) ^ (k % 16) < 65536 := by
    have := Nat.pow_le_pow_right (n := 2) (by omega) (show k % 16 ≤ 15 by omega)
    have e : ∀ j : Nat, (2 : Int) ^ j = ((2 ^ j : Nat) : Int) := fun j => by rw [Int.natCast_pow]; rfl
    have h2 := Int.ofNat_le.2 this
    rw [← e, ← e] at h2
    have e15 : (2 : Int) ^ 15 = 32768 := rfl
    have : (0 : Int) < 2 ^ (k % 16) := Int.pow_pos (by omega)
    omega
  refine condB (by unfold roomI; simp only [Bool.and_eq_true, decide_eq_true_eq]; omega) (condT (by omega) (condB ((inB_iff _ _).2 (by omega)) (condT (by simp) (condB (by simp) ?_))))
  have e := bigD_pow2 (k / 16) (2 ^ (k % 16)) hb
  have e2 : ((65536 : Int) ^ (k / 16) * 2 ^ (k % 16)).toNat = 2 ^ k := by
    have : (65536 : Int) ^ (k / 16) * 2 ^ (k % 16) = ((2 ^ k : Nat) : Int) := by
      rw [show (65536 : Int) = 2 ^ 16 from rfl, ← Int.pow_mul, ← Int.pow_add, show 16 * (k / 16) + k % 16 = k by omega, Int.natCast_pow]; rfl
    rw [this, Int.toNat_natCast]
  rw [e2] at e
  rw [Int.toNat_natCast, e, List.take_of_length_le (by simp)]
theorem rpow2_ok (n : Int) (hp : 0 ≤ n ∧ n ≤ 1000) : FnOk cfg 135 ([vI n].map SV.den) (agg [.c (.bool false), .c (.ints .i64 (bigD (2 ^ n.toNat)))] : SV).den := by
  obtain ⟨nn, h⟩ := rpow2_run n hp
  exact FnD.ok rpow2_g rpow2_f mixed Tryz.func135 rfl rfl rfl rfl rfl rfl h
noncomputable def c_rpow2 : SpecF := fun args _ K => match args with
  | [.one (.c (.int .i64 n))] => bif decide (0 ≤ n ∧ n ≤ 1000) then K (agg [.c (.bool false), .c (.ints .i64 (bigD (2 ^ n.toNat)))]) [] else none
  | _ => none
theorem c_rpow2_ok : SpecOk cfg 135 c_rpow2 := by
  intro args bx K out h
  unfold c_rpow2 at h
  split at h
  · obtain ⟨hp, h⟩ := bif_some h
    exact ⟨_, _, h, .inl (rpow2_ok _ (of_decide_eq_true hp) _), by simp [isTupS]⟩
  · cases h
/-! ### epactref01.Of -/
/-! ### epactref01.Cmp -/
noncomputable def rbcmp_e : Ev' := ⟨Tryz.prog, glob, Γof [(174, c_rcmp)]⟩
theorem rbcmp_g : Gd cfg rbcmp_e := gd (env_cons c_rcmp_ok (env_nil _))
noncomputable def rbcmp_f : FnD := ⟨134, Tryz.f134, noSh, Tryz.f134.resultTypes.toList, 0⟩
theorem rbcmp_ent (h : Hd) (s : Bool) (a : List Int) (t : Bool) (b : List Int) : rbcmp_f.ent rbcmp_e [] h [agg [.c (.bool s), .c (.ints .i64 a)], agg [.c (.bool t), .c (.ints .i64 b)]] [] = bif s != t then bif s then ret (vI (-1 : Int)) else ret (vI (1 : Int)) else bif s then bif decide (canon b ∧ canon a ∧ b.length ≤ (9223372036854775807 : Nat) ∧ a.length ≤ (9223372036854775807 : Nat)) then ret (vI (cmpV (valD b) (valD a))) else none else bif decide (canon a ∧ canon b ∧ a.length ≤ (9223372036854775807 : Nat) ∧ b.length ≤ (9223372036854775807 : Nat)) then ret (vI (cmpV (valD a) (valD b))) else none := by kernel_rfl

theorem retI {a b : Int} (h : a = b) : (ret (vI a)) = some ⟨vI b, []⟩ := by rw [h]
theorem rbcmp_run (s : Bool) (a : List Int) (t : Bool) (b : List Int) (hp : isBig s a ∧ isBig t b ∧ a.length ≤ 1000000000 ∧ b.length ≤ 1000000000) : ∃ fu, rbcmp_f.run rbcmp_e [] fu [agg [.c (.bool s), .c (.ints .i64 a)], agg [.c (.bool t), .c (.ints .i64 b)]] [] = some ⟨vI (cmpV (bV s a) (bV t b)), []⟩ := by
  refine ⟨0, ?_⟩
  rw [FnD.run, rbcmp_ent]
  obtain ⟨p1, p2, p3, p4⟩ := hp
  have ca := p1.1
  have cb := p2.1
  obtain ⟨m, rfl, m2, m3⟩ := big_sgn p1
  obtain ⟨n, rfl, n2, n3⟩ := big_sgn p2
  rw [m3, n3, valD_bigD, valD_bigD]
  cases s with
  | true =>
    have := m2 rfl
    cases t with
    | true => exact condN rfl (condB rfl (condT ⟨cb, ca, by omega, by omega⟩ (retI (by unfold cmpV; simp only [if_true]; split <;> split <;> (try split) <;> (try split) <;> omega))))
    | false => exact condB rfl (condB rfl (retI (by unfold cmpV; simp; omega)))
  | false =>
    cases t with
    | true =>
      have := n2 rfl
      exact condB rfl (condN rfl (retI (by unfold cmpV; simp; omega)))
    | false => exact condN rfl (condN rfl (condT ⟨ca, cb, by omega, by omega⟩ (retI (by simp))))
theorem rbcmp_ok (s : Bool) (a : List Int) (t : Bool) (b : List Int) (hp : isBig s a ∧ isBig t b ∧ a.length ≤ 1000000000 ∧ b.length ≤ 1000000000) : FnOk cfg 134 ([agg [.c (.bool s), .c (.ints .i64 a)], agg [.c (.bool t), .c (.ints .i64 b)]].map SV.den) (vI (cmpV (bV s a) (bV t b)) : SV).den := by
  obtain ⟨nn, h⟩ := rbcmp_run s a t b hp
  exact FnD.ok rbcmp_g rbcmp_f mixed Tryz.func134 rfl rfl rfl rfl rfl rfl h
noncomputable def c_rbcmp : SpecF := fun args _ K => match args with
  | [.one (.agg [.c (.bool s), .c (.ints .i64 a)]), .one (.agg [.c (.bool t), .c (.ints .i64 b)])] => bif decide (isBig s a ∧ isBig t b ∧ a.length ≤ 1000000000 ∧ b.length ≤ 1000000000) then K (vI (cmpV (bV s a) (bV t b))) [] else none
  | _ => none
theorem c_rbcmp_ok : SpecOk cfg 134 c_rbcmp := by
  intro args bx K out h
  unfold c_rbcmp at h
  split at h
  · obtain ⟨hp, h⟩ := bif_some h
    exact ⟨_, _, h, .inl (rbcmp_ok _ _ _ _ (of_decide_eq_true hp) _), by simp [isTupS]⟩
  · cases h
/-! ### epactref01.word -/
noncomputable def rwrd_e : Ev' := ⟨Tryz.prog, glob, Γof []⟩
theorem rwrd_g : Gd cfg rwrd_e := gd (env_nil _)
noncomputable def rwrd_f : FnD := ⟨137, Tryz.f137, shOf [(0, ⟨29, [], [], [(0, .c (.ints .i64)), (1, .c (.int .i64)), (5, .c (.int .u64)), (6, .c (.int .i64))]⟩)], Tryz.f137.resultTypes.toList, 0⟩
theorem rwrd_ent (h : Hd) (l : List Int) (i : Int) : rwrd_f.ent rwrd_e [] h [c1 (.ints .i64 l), vI i] [] = h (0 : Nat) [Lf.l l, Lf.i i, Lf.i (0 : Int), Lf.i (3 : Int)] := by kernel_rfl
theorem rwrd_l0 (h : Hd) (l : List Int) (p : Int) (n : Int) (k : Int) : rwrd_f.seg rwrd_e [] h 0 [.l l, .i p, .i n, .i k] = bif decide ((0 : Int) ≤ k) then bif decide (IntKind.i64.wrap (p + k) < (↑l.length : Int)) then bif inB (IntKind.i64.wrap (p + k)) l.length then h (0 : Nat) [Lf.l l, Lf.i p, Lf.i (IntKind.u64.wrap (shlI IntKind.u64 n (16 : Int) + IntKind.u64.wrap (l.getD (IntKind.i64.wrap (p + k)).toNat (0 : Int)))), Lf.i (IntKind.i64.wrap (k - (1 : Int)))] else none else h (0 : Nat) [Lf.l l, Lf.i p, Lf.i (shlI IntKind.u64 n (16 : Int)), Lf.i (IntKind.i64.wrap (k - (1 : Int)))] else ret (SV.one (tU n)) := by kernel_rfl

theorem rwrd_step (f : Nat) (l : List Int) (i j : Nat) (n k : Int) (hk : k = j) (hd : dgt l) (hl : l.length ≤ 1000000000) (hi : i ≤ 1000) (hj : j ≤ 3) (h0 : 0 ≤ n) (h1 : n < 281474976710656) :
    rwrd_f.H rwrd_e [] (f + 1) 0 [.l l, .i i, .i n, .i k] = rwrd_f.H rwrd_e [] f 0 [.l l, .i i, .i (n * 65536 + l.getD (i + j) 0), .i (k - 1)] := by
  subst hk
  have hg := dgt_getD hd (i + j)
  have w1 : IntKind.i64.wrap ((i : Int) + j) = ((i + j : Nat) : Int) := by rw [IntWalk.i64_in _ (by omega)]; omega
  have w2 : IntKind.i64.wrap ((j : Int) - 1) = (j : Int) - 1 := IntWalk.i64_in _ (by omega)
  have w3 : shlI .u64 n 16 = n * 65536 := by rw [shl16]; omega
  have w4 : IntKind.u64.wrap (l.getD (i + j) 0) = l.getD (i + j) 0 := by rw [u64w]; omega
  have w5 : IntKind.u64.wrap (n * 65536 + l.getD (i + j) 0) = n * 65536 + l.getD (i + j) 0 := by rw [u64w]; omega
  rw [FnD.H_succ, rwrd_l0, w1, w2, w3]
  refine condT (by omega) ?_
  by_cases h : i + j < l.length
  · refine condT (by omega) (condB ((inB_iff _ _).2 (by omega)) ?_)
    rw [Int.toNat_natCast, w4, w5]
  · refine condF (by omega) ?_
    rw [show l.getD (i + j) 0 = 0 by rw [List.getD_eq_getElem?_getD, List.getElem?_eq_none (by omega)]; rfl, Int.add_zero]
theorem rwrd_run (l : List Int) (i : Int) (hp : dgt l ∧ l.length ≤ 1000000000 ∧ 0 ≤ i ∧ i ≤ 1000) : ∃ fu, rwrd_f.run rwrd_e [] fu [c1 (.ints .i64 l), vI i] [] = some ⟨c1 (.int .u64 (valD (l.drop i.toNat) % 18446744073709551616)), []⟩ := by
  obtain ⟨h1, h2, h3, h4⟩ := hp
  obtain ⟨k, rfl⟩ := Int.eq_ofNat_of_zero_le h3
  have hk : k ≤ 1000 := by omega
  have g0 := dgt_getD h1 (k + 0)
  have g1 := dgt_getD h1 (k + 1)
  have g2 := dgt_getD h1 (k + 2)
  have g3 := dgt_getD h1 (k + 3)
  refine ⟨5, ?_⟩
  rw [FnD.run, rwrd_ent, rwrd_step 4 l k 3 0 3 rfl h1 h2 hk (by omega) (by omega) (by omega), rwrd_step 3 l k 2 _ (3 - 1) rfl h1 h2 hk (by omega) (by omega) (by omega),
    rwrd_step 2 l k 1 _ (3 - 1 - 1) rfl h1 h2 hk (by omega) (by omega) (by omega), rwrd_step 1 l k 0 _ (3 - 1 - 1 - 1) rfl h1 h2 hk (by omega) (by omega) (by omega), FnD.H_succ, rwrd_l0]
  refine condF (by omega) ?_
  rw [Int.toNat_natCast, drop4 l k]
  simp only [Nat.add_zero] at g0 ⊢
  have e : ∀ v w : Int, v = w → (ret (SV.one (tU v))) = some ⟨c1 (.int .u64 w), []⟩ := fun v w h => by rw [h]
  exact e _ _ (by omega)
theorem rwrd_ok (l : List Int) (i : Int) (hp : dgt l ∧ l.length ≤ 1000000000 ∧ 0 ≤ i ∧ i ≤ 1000) : FnOk cfg 137 ([c1 (.ints .i64 l), vI i].map SV.den) (c1 (.int .u64 (valD (l.drop i.toNat) % 18446744073709551616)) : SV).den := by
  obtain ⟨nn, h⟩ := rwrd_run l i hp
  exact FnD.ok rwrd_g rwrd_f mixed Tryz.func137 rfl rfl rfl rfl rfl rfl h
noncomputable def c_rwrd : SpecF := fun args _ K => match args with
  | [.one (.c (.ints .i64 l)), .one (.c (.int .i64 i))] => bif decide (dgt l ∧ l.length ≤ 1000000000 ∧ 0 ≤ i ∧ i ≤ 1000) then K (c1 (.int .u64 (valD (l.drop i.toNat) % 18446744073709551616))) [] else none
  | _ => none
theorem c_rwrd_ok : SpecOk cfg 137 c_rwrd := by
  intro args bx K out h
  unfold c_rwrd at h
  split at h
  · obtain ⟨hp, h⟩ := bif_some h
    exact ⟨_, _, h, .inl (rwrd_ok _ _ (of_decide_eq_true hp) _), by simp [isTupS]⟩
  · cases h

theorem wideR {h l v : Int} {b : Bool} (h1 : h = wHi (clip v)) (h2 : l = wLo (clip v)) (h3 : b = decide (isI v)) : (ret (.tup [.agg [gI h, gU l], .c (.bool b)])) = some ⟨.tup [.agg [gI (wHi (clip v)), gU (wLo (clip v))], tB (decide (isI v))], []⟩ := by rw [h1, h2, h3]
/-! ### epactref01.Wide -/
noncomputable def rbwide_e : Ev' := ⟨Tryz.prog, glob, Γof [(134, c_rbcmp), (135, c_rpow2), (133, c_rbneg), (136, c_rbsub), (137, c_rwrd)]⟩
theorem rbwide_g : Gd cfg rbwide_e := gd (env_cons c_rbcmp_ok (env_cons c_rpow2_ok (env_cons c_rbneg_ok (env_cons c_rbsub_ok (env_cons c_rwrd_ok (env_nil _))))))
noncomputable def rbwide_f : FnD := ⟨91, Tryz.f91, noSh, Tryz.f91.resultTypes.toList, 0⟩
theorem rbwide_ent (h : Hd) (s : Bool) (a : List Int) : rbwide_f.ent rbwide_e [] h [agg [.c (.bool s), .c (.ints .i64 a)]] [] = bif decide (isBig s a ∧ isBig false (bigD (170141183460469231731687303715884105728 : Nat)) ∧ a.length ≤ (1000000000 : Nat) ∧ (8 : Nat) ≤ (1000000000 : Nat)) then bif decide ((0 : Int) ≤ cmpV (bV s a) (bV false (bigD (170141183460469231731687303715884105728 : Nat)))) then ret (SV.tup [S1.agg [gI (0 : Int), gU (0 : Int)], S1.c (Cl.bool false)]) else bif decide (isBig s a ∧ isBig true (bigD (170141183460469231731687303715884105728 : Nat)) ∧ a.length ≤ (1000000000 : Nat) ∧ (8 : Nat) ≤ (1000000000 : Nat)) then bif decide (cmpV (bV s a) (bV true (bigD (170141183460469231731687303715884105728 : Nat))) < (0 : Int)) then ret (SV.tup [S1.agg [gI (0 : Int), gU (0 : Int)], S1.c (Cl.bool false)]) else bif s then bif decide (isBig false (bigD (340282366920938463463374607431768211456 : Nat)) ∧ isBig false a ∧ (9 : Nat) ≤ (1000000000 : Nat) ∧ a.length ≤ (1000000000 : Nat)) then bif decide (dgt (bigD (bV false (bigD (340282366920938463463374607431768211456 : Nat)) - bV false a).natAbs) ∧ (bigD (bV false (bigD (340282366920938463463374607431768211456 : Nat)) - bV false a).natAbs).length ≤ (1000000000 : Nat) ∧ (0 : Int) ≤ (4 : Int) ∧ (4 : Int) ≤ (1000 : Int)) then bif decide (dgt (bigD (bV false (bigD (340282366920938463463374607431768211456 : Nat)) - bV false a).natAbs) ∧ (bigD (bV false (bigD (340282366920938463463374607431768211456 : Nat)) - bV false a).natAbs).length ≤ (1000000000 : Nat) ∧ (0 : Int) ≤ (0 : Int) ∧ (0 : Int) ≤ (1000 : Int)) then ret (SV.tup [S1.agg [gI (IntKind.i64.wrap (valD (List.drop (4 : Nat) (bigD (bV false (bigD (340282366920938463463374607431768211456 : Nat)) - bV false a).natAbs)) % (18446744073709551616 : Int))), gU (valD (List.drop (0 : Nat) (bigD (bV false (bigD (340282366920938463463374607431768211456 : Nat)) - bV false a).natAbs)) % (18446744073709551616 : Int))], S1.c (Cl.bool true)]) else none else none else none else bif decide (dgt a ∧ a.length ≤ (1000000000 : Nat) ∧ (0 : Int) ≤ (4 : Int) ∧ (4 : Int) ≤ (1000 : Int)) then bif decide (dgt a ∧ a.length ≤ (1000000000 : Nat) ∧ (0 : Int) ≤ (0 : Int) ∧ (0 : Int) ≤ (1000 : Int)) then ret (SV.tup [S1.agg [gI (IntKind.i64.wrap (valD (List.drop (4 : Nat) a) % (18446744073709551616 : Int))), gU (valD (List.drop (0 : Nat) a) % (18446744073709551616 : Int))], S1.c (Cl.bool true)]) else none else none else none else none := by kernel_rfl
theorem rbwide_run (s : Bool) (a : List Int) (hp : isBig s a ∧ a.length ≤ 1000000000) : ∃ fu, rbwide_f.run rbwide_e [] fu [agg [.c (.bool s), .c (.ints .i64 a)]] [] = some ⟨.tup [.agg [gI (wHi (clip (bV s a))), gU (wLo (clip (bV s a)))], tB (decide (isI (bV s a)))], []⟩ := by
  refine ⟨0, ?_⟩
  rw [FnD.run, rbwide_ent]
  obtain ⟨p1, p2⟩ := hp
  have P : bV false (bigD 170141183460469231731687303715884105728) = 170141183460469231731687303715884105728 := bVn 170141183460469231731687303715884105728
  have N : bV true (bigD 170141183460469231731687303715884105728) = -170141183460469231731687303715884105728 := bVt 170141183460469231731687303715884105728
  have Q : bV false (bigD 340282366920938463463374607431768211456) = 340282366920938463463374607431768211456 := bVn 340282366920938463463374607431768211456
  rw [P, N, Q]
  obtain ⟨m, rfl, m2, m3⟩ := big_sgn p1
  rw [m3]
  refine condT ⟨p1, isBn 170141183460469231731687303715884105728, p2, by omega⟩ ?_
  generalize hv : (if s = true then -(m : Int) else m) = v at *
  have out : ¬ isI v → (ret (.tup [.agg [gI 0, gU 0], .c (.bool false)])) = some ⟨.tup [.agg [gI (wHi (clip v)), gU (wLo (clip v))], tB (decide (isI v))], []⟩ := fun h => wideR (by rw [clip_out h]; rfl) (by rw [clip_out h]; rfl) (decide_eq_false h).symm
  by_cases h1 : 170141183460469231731687303715884105728 ≤ v
  · exact condT ((cmpV_ge _ _).2 h1) (out (by unfold isI; omega))
  refine condF (fun h => h1 ((cmpV_ge _ _).1 h)) (condT ⟨p1, ⟨canon_bigD 170141183460469231731687303715884105728, fun _ h => by simp [bigD_nil] at h⟩, p2, by omega⟩ ?_)
  by_cases h2 : v < -170141183460469231731687303715884105728
  · exact condT ((cmpV_lt _ _).2 h2) (out (by unfold isI; omega))
  refine condF (fun h => h2 ((cmpV_lt _ _).1 h)) ?_
  have hI : isI v := by unfold isI; omega
  cases s with
  | true =>
    have := m2 rfl
    simp only [if_true] at hv
    have e : (340282366920938463463374607431768211456 - bV false (bigD m)).natAbs = 340282366920938463463374607431768211456 - m := by rw [bVn]; omega
    rw [e]
    obtain ⟨w1, w2⟩ := words_of (340282366920938463463374607431768211456 - m)
    have hl : (bigD (340282366920938463463374607431768211456 - m)).length ≤ 1000000000 := lenBg (by omega)
    refine condB rfl (condT ⟨isBn _, isBn _, by omega, p2⟩ (condT ⟨dgt_bigD _, hl, by omega, by omega⟩ (condT ⟨dgt_bigD _, hl, by omega, by omega⟩ (wideR ?_ ?_ (decide_eq_true hI).symm))))
    · rw [w1, clip_in hI, i64w]; unfold wHi; omega
    · rw [w2, clip_in hI]; unfold wLo; omega
  | false =>
    simp only [Bool.false_eq_true, if_false] at hv
    obtain ⟨w1, w2⟩ := words_of m
    refine condN rfl (condT ⟨dgt_bigD _, p2, by omega, by omega⟩ (condT ⟨dgt_bigD _, p2, by omega, by omega⟩ (wideR ?_ ?_ (decide_eq_true hI).symm)))
    · rw [w1, clip_in hI, i64w]; unfold wHi; omega
    · rw [w2, clip_in hI]; unfold wLo; omega
theorem rbwide_ok (s : Bool) (a : List Int) (hp : isBig s a ∧ a.length ≤ 1000000000) : FnOk cfg 91 ([agg [.c (.bool s), .c (.ints .i64 a)]].map SV.den) (.tup [.agg [gI (wHi (clip (bV s a))), gU (wLo (clip (bV s a)))], tB (decide (isI (bV s a)))] : SV).den := by
  obtain ⟨nn, h⟩ := rbwide_run s a hp
  exact FnD.ok rbwide_g rbwide_f mixed Tryz.func91 rfl rfl rfl rfl rfl rfl h
noncomputable def c_rbwide : SpecF := fun args _ K => match args with
  | [.one (.agg [.c (.bool s), .c (.ints .i64 a)])] => bif decide (isBig s a ∧ a.length ≤ 1000000000) then K (.tup [.agg [gI (wHi (clip (bV s a))), gU (wLo (clip (bV s a)))], tB (decide (isI (bV s a)))]) [] else none
  | _ => none
theorem c_rbwide_ok : SpecOk cfg 91 c_rbwide := by
  intro args bx K out h
  unfold c_rbwide at h
  split at h
  · obtain ⟨hp, h⟩ := bif_some h
    exact ⟨_, _, h, .inl (rbwide_ok _ _ (of_decide_eq_true hp) _), by simp [isTupS]⟩
  · cases h
/-! ### epactref01.digit -/
/-! ### epactref01.Div -/
/-! ### epactref04.Text -/
/-! ### epactref04.Number -/
noncomputable def rnum_e : Ev' := ⟨Tryz.prog, glob, Γof [(132, c_rbint), (130, c_rbadd), (131, c_rbmul), (133, c_rbneg)]⟩
theorem rnum_g : Gd cfg rnum_e := gd (env_cons c_rbint_ok (env_cons c_rbadd_ok (env_cons c_rbmul_ok (env_cons c_rbneg_ok (env_nil _)))))
noncomputable def rnum_f : FnD := ⟨90, Tryz.f90, shOf [(0, ⟨64, [], [(2, [.c .bool, .c .nils]), (5, [.c .bool, .c (.ints .i64)])], [(0, .c (.str)), (2, .c (.ptr 2 0)), (4, .c (.int .i64)), (5, .c (.ptr 5 0)), (6, .c (.int .i64))]⟩)], Tryz.f90.resultTypes.toList, 0⟩
theorem rnum_ent (h : Hd) (s : ByteArray) : rnum_f.ent rnum_e [] h [vS s] [] = bif decide ((0 : Int) < (↑s.size : Int)) then bif inB (0 : Int) s.size then bif decide ((bytesI s).getD (0 : Nat) (0 : Int) = (45 : Int)) then bif decide ((↑s.size : Int) = (1 : Int)) then ret (SV.tup [S1.agg [Sg.c (Cl.bool false), Sg.c (Cl.ints IntKind.i64 [])], S1.c (Cl.bool false)]) else bif inB (1 : Int) s.size then bif decide ((bytesI s).getD (1 : Nat) (0 : Int) = (48 : Int)) then bif !eqB s (tx [48]) then ret (SV.tup [S1.agg [Sg.c (Cl.bool false), Sg.c (Cl.ints IntKind.i64 [])], S1.c (Cl.bool false)]) else h (0 : Nat) [Lf.b false, Lf.b false, Lf.l [], Lf.s s, Lf.i (1 : Int), Lf.i (1 : Int)] else h (0 : Nat) [Lf.b false, Lf.b false, Lf.l [], Lf.s s, Lf.i (1 : Int), Lf.i (1 : Int)] else none else bif decide ((↑s.size : Int) = (0 : Int)) then ret (SV.tup [S1.agg [Sg.c (Cl.bool false), Sg.c (Cl.ints IntKind.i64 [])], S1.c (Cl.bool false)]) else bif inB (0 : Int) s.size then bif decide ((bytesI s).getD (0 : Nat) (0 : Int) = (48 : Int)) then bif !eqB s (tx [48]) then ret (SV.tup [S1.agg [Sg.c (Cl.bool false), Sg.c (Cl.ints IntKind.i64 [])], S1.c (Cl.bool false)]) else h (0 : Nat) [Lf.b false, Lf.b false, Lf.l [], Lf.s s, Lf.i (0 : Int), Lf.i (0 : Int)] else h (0 : Nat) [Lf.b false, Lf.b false, Lf.l [], Lf.s s, Lf.i (0 : Int), Lf.i (0 : Int)] else none else none else bif decide ((↑s.size : Int) = (0 : Int)) then ret (SV.tup [S1.agg [Sg.c (Cl.bool false), Sg.c (Cl.ints IntKind.i64 [])], S1.c (Cl.bool false)]) else bif inB (0 : Int) s.size then bif decide ((bytesI s).getD (0 : Nat) (0 : Int) = (48 : Int)) then bif !eqB s (tx [48]) then ret (SV.tup [S1.agg [Sg.c (Cl.bool false), Sg.c (Cl.ints IntKind.i64 [])], S1.c (Cl.bool false)]) else h (0 : Nat) [Lf.b false, Lf.b false, Lf.l [], Lf.s s, Lf.i (0 : Int), Lf.i (0 : Int)] else h (0 : Nat) [Lf.b false, Lf.b false, Lf.l [], Lf.s s, Lf.i (0 : Int), Lf.i (0 : Int)] else none := by kernel_rfl
theorem rnum_l0 (h : Hd) (b0 : Bool) (b1 : Bool) (l2 : List Int) (s3 : ByteArray) (i4 : Int) (i5 : Int) : rnum_f.seg rnum_e [] h 0 [.b b0, .b b1, .l l2, .s s3, .i i4, .i i5] = let v1 : Int := IntKind.i64.wrap (IntKind.u8.wrap ((bytesI s3).getD i5.toNat (0 : Int) - (48 : Int))); let v2 : List Int := bigD v1.natAbs; let v3 : Nat := v2.length; let v4 : Int := bV (decide (bV b1 l2 * bV false (bigD (10 : Nat)) < (0 : Int))) (bigD (bV b1 l2 * bV false (bigD (10 : Nat))).natAbs) + bV (decide (v1 < (0 : Int))) v2; bif decide (i5 < (↑s3.size : Int)) then bif inB i5 s3.size then bif decide ((bytesI s3).getD i5.toNat (0 : Int) < (48 : Int)) then ret (SV.tup [S1.agg [Sg.c (Cl.bool false), Sg.c (Cl.ints IntKind.i64 [])], S1.c (Cl.bool false)]) else bif inB i5 s3.size then bif decide ((57 : Int) < (bytesI s3).getD i5.toNat (0 : Int)) then ret (SV.tup [S1.agg [Sg.c (Cl.bool false), Sg.c (Cl.ints IntKind.i64 [])], S1.c (Cl.bool false)]) else bif decide (isBig b1 l2 ∧ isBig false (bigD (10 : Nat)) ∧ l2.length ≤ (1000000000 : Nat) ∧ (1 : Nat) ≤ (1000000000 : Nat)) then bif inB i5 s3.size then bif decide (isH v1) then bif decide (isBig (decide (bV b1 l2 * bV false (bigD (10 : Nat)) < (0 : Int))) (bigD (bV b1 l2 * bV false (bigD (10 : Nat))).natAbs) ∧ isBig (decide (v1 < (0 : Int))) v2 ∧ (bigD (bV b1 l2 * bV false (bigD (10 : Nat))).natAbs).length ≤ (1000000000 : Nat) ∧ v3 ≤ (1000000000 : Nat)) then h (0 : Nat) [Lf.b b0, Lf.b (decide (v4 < (0 : Int))), Lf.l (bigD v4.natAbs), Lf.s s3, Lf.i i4, Lf.i (IntKind.i64.wrap (i5 + (1 : Int)))] else none else none else none else none else none else none else bif decide (i4 = (1 : Int)) then bif decide (isBig b1 l2) then ret (SV.tup [S1.agg [Sg.c (Cl.bool (decide (-bV b1 l2 < (0 : Int)))), Sg.c (Cl.ints IntKind.i64 (bigD (-bV b1 l2).natAbs))], S1.c (Cl.bool true)]) else none else ret (SV.tup [S1.agg [Sg.c (Cl.bool b1), Sg.c (Cl.ints IntKind.i64 l2)], S1.c (Cl.bool true)]) := by kernel_rfl

theorem numR {u : Bool} {l : List Int} {v : Int} {b c : Bool} (h1 : u = decide (v < 0)) (h2 : l = bigD v.natAbs) (h3 : b = c) : (ret (.tup [.agg [.c (.bool u), .c (.ints .i64 l)], .c (.bool b)])) = some ⟨.tup [.agg [.c (.bool (decide (v < 0))), .c (.ints .i64 (bigD (v).natAbs))], tB c], []⟩ := by rw [h1, h2, h3]
theorem rnum_loop (L : List UInt8) (hL : L.length ≤ 100000000) (g : Nat) (hg : g ≤ 1) (z : Bool) (hgL : g ≤ L.length) : ∀ (k j : Nat), j ≤ (L.drop g).length → (L.drop g).length - j < k → ((L.drop g).take j).all isDig = true →
    rnum_f.H rnum_e [] k 0 [.b z, .b (decide (dval ((L.drop g).take j) < 0)), .l (bigD (dval ((L.drop g).take j)).natAbs), .s (tx L), .i g, .i ((g + j : Nat) : Int)] = some ⟨.tup [.agg [.c (.bool (decide ((if (L.drop g).all isDig then (if g = 1 then -dval (L.drop g) else dval (L.drop g)) else 0) < 0))), .c (.ints .i64 (bigD ((if (L.drop g).all isDig then (if g = 1 then -dval (L.drop g) else dval (L.drop g)) else 0)).natAbs))], tB ((L.drop g).all isDig)], []⟩ := by
  have hlen : (L.drop g).length = L.length - g := List.length_drop
  have hget : ∀ j, L.getD (g + j) 0 = (L.drop g).getD j 0 := fun j => by rw [List.getD_eq_getElem?_getD, List.getD_eq_getElem?_getD, List.getElem?_drop]
  generalize hd : L.drop g = d at *
  intro k
  induction k with
  | zero => intro j _ h; omega
  | succ k ih =>
    intro j hj hk hall
    obtain ⟨x0, x1⟩ := dval_bound hall
    rw [List.length_take, Nat.min_eq_left hj] at x1
    rw [FnD.H_succ, rnum_l0]
    dsimp only
    simp only [bytes_get, tx_size, Int.toNat_natCast, hget]
    by_cases h : j < d.length
    · have hb : inB ((g + j : Nat) : Int) L.length = true := (inB_iff _ _).2 (by omega)
      have e : d.getD j 0 = d[j] := by rw [List.getD_eq_getElem?_getD, List.getElem?_eq_getElem h]; rfl
      have no : isDig (d.getD j 0) = false → d.all isDig = false := fun hn => by
        rw [e] at hn
        rw [Bool.eq_false_iff]
        intro ha
        rw [List.all_eq_true] at ha
        rw [ha _ (List.getElem_mem h)] at hn; cases hn
      have bad : isDig (d.getD j 0) = false → (ret (.tup [.agg [.c (.bool false), .c (.ints .i64 [])], .c (.bool false)])) = some ⟨.tup [.agg [.c (.bool (decide ((if d.all isDig then (if g = 1 then -dval d else dval d) else 0) < 0))), .c (.ints .i64 (bigD ((if d.all isDig then (if g = 1 then -dval d else dval d) else 0)).natAbs))], tB (d.all isDig)], []⟩ := fun hn => by
        rw [no hn]; exact numR (by simp) (by simp [bigD_0]) rfl
      refine condT (by omega) (condB hb ?_)
      by_cases h1 : ((d.getD j 0).toNat : Int) < 48
      · exact condT h1 (bad (by unfold isDig; rw [decide_eq_false (by omega)]; rfl))
      refine condF h1 (condB hb ?_)
      by_cases h2 : 57 < ((d.getD j 0).toNat : Int)
      · exact condT h2 (bad (by unfold isDig; rw [decide_eq_false (show ¬ (d.getD j 0).toNat ≤ 57 by omega), Bool.and_false]))
      refine condF h2 ?_
      have ht : d.take (j + 1) = d.take j ++ [d.getD j 0] := by rw [e]; exact List.take_succ_eq_append_getElem h
      have hx : dval (d.take (j + 1)) = dval (d.take j) * 10 + dig (d.getD j 0) := by rw [ht, dval_snoc]
      have hdig : dig (d.getD j 0) = ((d.getD j 0).toNat : Int) - 48 := rfl
      have w : IntKind.i64.wrap (IntKind.u8.wrap (((d.getD j 0).toNat : Int) - 48)) = dig (d.getD j 0) := by
        rw [IntWalk.u8_in _ (by omega), IntWalk.i64_in _ (by omega)]; rfl
      rw [w, show IntKind.i64.wrap (((g + j : Nat) : Int) + 1) = ((g + (j + 1) : Nat) : Int) by rw [IntWalk.i64_in _ (by omega)]; omega]
      have ten : bV false (bigD 10) = 10 := bVn 10
      rw [ten, bV_mk, bV_mk, bV_mk]
      have pw : ∀ (v : Int) (n : Nat), 0 ≤ v → v < 10 ^ n → n ≤ 100000001 → (bigD v.natAbs).length ≤ 1000000000 := fun v n v0 v1 hn => by
        have h1 : v.natAbs < 65536 ^ n := by
          have e1 : ((10 ^ n : Nat) : Int) = 10 ^ n := by rw [Int.natCast_pow]; rfl
          have h3 : v.natAbs < 10 ^ n := by omega
          exact Nat.lt_of_lt_of_le h3 (Nat.pow_le_pow_left (by omega) n)
        exact Nat.le_trans (bigD_len h1) (by omega)
      have p10 : (10 : Int) ^ (j + 1) = 10 ^ j * 10 := Int.pow_succ _ _
      refine condT ⟨(isBig_mk _).1, isBn 10, pw _ j x0 x1 (by omega), by omega⟩ (condB hb (condT ⟨by omega, by omega⟩ (condT ⟨(isBig_mk _).1, (isBig_mk _).1, pw _ (j + 1) (by omega) (by omega) (by omega), pw _ 1 (by omega) (by omega) (by omega)⟩ ?_)))
      rw [← hx]
      refine ih (j + 1) (by omega) (by omega) ?_
      rw [ht, List.all_append, hall]
      simp only [List.all_cons, List.all_nil, Bool.and_true, Bool.true_and]
      unfold isDig
      rw [decide_eq_true (by omega), decide_eq_true (by omega)]; rfl
    · rw [List.take_of_length_le (by omega)] at hall ⊢
      refine condF (by omega) ?_
      rw [hall]
      by_cases hg1 : g = 1
      · refine condT (by omega) (condT (isBig_mk _).1 (numR ?_ ?_ rfl))
        · rw [bV_mk, if_pos rfl, if_pos hg1]
        · rw [bV_mk, if_pos rfl, if_pos hg1]
      · refine condF (by omega) (numR ?_ ?_ rfl)
        · rw [if_pos rfl, if_neg hg1]
        · rw [if_pos rfl, if_neg hg1]
theorem form_cases (L : List UInt8) : (isMin L = true ∧ 0 < L.length ∧ L.getD 0 0 = 45 ∧ absL L = L.drop 1) ∨ (isMin L = false ∧ absL L = L.drop 0 ∧ (0 < L.length → L.getD 0 0 ≠ 45)) := by
  unfold isMin absL Lib.trimPrefix Lib.hasPrefix
  cases L with
  | nil => exact .inr ⟨rfl, rfl, by simp⟩
  | cons c l =>
    by_cases h : c = 45
    · subst h; exact .inl ⟨by simp, by simp, rfl, by simp⟩
    · have hb : ((45 : UInt8) == c) = false := by rw [beq_eq_false_iff_ne]; exact fun e => h e.symm
      have hf : List.isPrefixOf [45] (c :: l) = false := by
        show ((45 : UInt8) == c && List.isPrefixOf [] l) = false
        rw [hb]; rfl
      refine .inr ⟨hf, ?_, fun _ => h⟩
      rw [hf]; rfl
theorem rnum_run (s : ByteArray) (hp : s.size ≤ 100000000) : ∃ fu, rnum_f.run rnum_e [] fu [vS s] [] = some ⟨.tup [.agg [.c (.bool (decide ((if formL s.data.toList then numL s.data.toList else 0) < 0))), .c (.ints .i64 (bigD ((if formL s.data.toList then numL s.data.toList else 0)).natAbs))], tB (formL s.data.toList)], []⟩ := by
  obtain ⟨L, rfl, hl⟩ := tx_get s
  rw [tx_toList]
  rw [← hl] at hp
  refine ⟨L.length + 1, ?_⟩
  rw [FnD.run, rnum_ent]
  simp only [bytes_get, tx_size, eqB_tx]
  have none' : formL L = false → (ret (.tup [.agg [.c (.bool false), .c (.ints .i64 [])], .c (.bool false)])) = some ⟨.tup [.agg [.c (.bool (decide ((if formL L then numL L else 0) < 0))), .c (.ints .i64 (bigD ((if formL L then numL L else 0)).natAbs))], tB (formL L)], []⟩ := fun h => by rw [h]; exact numR (by simp) (by simp [bigD_0]) rfl
  have go : ∀ g : Nat, g ≤ 1 → g ≤ L.length → absL L = L.drop g → isMin L = decide (g = 1) → absL L ≠ [] → ((absL L).getD 0 0 = 48 → L = [48]) →
      rnum_f.H rnum_e [] (L.length + 1) 0 [.b false, .b false, .l [], .s (tx L), .i g, .i g] = some ⟨.tup [.agg [.c (.bool (decide ((if formL L then numL L else 0) < 0))), .c (.ints .i64 (bigD ((if formL L then numL L else 0)).natAbs))], tB (formL L)], []⟩ := by
    intro g hg hgL ha hm h0 h48
    have := rnum_loop L hp g hg false hgL (L.length + 1) 0 (by omega) (by rw [List.length_drop]; omega) rfl
    rw [show g + 0 = g from rfl, List.take_zero, show dval [] = 0 from rfl, show (0 : Int).natAbs = 0 from rfl, bigD_0] at this
    refine (show _ = _ from this).trans ?_
    have hf : formL L = (L.drop g).all isDig := by
      unfold formL
      rw [decide_eq_false h0, ← ha]
      by_cases h4 : (absL L).getD 0 0 = 48
      · rw [decide_eq_true (h48 h4)]; simp
      · rw [decide_eq_false h4]; simp
    rw [hf]
    unfold numL sgn
    rw [hm, ha]
    by_cases h1 : g = 1
    · rw [decide_eq_true h1, if_pos h1]; rfl
    · rw [decide_eq_false h1, if_neg h1]; rfl
  have u48 : ∀ c : UInt8, ((c.toNat : Nat) : Int) = 48 ↔ c = 48 := fun c => by
    rw [← UInt8.toNat_inj]; have : (48 : UInt8).toNat = 48 := rfl
    omega
  have u45 : ∀ c : UInt8, ((c.toNat : Nat) : Int) = 45 ↔ c = 45 := fun c => by
    rw [← UInt8.toNat_inj]; have : (45 : UInt8).toNat = 45 := rfl
    omega
  have bad0 : absL L = [] → formL L = false := fun h => by unfold formL; rw [decide_eq_true h]; rfl
  have bad48 : (absL L).getD 0 0 = 48 → L ≠ [48] → formL L = false := fun h h2 => by unfold formL; rw [decide_eq_true h, decide_eq_false h2]; simp
  rcases form_cases L with ⟨f1, f2, f3, f4⟩ | ⟨f1, f2, f3⟩
  · have gg : (absL L).getD 0 0 = L.getD 1 0 := by rw [f4, List.getD_eq_getElem?_getD, List.getElem?_drop, ← List.getD_eq_getElem?_getD]
    refine condT (by omega) (condB ((inB_iff _ _).2 (by omega)) (condT ((u45 _).2 f3) ?_))
    by_cases hs : L.length = 1
    · exact condT (by omega) (none' (bad0 (by rw [f4]; exact List.drop_eq_nil_of_le (by omega))))
    · have hn : absL L ≠ [] := fun e => by rw [f4] at e; have := congrArg List.length e; simp at this; omega
      refine condF (by omega) (condB ((inB_iff _ _).2 (by omega)) ?_)
      by_cases h4 : L.getD 1 0 = 48
      · have : L ≠ [48] := fun e => by rw [e] at hs; simp at hs
        exact condT ((u48 _).2 h4) (condB (by rw [decide_eq_false this]; rfl) (none' (bad48 (gg.trans h4) this)))
      · exact condF (fun h => h4 ((u48 _).1 h)) (go 1 (by omega) (by omega) f4 f1 hn fun h => absurd (gg.symm.trans h) h4)
  · have gg : (absL L).getD 0 0 = L.getD 0 0 := by rw [f2]; rfl
    have rest : (bif decide (((L.length : Nat) : Int) = 0) then (ret (.tup [.agg [.c (.bool false), .c (.ints .i64 [])], .c (.bool false)])) else bif inB 0 L.length then
        bif decide ((((L.getD 0 0).toNat : Nat) : Int) = 48) then bif !decide (L = [48]) then (ret (.tup [.agg [.c (.bool false), .c (.ints .i64 [])], .c (.bool false)])) else rnum_f.H rnum_e [] (L.length + 1) 0 [.b false, .b false, .l [], .s (tx L), .i 0, .i 0]
        else rnum_f.H rnum_e [] (L.length + 1) 0 [.b false, .b false, .l [], .s (tx L), .i 0, .i 0] else none) = some ⟨.tup [.agg [.c (.bool (decide ((if formL L then numL L else 0) < 0))), .c (.ints .i64 (bigD ((if formL L then numL L else 0)).natAbs))], tB (formL L)], []⟩ := by
      by_cases hz : L.length = 0
      · exact condT (by omega) (none' (bad0 (by rw [f2]; exact List.length_eq_zero_iff.1 hz)))
      · have hn : absL L ≠ [] := fun e => by rw [f2, List.drop_zero] at e; rw [e] at hz; exact hz rfl
        refine condF (by omega) (condB ((inB_iff _ _).2 (by omega)) ?_)
        by_cases h4 : L.getD 0 0 = 48
        · refine condT ((u48 _).2 h4) ?_
          by_cases h5 : L = [48]
          · exact condN (by rw [decide_eq_true h5]; rfl) (go 0 (by omega) (by omega) f2 f1 hn fun _ => h5)
          · exact condB (by rw [decide_eq_false h5]; rfl) (none' (bad48 (gg.trans h4) h5))
        · exact condF (fun h => h4 ((u48 _).1 h)) (go 0 (by omega) (by omega) f2 f1 hn fun h => absurd (gg.symm.trans h) h4)
    by_cases hz : 0 < L.length
    · exact condT (by omega) (condB ((inB_iff _ _).2 (by omega)) (condF (fun h => f3 hz ((u45 _).1 h)) rest))
    · exact condF (by omega) rest
theorem rnum_ok (s : ByteArray) (hp : s.size ≤ 100000000) : FnOk cfg 90 ([vS s].map SV.den) (.tup [.agg [.c (.bool (decide ((if formL s.data.toList then numL s.data.toList else 0) < 0))), .c (.ints .i64 (bigD ((if formL s.data.toList then numL s.data.toList else 0)).natAbs))], tB (formL s.data.toList)] : SV).den := by
  obtain ⟨nn, h⟩ := rnum_run s hp
  exact FnD.ok rnum_g rnum_f mixed Tryz.func90 rfl rfl rfl rfl rfl rfl h
noncomputable def c_rnum : SpecF := fun args _ K => match args with
  | [.one (.c (.str s))] => bif decide (s.size ≤ 100000000) then K (.tup [.agg [.c (.bool (decide ((if formL s.data.toList then numL s.data.toList else 0) < 0))), .c (.ints .i64 (bigD ((if formL s.data.toList then numL s.data.toList else 0)).natAbs))], tB (formL s.data.toList)]) [] else none
  | _ => none
theorem c_rnum_ok : SpecOk cfg 90 c_rnum := by
  intro args bx K out h
  unfold c_rnum at h
  split at h
  · obtain ⟨hp, h⟩ := bif_some h
    exact ⟨_, _, h, .inl (rnum_ok _ (of_decide_eq_true hp) _), by simp [isTupS]⟩
  · cases h
end Go.Proofs.YtldofkogmkfpjaaGreatDoor
