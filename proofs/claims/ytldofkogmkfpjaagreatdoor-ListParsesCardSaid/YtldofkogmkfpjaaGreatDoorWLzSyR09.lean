/-
  The document's sum of bytes.
-/
import Derived.Test.YtldofkogmkfpjaaGreatDoorWLzSySha2
namespace Go.Proofs.YtldofkogmkfpjaaGreatDoor
open Go Go.Ev Go.Sy
set_option linter.unusedSimpArgs false
set_option linter.unusedVariables false
set_option maxRecDepth 10000
set_option maxHeartbeats 4000000
open Go.Sy.Sh

def trnI (n k : Int) : Int := IntKind.i64.wrap ((shlI .i64 n (IntKind.u64.wrap k)).tmod 4294967296 + shrI .i64 n (IntKind.u64.wrap (IntKind.i64.wrap (32 - k))))
/-! ### epactref09.turn -/
noncomputable def rturn_e : Ev' := ⟨Tryz.prog, glob, Γof []⟩
theorem rturn_g : Gd cfg rturn_e := gd (env_nil _)
noncomputable def rturn_f : FnD := ⟨113, Tryz.f113, noSh, Tryz.f113.resultTypes.toList, 0⟩
theorem rturn_ent (h : Hd) (n : Int) (k : Int) : rturn_f.ent rturn_e [] h [vI n, vI k] [] = bif decide ((0 : Int) ≤ IntKind.u64.wrap k) then bif decide ((0 : Int) ≤ IntKind.u64.wrap (IntKind.i64.wrap ((32 : Int) - k))) then ret (vI (IntKind.i64.wrap ((shlI IntKind.i64 n (IntKind.u64.wrap k)).tmod (4294967296 : Int) + shrI IntKind.i64 n (IntKind.u64.wrap (IntKind.i64.wrap ((32 : Int) - k)))))) else none else none := by kernel_rfl
theorem rturn_run (n : Int) (k : Int) (hp : 0 ≤ k ∧ k ≤ 30) : ∃ fu, rturn_f.run rturn_e [] fu [vI n, vI k] [] = some ⟨vI (trnI n k), []⟩ := by
  refine ⟨0, ?_⟩
  rw [FnD.run, rturn_ent]
  obtain ⟨h1, h2⟩ := hp
  obtain ⟨m, rfl⟩ := Int.eq_ofNat_of_zero_le h1
  have e1 : IntKind.u64.wrap (m : Int) = (m : Int) := by rw [wrap_u64, Nat.mod_eq_of_lt (by omega)]
  have e2 : IntKind.i64.wrap (32 - (m : Int)) = ((32 - m : Nat) : Int) := by rw [IntWalk.i64_in _ (by omega)]; omega
  have e3 : IntKind.u64.wrap ((32 - m : Nat) : Int) = ((32 - m : Nat) : Int) := by rw [wrap_u64, Nat.mod_eq_of_lt (by omega)]
  exact condT (by rw [e1]; omega) (condT (by rw [e2, e3]; omega) rfl)
theorem rturn_ok (n : Int) (k : Int) (hp : 0 ≤ k ∧ k ≤ 30) : FnOk cfg 113 ([vI n, vI k].map SV.den) (vI (trnI n k) : SV).den := by
  obtain ⟨nn, h⟩ := rturn_run n k hp
  exact FnD.ok rturn_g rturn_f mixed Tryz.func113 rfl rfl rfl rfl rfl rfl h
noncomputable def c_rturn : SpecF := fun args _ K => match args with
  | [.one (.c (.int .i64 n)), .one (.c (.int .i64 k))] => bif decide (0 ≤ k ∧ k ≤ 30) then K (vI (trnI n k)) [] else none
  | _ => none
theorem c_rturn_ok : SpecOk cfg 113 c_rturn := by
  intro args bx K out h
  unfold c_rturn at h
  split at h
  · obtain ⟨hp, h⟩ := bif_some h
    exact ⟨_, _, h, .inl (rturn_ok _ _ (of_decide_eq_true hp) _), by simp [isTupS]⟩
  · cases h
/-! ### epactref09.Words -/
noncomputable def rw9_e : Ev' := ⟨Tryz.prog, glob, Γof [(113, c_rturn)]⟩
theorem rw9_g : Gd cfg rw9_e := gd (env_cons c_rturn_ok (env_nil _))
noncomputable def rw9_f : FnD := ⟨80, Tryz.f80, shOf [(0, ⟨205, [(3, ⟨.ints .u8, false, false⟩)], [(2, [.arr .i64 5])], [(0, .c (.ints .u8)), (2, .c (.ptr 2 0)), (3, .c (.sl 3 1))]⟩), (1, ⟨205, [(3, ⟨.ints .u8, false, false⟩)], [(2, [.arr .i64 5])], [(0, .c (.ints .u8)), (2, .c (.ptr 2 0)), (3, .c (.sl 3 1)), (4, .c (.int .i64))]⟩), (2, ⟨205, [(3, ⟨.ints .u8, false, false⟩)], [(2, [.arr .i64 5]), (5, [.arr .i64 5])], [(2, .c (.ptr 2 0)), (3, .c (.sl 3 1)), (5, .c (.ptr 5 0)), (6, .c (.int .i64))]⟩), (3, ⟨205, [(3, ⟨.ints .u8, false, false⟩), (7, ⟨.ints .i64, false, false⟩)], [(2, [.arr .i64 5]), (5, [.arr .i64 5])], [(2, .c (.ptr 2 0)), (3, .c (.sl 3 1)), (5, .c (.ptr 5 0)), (6, .c (.int .i64)), (7, .c (.sl 7 1)), (8, .c (.int .i64))]⟩), (4, ⟨205, [(3, ⟨.ints .u8, false, false⟩), (7, ⟨.ints .i64, false, false⟩)], [(2, [.arr .i64 5]), (5, [.arr .i64 5])], [(2, .c (.ptr 2 0)), (3, .c (.sl 3 1)), (5, .c (.ptr 5 0)), (6, .c (.int .i64)), (7, .c (.sl 7 1)), (8, .c (.int .i64)), (9, .c (.int .i64))]⟩), (5, ⟨205, [(3, ⟨.ints .u8, false, false⟩), (7, ⟨.ints .i64, false, false⟩)], [(2, [.arr .i64 5]), (5, [.arr .i64 5])], [(2, .c (.ptr 2 0)), (3, .c (.sl 3 1)), (5, .c (.ptr 5 0)), (6, .c (.int .i64)), (7, .c (.sl 7 1)), (10, .c (.int .i64))]⟩), (6, ⟨205, [(3, ⟨.ints .u8, false, false⟩), (7, ⟨.ints .i64, false, false⟩)], [(2, [.arr .i64 5]), (5, [.arr .i64 5])], [(2, .c (.ptr 2 0)), (3, .c (.sl 3 1)), (5, .c (.ptr 5 0)), (6, .c (.int .i64)), (7, .c (.sl 7 1)), (11, .c (.int .i64)), (12, .c (.int .i64)), (13, .c (.int .i64)), (14, .c (.int .i64)), (15, .c (.int .i64)), (16, .c (.int .i64))]⟩)], Tryz.f80.resultTypes.toList, 0⟩
theorem rw9_ent (h : Hd) (l : List Int) : rw9_f.ent rw9_e [] h [c1 (.ints .u8 l)] [] = let v1 : Nat := (0 : Nat) + l.length + (1 : Nat); let v2 : List Int := List.take ((0 : Nat) + l.length) l ++ [(128 : Int)]; let v3 : Nat := v2.length; bif roomB ((0 : Nat) + l.length) (1 : Nat) then bif decide ((0 : Nat) + l.length ≤ l.length) && roomB v1 (1 : Nat) then bif decide (v1 = v3) then h (0 : Nat) [Lf.l v2, Lf.l [(0 : Int), (0 : Int), (0 : Int), (0 : Int), (0 : Int)], Lf.l l] else none else none else none := by kernel_rfl
theorem rw9_l0 (h : Hd) (l0 : List Int) (l1 : List Int) (l2 : List Int) : rw9_f.seg rw9_e [] h 0 [.l l0, .l l1, .l l2] = let v1 : List Int := List.take l0.length l0 ++ [(0 : Int)]; let v2 : Nat := v1.length; bif !decide ((↑l0.length : Int).tmod (64 : Int) = (56 : Int)) then bif decide (l0.length ≤ l0.length) && roomB (l0.length + (1 : Nat)) (1 : Nat) then bif decide (l0.length + (1 : Nat) = v2) then h (0 : Nat) [Lf.l v1, Lf.l l1, Lf.l l2] else none else none else bif decide (l0.length = l0.length) then h (1 : Nat) [Lf.l l0, Lf.l l1, Lf.l l2, Lf.i (7 : Int)] else none := by kernel_rfl
theorem rw9_l1 (h : Hd) (l0 : List Int) (l1 : List Int) (l2 : List Int) (i3 : Int) : rw9_f.seg rw9_e [] h 1 [.l l0, .l l1, .l l2, .i i3] = let v1 : List Int := List.take l0.length l0 ++ [IntKind.u8.wrap (shrI IntKind.i64 (IntKind.i64.wrap ((↑l2.length : Int) * (8 : Int))) (IntKind.u64.wrap (IntKind.i64.wrap ((8 : Int) * i3))))]; let v2 : Nat := v1.length; bif decide ((0 : Int) ≤ i3) then bif decide ((0 : Int) ≤ IntKind.u64.wrap (IntKind.i64.wrap ((8 : Int) * i3))) then bif decide (l0.length ≤ l0.length) && roomB (l0.length + (1 : Nat)) (1 : Nat) then bif decide (l0.length + (1 : Nat) = v2) then h (1 : Nat) [Lf.l v1, Lf.l l1, Lf.l l2, Lf.i (IntKind.i64.wrap (i3 - (1 : Int)))] else none else none else none else bif decide (l0.length = l0.length) then h (2 : Nat) [Lf.l l0, Lf.l l1, Lf.l (setD (5 : Nat) (setD (5 : Nat) (setD (5 : Nat) (setD (5 : Nat) (setD (5 : Nat) [(0 : Int), (0 : Int), (0 : Int), (0 : Int), (0 : Int)] (0 : Nat) (1732584193 : Int)) (1 : Nat) (4023233417 : Int)) (2 : Nat) (2562383102 : Int)) (3 : Nat) (271733878 : Int)) (4 : Nat) (3285377520 : Int)), Lf.i (0 : Int)] else none := by kernel_rfl
theorem rw9_l2 (h : Hd) (l0 : List Int) (l1 : List Int) (l2 : List Int) (i3 : Int) : rw9_f.seg rw9_e [] h 2 [.l l0, .l l1, .l l2, .i i3] = bif decide (i3 < (↑l0.length : Int)) then bif decide (l0.length = l0.length) && true then h (3 : Nat) [Lf.l l0, Lf.l (List.replicate (80 : Nat) (0 : Int)), Lf.l l1, Lf.l l2, Lf.i i3, Lf.i (0 : Int)] else none else ret (agg [Sg.arr IntKind.i64 (5 : Nat) l2]) := by kernel_rfl
theorem rw9_l3 (h : Hd) (l0 : List Int) (l1 : List Int) (l2 : List Int) (l3 : List Int) (i4 : Int) (i5 : Int) : rw9_f.seg rw9_e [] h 3 [.l l0, .l l1, .l l2, .l l3, .i i4, .i i5] = bif decide (i5 < (16 : Int)) then bif decide (l0.length = l0.length) && decide (l1.length = l1.length) then h (4 : Nat) [Lf.l l0, Lf.l l1, Lf.l l2, Lf.l l3, Lf.i i4, Lf.i i5, Lf.i (0 : Int)] else none else bif decide (l0.length = l0.length) && decide (l1.length = l1.length) then h (5 : Nat) [Lf.l l0, Lf.l l1, Lf.l l2, Lf.l l3, Lf.i i4, Lf.i (16 : Int)] else none := by kernel_rfl
theorem rw9_l4 (h : Hd) (l0 : List Int) (l1 : List Int) (l2 : List Int) (l3 : List Int) (i4 : Int) (i5 : Int) (i6 : Int) : rw9_f.seg rw9_e [] h 4 [.l l0, .l l1, .l l2, .l l3, .i i4, .i i5, .i i6] = let v1 : Int := IntKind.i64.wrap (IntKind.i64.wrap (i4 + IntKind.i64.wrap ((4 : Int) * i5)) + i6); let v2 : Nat := v1.toNat; let v3 : List Int := l1.set i5.toNat (IntKind.i64.wrap (IntKind.i64.wrap (l1.getD i5.toNat (0 : Int) * (256 : Int)) + IntKind.i64.wrap (l0.getD v2 (0 : Int)))); let v4 : Nat := v3.length; bif decide (i6 < (4 : Int)) then bif inB i5 l1.length then bif decide (i5.toNat < l1.length) then bif inB v1 l0.length then bif decide (v2 < l0.length) then bif inB i5 l1.length then bif decide (i5.toNat < l1.length) then bif decide (l0.length = l0.length) && decide (l1.length = v4) then h (4 : Nat) [Lf.l l0, Lf.l v3, Lf.l l2, Lf.l l3, Lf.i i4, Lf.i i5, Lf.i (IntKind.i64.wrap (i6 + (1 : Int)))] else none else none else none else none else none else none else none else bif decide (l0.length = l0.length) && decide (l1.length = l1.length) then h (3 : Nat) [Lf.l l0, Lf.l l1, Lf.l l2, Lf.l l3, Lf.i i4, Lf.i (IntKind.i64.wrap (i5 + (1 : Int)))] else none := by kernel_rfl
theorem rw9_l5 (h : Hd) (l0 : List Int) (l1 : List Int) (l2 : List Int) (l3 : List Int) (i4 : Int) (i5 : Int) : rw9_f.seg rw9_e [] h 5 [.l l0, .l l1, .l l2, .l l3, .i i4, .i i5] = let v1 : List Int := l1.set i5.toNat (trnI (xorI IntKind.i64 (xorI IntKind.i64 (xorI IntKind.i64 (l1.getD (IntKind.i64.wrap (i5 - (3 : Int))).toNat (0 : Int)) (l1.getD (IntKind.i64.wrap (i5 - (8 : Int))).toNat (0 : Int))) (l1.getD (IntKind.i64.wrap (i5 - (14 : Int))).toNat (0 : Int))) (l1.getD (IntKind.i64.wrap (i5 - (16 : Int))).toNat (0 : Int))) (1 : Int)); let v2 : Nat := v1.length; bif decide (i5 < (80 : Int)) then bif inB (IntKind.i64.wrap (i5 - (3 : Int))) l1.length then bif decide ((IntKind.i64.wrap (i5 - (3 : Int))).toNat < l1.length) then bif inB (IntKind.i64.wrap (i5 - (8 : Int))) l1.length then bif decide ((IntKind.i64.wrap (i5 - (8 : Int))).toNat < l1.length) then bif inB (IntKind.i64.wrap (i5 - (14 : Int))) l1.length then bif decide ((IntKind.i64.wrap (i5 - (14 : Int))).toNat < l1.length) then bif inB (IntKind.i64.wrap (i5 - (16 : Int))) l1.length then bif decide ((IntKind.i64.wrap (i5 - (16 : Int))).toNat < l1.length) then bif inB i5 l1.length then bif decide (i5.toNat < l1.length) then bif decide (l0.length = l0.length) && decide (l1.length = v2) then h (5 : Nat) [Lf.l l0, Lf.l v1, Lf.l l2, Lf.l l3, Lf.i i4, Lf.i (IntKind.i64.wrap (i5 + (1 : Int)))] else none else none else none else none else none else none else none else none else none else none else none else bif decide (l0.length = l0.length) && decide (l1.length = l1.length) then h (6 : Nat) [Lf.l l0, Lf.l l1, Lf.l l2, Lf.l l3, Lf.i i4, Lf.i (l3.getD (0 : Nat) (0 : Int)), Lf.i (l3.getD (1 : Nat) (0 : Int)), Lf.i (l3.getD (2 : Nat) (0 : Int)), Lf.i (l3.getD (3 : Nat) (0 : Int)), Lf.i (l3.getD (4 : Nat) (0 : Int)), Lf.i (0 : Int)] else none := by kernel_rfl
theorem rw9_l6 (h : Hd) (l0 : List Int) (l1 : List Int) (l2 : List Int) (l3 : List Int) (i4 : Int) (i5 : Int) (i6 : Int) (i7 : Int) (i8 : Int) (i9 : Int) (i10 : Int) : rw9_f.seg rw9_e [] h 6 [.l l0, .l l1, .l l2, .l l3, .i i4, .i i5, .i i6, .i i7, .i i8, .i i9, .i i10] = bif decide (i10 < (80 : Int)) then bif decide (i10 < (20 : Int)) then bif inB i10 l1.length then bif decide (i10.toNat < l1.length) then bif decide (l0.length = l0.length) && decide (l1.length = l1.length) then h (6 : Nat) [Lf.l l0, Lf.l l1, Lf.l l2, Lf.l l3, Lf.i i4, Lf.i ((IntKind.i64.wrap (IntKind.i64.wrap (IntKind.i64.wrap (IntKind.i64.wrap (trnI i5 (5 : Int) + IntKind.i64.wrap (andI IntKind.i64 i6 i7 + andI IntKind.i64 (IntKind.i64.wrap ((4294967295 : Int) - i6)) i8)) + i9) + (1518500249 : Int)) + l1.getD i10.toNat (0 : Int))).tmod (4294967296 : Int)), Lf.i i5, Lf.i (trnI i6 (30 : Int)), Lf.i i7, Lf.i i8, Lf.i (IntKind.i64.wrap (i10 + (1 : Int)))] else none else none else none else bif decide (i10 < (40 : Int)) then bif inB i10 l1.length then bif decide (i10.toNat < l1.length) then bif decide (l0.length = l0.length) && decide (l1.length = l1.length) then h (6 : Nat) [Lf.l l0, Lf.l l1, Lf.l l2, Lf.l l3, Lf.i i4, Lf.i ((IntKind.i64.wrap (IntKind.i64.wrap (IntKind.i64.wrap (IntKind.i64.wrap (trnI i5 (5 : Int) + xorI IntKind.i64 (xorI IntKind.i64 i6 i7) i8) + i9) + (1859775393 : Int)) + l1.getD i10.toNat (0 : Int))).tmod (4294967296 : Int)), Lf.i i5, Lf.i (trnI i6 (30 : Int)), Lf.i i7, Lf.i i8, Lf.i (IntKind.i64.wrap (i10 + (1 : Int)))] else none else none else none else bif decide (i10 < (60 : Int)) then bif inB i10 l1.length then bif decide (i10.toNat < l1.length) then bif decide (l0.length = l0.length) && decide (l1.length = l1.length) then h (6 : Nat) [Lf.l l0, Lf.l l1, Lf.l l2, Lf.l l3, Lf.i i4, Lf.i ((IntKind.i64.wrap (IntKind.i64.wrap (IntKind.i64.wrap (IntKind.i64.wrap (trnI i5 (5 : Int) + orI IntKind.i64 (orI IntKind.i64 (andI IntKind.i64 i6 i7) (andI IntKind.i64 i6 i8)) (andI IntKind.i64 i7 i8)) + i9) + (2400959708 : Int)) + l1.getD i10.toNat (0 : Int))).tmod (4294967296 : Int)), Lf.i i5, Lf.i (trnI i6 (30 : Int)), Lf.i i7, Lf.i i8, Lf.i (IntKind.i64.wrap (i10 + (1 : Int)))] else none else none else none else bif inB i10 l1.length then bif decide (i10.toNat < l1.length) then bif decide (l0.length = l0.length) && decide (l1.length = l1.length) then h (6 : Nat) [Lf.l l0, Lf.l l1, Lf.l l2, Lf.l l3, Lf.i i4, Lf.i ((IntKind.i64.wrap (IntKind.i64.wrap (IntKind.i64.wrap (IntKind.i64.wrap (trnI i5 (5 : Int) + xorI IntKind.i64 (xorI IntKind.i64 i6 i7) i8) + i9) + (3395469782 : Int)) + l1.getD i10.toNat (0 : Int))).tmod (4294967296 : Int)), Lf.i i5, Lf.i (trnI i6 (30 : Int)), Lf.i i7, Lf.i i8, Lf.i (IntKind.i64.wrap (i10 + (1 : Int)))] else none else none else none else bif decide (l0.length = l0.length) then h (2 : Nat) [Lf.l l0, Lf.l l2, Lf.l (setD (5 : Nat) (setD (5 : Nat) (setD (5 : Nat) (setD (5 : Nat) (setD (5 : Nat) [(0 : Int), (0 : Int), (0 : Int), (0 : Int), (0 : Int)] (0 : Nat) ((IntKind.i64.wrap (l3.getD (0 : Nat) (0 : Int) + i5)).tmod (4294967296 : Int))) (1 : Nat) ((IntKind.i64.wrap (l3.getD (1 : Nat) (0 : Int) + i6)).tmod (4294967296 : Int))) (2 : Nat) ((IntKind.i64.wrap (l3.getD (2 : Nat) (0 : Int) + i7)).tmod (4294967296 : Int))) (3 : Nat) ((IntKind.i64.wrap (l3.getD (3 : Nat) (0 : Int) + i8)).tmod (4294967296 : Int))) (4 : Nat) ((IntKind.i64.wrap (l3.getD (4 : Nat) (0 : Int) + i9)).tmod (4294967296 : Int))), Lf.i (IntKind.i64.wrap (i4 + (64 : Int)))] else none := by kernel_rfl

theorem trn_nat {n k : Nat} (hn : n < 4294967296) (hk : k ≤ 30) : trnI (n : Int) (k : Int) = ((rotN n k : Nat) : Int) := by
  have hp : 2 ^ k ≤ 2 ^ 30 := Nat.pow_le_pow_right (by decide) hk
  have h1 : n * 2 ^ k < 9223372036854775808 := by
    have : n * 2 ^ k ≤ 4294967295 * 2 ^ 30 := Nat.mul_le_mul (by omega) hp
    omega
  have e1 : IntKind.u64.wrap (k : Int) = (k : Int) := by rw [wrap_u64, Nat.mod_eq_of_lt (by omega)]
  have e2 : IntKind.i64.wrap (32 - (k : Int)) = ((32 - k : Nat) : Int) := by rw [IntWalk.i64_in _ (by omega)]; omega
  have e3 : IntKind.u64.wrap ((32 - k : Nat) : Int) = ((32 - k : Nat) : Int) := by rw [wrap_u64, Nat.mod_eq_of_lt (by omega)]
  unfold trnI
  rw [e1, e2, e3, shlI_i n k (by omega) h1, shrI_u .i64 n (32 - k) (by show 32 - k ≤ 64; omega)]
  rw [Int.tmod_eq_emod_of_nonneg (Int.natCast_nonneg _), show ((n * 2 ^ k : Nat) : Int) % 4294967296 = ((n * 2 ^ k % 4294967296 : Nat) : Int) from rfl, ← Int.natCast_add]
  have h3 : n / 2 ^ (32 - k) ≤ n := Nat.div_le_self _ _
  exact wrap_i64 _ (by omega)
theorem r9_sum {r f e k w : Nat} (hr : r < 4294967296) (hf : f < 8589934592) (he : e < 4294967296) (hk : k < 4294967296) (hw : w < 4294967296) :
    (IntKind.i64.wrap (IntKind.i64.wrap (IntKind.i64.wrap (IntKind.i64.wrap ((r : Int) + (f : Int)) + (e : Int)) + (k : Int)) + (w : Int))).tmod 4294967296 = (((r + f + e + k + w) % 4294967296 : Nat) : Int) := by
  rw [← Int.natCast_add, wrap_i64 _ (by omega), ← Int.natCast_add, wrap_i64 _ (by omega), ← Int.natCast_add, wrap_i64 _ (by omega), ← Int.natCast_add, wrap_i64 _ (by omega)]
  rw [Int.tmod_eq_emod_of_nonneg (Int.natCast_nonneg _)]; rfl
theorem r9_end {a b : Nat} (ha : a < 4294967296) (hb : b < 4294967296) : (IntKind.i64.wrap ((a : Int) + (b : Int))).tmod 4294967296 = (((a + b) % 4294967296 : Nat) : Int) := by
  rw [← Int.natCast_add, wrap_i64 _ (by omega), Int.tmod_eq_emod_of_nonneg (Int.natCast_nonneg _)]; rfl
def r9R (n : List Nat) (j : Nat) (ls : List Lf) : Prop := ∃ k, rw9_f.H rw9_e [] k j ls = some ⟨agg [.arr .i64 5 (castL (wordsN n))], []⟩
theorem not_nat {a : Nat} (h : a < 4294967296) : IntKind.i64.wrap (4294967295 - (a : Int)) = ((4294967295 - a : Nat) : Int) := by
  rw [show (4294967295 : Int) - (a : Int) = ((4294967295 - a : Nat) : Int) by omega]; exact wrap_i64 _ (by omega)
theorem w9 {a : Nat} (h : a < 4294967296) : a < 9223372036854775808 := by omega
theorem setD5 (a b c d e : Int) : setD 5 (setD 5 (setD 5 (setD 5 (setD 5 [0, 0, 0, 0, 0] 0 a) 1 b) 2 c) 3 d) 4 e = [a, b, c, d, e] := rfl
theorem stN_five (m : List Nat) (i : Nat) : castL (stN m i) = [((nthN (stN m i) 0 : Nat) : Int), ((nthN (stN m i) 1 : Nat) : Int), ((nthN (stN m i) 2 : Nat) : Int), ((nthN (stN m i) 3 : Nat) : Int), ((nthN (stN m i) 4 : Nat) : Int)] := by
  have h := stN_len m i
  generalize stN m i = s at h
  match s, h with
  | [a, b, c, d, e], _ => rfl
theorem r9_rounds {n : List Nat} (hn : ∀ x ∈ n, x < 256) (z : List Int) (i : Nat) (hi : 64 * (i + 1) ≤ 2000000) (nx : r9R n 2 [.l (castL (padL n)), .l z, .l (castL (stN (padL n) (i + 1))), .i ((64 * (i + 1) : Nat) : Int)]) : ∀ d t, t ≤ 80 → 80 - t = d →
    r9R n 6 [.l (castL (padL n)), .l (castL (w80 (bkN n i))), .l z, .l (castL (stN (padL n) i)), .i ((64 * i : Nat) : Int), .i ((nthN (xN n i t) 0 : Nat) : Int), .i ((nthN (xN n i t) 1 : Nat) : Int), .i ((nthN (xN n i t) 2 : Nat) : Int), .i ((nthN (xN n i t) 3 : Nat) : Int), .i ((nthN (xN n i t) 4 : Nat) : Int), .i (t : Int)] := by
  intro d
  induction d with
  | zero =>
    intro t ht hd
    obtain rfl : t = 80 := by omega
    obtain ⟨k, hk⟩ := nx
    refine ⟨k + 1, ?_⟩
    rw [FnD.H_succ, rw9_l6]
    refine condF (by omega) (condB (by simp) ?_)
    have g := fun j => nthN_32 (xN_lt n i 80) j
    have gs := fun j => nthN_32 (stN_lt (padL n) i) j
    rw [setD5, nth_castL, nth_castL, nth_castL, nth_castL, nth_castL, r9_end (gs 0) (g 0), r9_end (gs 1) (g 1), r9_end (gs 2) (g 2), r9_end (gs 3) (g 3), r9_end (gs 4) (g 4)]
    rw [show IntKind.i64.wrap (((64 * i : Nat) : Int) + 64) = ((64 * (i + 1) : Nat) : Int) by rw [IntWalk.i64_in _ (by omega)]; omega]
    rw [stN_next] at hk
    unfold compN at hk
    dsimp only at hk
    rw [xN_80] at hk
    exact hk
  | succ d ih =>
    intro t ht hd
    obtain ⟨k, hk⟩ := ih (t + 1) (by omega) (by omega)
    refine ⟨k + 1, ?_⟩
    rw [FnD.H_succ, rw9_l6]
    have g := fun j => nthN_32 (xN_lt n i t) j
    have gw : nthN (w80 (bkN n i)) t < 4294967296 := nthN_32 (w80_lt (bkN_lt hn i)) t
    rw [step0, show nthN (xN n i (t + 1)) 1 = nthN (xN n i t) 0 from rfl, show nthN (xN n i (t + 1)) 2 = rotN (nthN (xN n i t) 1) 30 from rfl, show nthN (xN n i (t + 1)) 3 = nthN (xN n i t) 2 from rfl, show nthN (xN n i (t + 1)) 4 = nthN (xN n i t) 3 from rfl] at hk
    have wl : (castL (w80 (bkN n i))).length = 80 := by rw [castL_length, w80_len]
    rw [Int.toNat_natCast, nth_castL, wl]
    rw [show IntKind.i64.wrap ((t : Int) + 1) = ((t + 1 : Nat) : Int) by rw [IntWalk.i64_in _ (by omega)]; omega]
    generalize nthN (w80 (bkN n i)) t = w at gw hk ⊢
    generalize xN n i t = X at g hk ⊢
    have r5 := trn_nat (g 0) (show 5 ≤ 30 by decide)
    have r30 := trn_nat (g 1) (show 30 ≤ 30 by decide)
    rw [show ((5 : Nat) : Int) = 5 from rfl] at r5
    rw [show ((30 : Nat) : Int) = 30 from rfl] at r30
    rw [r5, r30]
    have hrl := rotN_lt (g 0) (show 5 ≤ 32 by decide)
    have l1 : nthN X 1 &&& nthN X 2 < 4294967296 := and_lt (w := 32) (g 1)
    have l9 : 4294967295 - nthN X 1 < 4294967296 := by omega
    have l2 : (4294967295 - nthN X 1) &&& nthN X 3 < 4294967296 := Nat.lt_of_le_of_lt Nat.and_le_right (g 3)
    have l3 : nthN X 1 &&& nthN X 3 < 4294967296 := and_lt (w := 32) (g 1)
    have l4 : nthN X 2 &&& nthN X 3 < 4294967296 := and_lt (w := 32) (g 2)
    have l5 : (nthN X 1 &&& nthN X 2) ||| (nthN X 1 &&& nthN X 3) < 4294967296 := or_lt (w := 32) l1 l3
    have l7 : (nthN X 1 &&& nthN X 2) ||| (nthN X 1 &&& nthN X 3) ||| (nthN X 2 &&& nthN X 3) < 4294967296 := or_lt (w := 32) l5 l4
    have l6 : nthN X 1 ^^^ nthN X 2 < 4294967296 := xor_lt (w := 32) (g 1) (g 2)
    have l8 : nthN X 1 ^^^ nthN X 2 ^^^ nthN X 3 < 4294967296 := xor_lt (w := 32) l6 (g 3)
    have hin : inB (t : Int) 80 = true := (inB_iff _ _).2 (by omega)
    have ht8 : t < 80 := by omega
    refine condT (by omega) ?_
    by_cases h20 : t < 20
    · have hf : fN t (nthN X 1) (nthN X 2) (nthN X 3) = (nthN X 1 &&& nthN X 2) + ((4294967295 - nthN X 1) &&& nthN X 3) := by
        rw [fN, if_pos (by omega), ← and_or_disj (g 1) (g 3)]
      have hkk : kN t = 1518500249 := by rw [kN, if_pos (by omega)]
      rw [hf, hkk] at hk
      refine condT (by omega) (condB hin (condT ht8 (condB (by simp) ?_)))
      rw [andI_i (w9 (g 1)) (w9 (g 2)), not_nat (g 1), andI_i (w9 l9) (w9 (g 3)), ← Int.natCast_add, wrap_i64 _ (by omega), show (1518500249 : Int) = ((1518500249 : Nat) : Int) from rfl, r9_sum hrl (by omega) (g 4) (by decide) gw]
      exact hk
    refine condF (by omega) ?_
    by_cases h40 : t < 40
    · have hf : fN t (nthN X 1) (nthN X 2) (nthN X 3) = nthN X 1 ^^^ nthN X 2 ^^^ nthN X 3 := by
        rw [fN, if_neg (by omega), if_neg (by omega)]
      have hkk : kN t = 1859775393 := by rw [kN, if_neg (by omega), if_pos (by omega)]
      rw [hf, hkk] at hk
      refine condT (by omega) (condB hin (condT ht8 (condB (by simp) ?_)))
      rw [xorI_i (w9 (g 1)) (w9 (g 2)), xorI_i (w9 l6) (w9 (g 3)), show (1859775393 : Int) = ((1859775393 : Nat) : Int) from rfl, r9_sum hrl (by omega) (g 4) (by decide) gw]
      exact hk
    refine condF (by omega) ?_
    by_cases h60 : t < 60
    · have hf : fN t (nthN X 1) (nthN X 2) (nthN X 3) = (nthN X 1 &&& nthN X 2) ||| (nthN X 1 &&& nthN X 3) ||| (nthN X 2 &&& nthN X 3) := by
        rw [fN, if_neg (by omega), if_pos (by omega)]
      have hkk : kN t = 2400959708 := by rw [kN, if_neg (by omega), if_neg (by omega), if_pos (by omega)]
      rw [hf, hkk] at hk
      refine condT (by omega) (condB hin (condT ht8 (condB (by simp) ?_)))
      rw [andI_i (w9 (g 1)) (w9 (g 2)), andI_i (w9 (g 1)) (w9 (g 3)), andI_i (w9 (g 2)) (w9 (g 3)), orI_i (w9 l1) (w9 l3), orI_i (w9 l5) (w9 l4), show (2400959708 : Int) = ((2400959708 : Nat) : Int) from rfl, r9_sum hrl (by omega) (g 4) (by decide) gw]
      exact hk
    refine condF (by omega) ?_
    have hf : fN t (nthN X 1) (nthN X 2) (nthN X 3) = nthN X 1 ^^^ nthN X 2 ^^^ nthN X 3 := by
      rw [fN, if_neg (by omega), if_neg (by omega)]
    have hkk : kN t = 3395469782 := by rw [kN, if_neg (by omega), if_neg (by omega), if_neg (by omega)]
    rw [hf, hkk] at hk
    refine condB hin (condT ht8 (condB (by simp) ?_))
    rw [xorI_i (w9 (g 1)) (w9 (g 2)), xorI_i (w9 l6) (w9 (g 3)), show (3395469782 : Int) = ((3395469782 : Nat) : Int) from rfl, r9_sum hrl (by omega) (g 4) (by decide) gw]
    exact hk
theorem r9_words {n : List Nat} (hn : ∀ x ∈ n, x < 256) (z : List Int) (i : Nat) (hi : 64 * (i + 1) ≤ 2000000) (nx : r9R n 2 [.l (castL (padL n)), .l z, .l (castL (stN (padL n) (i + 1))), .i ((64 * (i + 1) : Nat) : Int)]) : ∀ d t, 16 ≤ t → t ≤ 80 → 80 - t = d →
    r9R n 5 [.l (castL (padL n)), .l (castL (rowN (bkN n i) t)), .l z, .l (castL (stN (padL n) i)), .i ((64 * i : Nat) : Int), .i (t : Int)] := by
  intro d
  induction d with
  | zero =>
    intro t h16 ht hd
    obtain rfl : t = 80 := by omega
    obtain ⟨k, hk⟩ := r9_rounds hn z i hi nx 80 0 (by decide) rfl
    refine ⟨k + 1, ?_⟩
    rw [FnD.H_succ, rw9_l5]
    refine condF (by omega) (condB (by simp) ?_)
    rw [rowN_80, nth_castL, nth_castL, nth_castL, nth_castL, nth_castL]
    exact hk
  | succ d ih =>
    intro t h16 ht hd
    obtain ⟨k, hk⟩ := ih (t + 1) (by omega) (by omega) (by omega)
    refine ⟨k + 1, ?_⟩
    rw [FnD.H_succ, rw9_l5]
    dsimp only
    have hrl : (castL (rowN (bkN n i) t)).length = 80 := by rw [castL_length, rowN_len ht]
    have e3 : IntKind.i64.wrap ((t : Int) - 3) = ((t - 3 : Nat) : Int) := by rw [IntWalk.i64_in _ (by omega)]; omega
    have e8 : IntKind.i64.wrap ((t : Int) - 8) = ((t - 8 : Nat) : Int) := by rw [IntWalk.i64_in _ (by omega)]; omega
    have e14 : IntKind.i64.wrap ((t : Int) - 14) = ((t - 14 : Nat) : Int) := by rw [IntWalk.i64_in _ (by omega)]; omega
    have e16 : IntKind.i64.wrap ((t : Int) - 16) = ((t - 16 : Nat) : Int) := by rw [IntWalk.i64_in _ (by omega)]; omega
    have k3 := rowN_lo (b := bkN n i) (show t - 3 < t by omega) ht
    have k8 := rowN_lo (b := bkN n i) (show t - 8 < t by omega) ht
    have k14 := rowN_lo (b := bkN n i) (show t - 14 < t by omega) ht
    have k16 := rowN_lo (b := bkN n i) (show t - 16 < t by omega) ht
    have g : ∀ j, nthN (w80 (bkN n i)) j < 4294967296 := fun j => nthN_32 (w80_lt (bkN_lt hn i)) j
    have x1 := xor_lt (w := 32) (g (t - 3)) (g (t - 8))
    have x2 := xor_lt (w := 32) x1 (g (t - 14))
    have x3 := xor_lt (w := 32) x2 (g (t - 16))
    have r1 := trn_nat (k := 1) x3 (by decide)
    rw [show ((1 : Nat) : Int) = 1 from rfl] at r1
    rw [e3, e8, e14, e16, Int.toNat_natCast, Int.toNat_natCast, Int.toNat_natCast, Int.toNat_natCast, Int.toNat_natCast, nth_castL, nth_castL, nth_castL, nth_castL, k3, k8, k14, k16]
    rw [xorI_i (w9 (g _)) (w9 (g _)), xorI_i (w9 x1) (w9 (g _)), xorI_i (w9 x2) (w9 (g _)), r1, ← w80_hi h16 (by omega), set_castL, rowN_next (by omega)]
    rw [show IntKind.i64.wrap ((t : Int) + 1) = ((t + 1 : Nat) : Int) by rw [IntWalk.i64_in _ (by omega)]; omega]
    have hrl2 : (castL (rowN (bkN n i) (t + 1))).length = 80 := by rw [castL_length, rowN_len (by omega)]
    rw [hrl, hrl2]
    refine condT (by omega) (condB ((inB_iff _ _).2 (by omega)) (condT (by omega) (condB ((inB_iff _ _).2 (by omega)) (condT (by omega) (condB ((inB_iff _ _).2 (by omega)) (condT (by omega) (condB ((inB_iff _ _).2 (by omega)) (condT (by omega) (condB ((inB_iff _ _).2 (by omega)) (condT (by omega) (condB (by simp) hk)))))))))))
theorem r9_bytes {n : List Nat} (hn : ∀ x ∈ n, x < 256) (z : List Int) (i : Nat) (hi : 64 * (i + 1) ≤ 2000000) (hP : 64 * (i + 1) ≤ (padL n).length) {t : Nat} (ht : t < 16)
    (nx : r9R n 3 [.l (castL (padL n)), .l (castL (rowN (bkN n i) (t + 1))), .l z, .l (castL (stN (padL n) i)), .i ((64 * i : Nat) : Int), .i ((t + 1 : Nat) : Int)]) : ∀ d k, k ≤ 4 → 4 - k = d →
    r9R n 4 [.l (castL (padL n)), .l (castL ((rowN (bkN n i) t).set t (pwN (bkN n i) t k))), .l z, .l (castL (stN (padL n) i)), .i ((64 * i : Nat) : Int), .i (t : Int), .i (k : Int)] := by
  intro d
  have hrl : (rowN (bkN n i) t).length = 80 := rowN_len (by omega)
  have hll : ∀ v, (castL ((rowN (bkN n i) t).set t v)).length = 80 := fun v => by rw [castL_length, List.length_set, hrl]
  induction d with
  | zero =>
    intro k hk hd
    obtain rfl : k = 4 := by omega
    obtain ⟨m, hm⟩ := nx
    refine ⟨m + 1, ?_⟩
    rw [FnD.H_succ, rw9_l4]
    dsimp only
    rw [show IntKind.i64.wrap ((t : Int) + 1) = ((t + 1 : Nat) : Int) by rw [IntWalk.i64_in _ (by omega)]; omega]
    rw [pwN_4, ← w80_lo ht, rowN_next (by omega)]
    exact condF (by omega) (condB (by simp) hm)
  | succ d ih =>
    intro k hk hd
    obtain ⟨m, hm⟩ := ih (k + 1) (by omega) (by omega)
    refine ⟨m + 1, ?_⟩
    rw [FnD.H_succ, rw9_l4]
    dsimp only
    have hpw : pwN (bkN n i) t k < 4294967296 := Nat.lt_of_lt_of_le (pwN_lt (bkN_lt hn i) t k) (Nat.le_trans (Nat.pow_le_pow_right (by decide) hk) (by decide))
    have gp := nthN_8 (padL_lt hn) (64 * i + 4 * t + k)
    have e1 : IntKind.i64.wrap (4 * (t : Int)) = ((4 * t : Nat) : Int) := by rw [IntWalk.i64_in _ (by omega)]; omega
    have e2 : IntKind.i64.wrap (((64 * i : Nat) : Int) + ((4 * t : Nat) : Int)) = ((64 * i + 4 * t : Nat) : Int) := by rw [IntWalk.i64_in _ (by omega)]; omega
    have e3 : IntKind.i64.wrap (((64 * i + 4 * t : Nat) : Int) + (k : Int)) = ((64 * i + 4 * t + k : Nat) : Int) := by rw [IntWalk.i64_in _ (by omega)]; omega
    have e4 : IntKind.i64.wrap ((k : Int) + 1) = ((k + 1 : Nat) : Int) := by rw [IntWalk.i64_in _ (by omega)]; omega
    have hget : nthN ((rowN (bkN n i) t).set t (pwN (bkN n i) t k)) t = pwN (bkN n i) t k := by
      rw [nthN_lt (by rw [List.length_set, hrl]; omega), List.getElem_set_self]
    rw [e1, e2, e3, e4, Int.toNat_natCast, Int.toNat_natCast, nth_castL, nth_castL, hget]
    have v1 : IntKind.i64.wrap (((pwN (bkN n i) t k : Nat) : Int) * 256) = ((pwN (bkN n i) t k * 256 : Nat) : Int) := by rw [IntWalk.i64_in _ (by omega)]; omega
    have v2 : IntKind.i64.wrap ((nthN (padL n) (64 * i + 4 * t + k) : Nat) : Int) = ((nthN (padL n) (64 * i + 4 * t + k) : Nat) : Int) := wrap_i64 _ (by omega)
    have v3 : IntKind.i64.wrap (((pwN (bkN n i) t k * 256 : Nat) : Int) + ((nthN (padL n) (64 * i + 4 * t + k) : Nat) : Int)) = ((pwN (bkN n i) t (k + 1) : Nat) : Int) := by
      rw [← Int.natCast_add, wrap_i64 _ (by omega), pwN, bkN_nth (by omega), Nat.add_assoc (64 * i)]
    rw [v1, v2, v3, set_castL, List.set_set, hll, hll, castL_length]
    refine condT (by omega) (condB ((inB_iff _ _).2 (by omega)) (condT (by omega) (condB ((inB_iff _ _).2 (by omega)) (condT (by omega) (condB ((inB_iff _ _).2 (by omega)) (condT (by omega) (condB (by simp) hm)))))))
theorem r9_sixteen {n : List Nat} (hn : ∀ x ∈ n, x < 256) (z : List Int) (i : Nat) (hi : 64 * (i + 1) ≤ 2000000) (hP : 64 * (i + 1) ≤ (padL n).length) (nx : r9R n 2 [.l (castL (padL n)), .l z, .l (castL (stN (padL n) (i + 1))), .i ((64 * (i + 1) : Nat) : Int)]) : ∀ d t, t ≤ 16 → 16 - t = d →
    r9R n 3 [.l (castL (padL n)), .l (castL (rowN (bkN n i) t)), .l z, .l (castL (stN (padL n) i)), .i ((64 * i : Nat) : Int), .i (t : Int)] := by
  intro d
  induction d with
  | zero =>
    intro t ht hd
    obtain rfl : t = 16 := by omega
    obtain ⟨k, hk⟩ := r9_words hn z i hi nx 64 16 (by decide) (by decide) rfl
    refine ⟨k + 1, ?_⟩
    rw [FnD.H_succ, rw9_l3]
    exact condF (by omega) (condB (by simp) hk)
  | succ d ih =>
    intro t ht hd
    obtain ⟨k, hk⟩ := r9_bytes hn z i hi hP (show t < 16 by omega) (ih (t + 1) (by omega) (by omega)) 4 0 (by decide) rfl
    refine ⟨k + 1, ?_⟩
    rw [FnD.H_succ, rw9_l3]
    rw [pwN, rowN_set0 (by omega)] at hk
    exact condT (by omega) (condB (by simp) hk)
theorem r9_blocks {n : List Nat} (hn : ∀ x ∈ n, x < 256) (hl : (padL n).length ≤ 1900000) (z : List Int) : ∀ d i, 64 * i ≤ (padL n).length → (padL n).length / 64 - i = d →
    r9R n 2 [.l (castL (padL n)), .l z, .l (castL (stN (padL n) i)), .i ((64 * i : Nat) : Int)] := by
  have h64 := padL_64 n
  intro d
  induction d with
  | zero =>
    intro i hi hd
    have e : i = (padL n).length / 64 := by omega
    refine ⟨1, ?_⟩
    rw [FnD.H_succ, rw9_l2]
    rw [castL_length]
    refine condF (by omega) ?_
    rw [e]; rfl
  | succ d ih =>
    intro i hi hd
    have hP : 64 * (i + 1) ≤ (padL n).length := by omega
    obtain ⟨k, hk⟩ := r9_sixteen hn z i (by omega) hP (ih (i + 1) hP (by omega)) 16 0 (by decide) rfl
    refine ⟨k + 1, ?_⟩
    rw [FnD.H_succ, rw9_l2]
    rw [row0, castL_replicate] at hk
    rw [castL_length]
    exact condT (by omega) (condB (by simp) hk)
theorem r9_lens {n : List Nat} (hn : ∀ x ∈ n, x < 256) (hl : n.length ≤ 1000000) (z : List Int) : ∀ d j, j ≤ 8 → 8 - j = d →
    r9R n 1 [.l (castL (padB n j)), .l z, .l (castL n), .i (7 - (j : Int))] := by
  have hz : zpad n.length < 64 := Nat.mod_lt _ (by decide)
  have hpl := padL_len n
  intro d
  induction d with
  | zero =>
    intro j hj hd
    obtain rfl : j = 8 := by omega
    obtain ⟨k, hk⟩ := r9_blocks hn (by omega) z _ 0 (by omega) rfl
    refine ⟨k + 1, ?_⟩
    rw [FnD.H_succ, rw9_l1]
    exact condF (by decide) (condB (by simp) hk)
  | succ d ih =>
    intro j hj hd
    obtain ⟨k, hk⟩ := ih (j + 1) (by omega) (by omega)
    refine ⟨k + 1, ?_⟩
    rw [FnD.H_succ, rw9_l1]
    dsimp only
    have e1 : IntKind.i64.wrap (8 * (7 - (j : Int))) = ((56 - 8 * j : Nat) : Int) := by rw [IntWalk.i64_in _ (by omega)]; omega
    have e2 : IntKind.u64.wrap ((56 - 8 * j : Nat) : Int) = ((56 - 8 * j : Nat) : Int) := by rw [wrap_u64, Nat.mod_eq_of_lt (by omega)]
    have e3 : IntKind.i64.wrap (((castL n).length : Int) * 8) = ((n.length * 8 : Nat) : Int) := by rw [castL_length, IntWalk.i64_in _ (by omega)]; omega
    have e4 : IntKind.u8.wrap (shrI .i64 ((n.length * 8 : Nat) : Int) ((56 - 8 * j : Nat) : Int)) = ((lenB n.length j : Nat) : Int) := by
      rw [shrI_u .i64 _ _ (by show 56 - 8 * j ≤ 64; omega), wrap_u8]; rfl
    have e5 : IntKind.i64.wrap (7 - (j : Int) - 1) = 7 - ((j + 1 : Nat) : Int) := by rw [IntWalk.i64_in _ (by omega)]; omega
    have hB := padB_len n j
    rw [e1, e2, e3, e4, e5, snoc_take, padB_succ, castL_length, castL_length]
    exact condT (by omega) (condT (by omega) (condB (leB (by omega)) (condT (by rw [padB_len, padB_len]; omega) hk)))
theorem r9_zeros {n : List Nat} (hn : ∀ x ∈ n, x < 256) (hl : n.length ≤ 1000000) (z : List Int) : ∀ d j, j ≤ zpad n.length → zpad n.length - j = d →
    r9R n 0 [.l (castL (padA n j)), .l z, .l (castL n)] := by
  have hz : zpad n.length < 64 := Nat.mod_lt _ (by decide)
  have hzd : zpad n.length = (119 - n.length % 64) % 64 := rfl
  intro d
  induction d with
  | zero =>
    intro j hj hd
    obtain rfl : j = zpad n.length := by omega
    obtain ⟨k, hk⟩ := r9_lens hn hl z 8 0 (by decide) rfl
    have ep : padB n 0 = padA n (zpad n.length) := by simp [padB]
    rw [ep] at hk
    refine ⟨k + 1, ?_⟩
    rw [FnD.H_succ, rw9_l0]
    dsimp only
    have hA := padA_len n (zpad n.length)
    rw [castL_length, show (((padA n (zpad n.length)).length : Int)).tmod 64 = (((padA n (zpad n.length)).length % 64 : Nat) : Int) from rfl]
    refine condN (by rw [decide_eq_true (show (((padA n (zpad n.length)).length % 64 : Nat) : Int) = 56 by omega)]; rfl) (condB (by simp) hk)
  | succ d ih =>
    intro j hj hd
    obtain ⟨k, hk⟩ := ih (j + 1) (by omega) (by omega)
    refine ⟨k + 1, ?_⟩
    rw [FnD.H_succ, rw9_l0]
    dsimp only
    have hA := padA_len n j
    have e0 : (castL (padA n j)).take (castL (padA n j)).length ++ [0] = castL (padA n (j + 1)) := by
      have := snoc_take (padA n j) 0
      rw [padA_succ] at this; exact this
    rw [e0, castL_length, castL_length, show (((padA n j).length : Int)).tmod 64 = (((padA n j).length % 64 : Nat) : Int) from rfl]
    exact condB (by rw [decide_eq_false (show ¬ (((padA n j).length % 64 : Nat) : Int) = 56 by omega)]; rfl) (condB (leB (by omega)) (condT (by rw [padA_len, padA_len]; omega) hk))
theorem rw9_run (l : List Int) (hp : bytesOk l ∧ l.length ≤ 1000000) : ∃ fu, rw9_f.run rw9_e [] fu [c1 (.ints .u8 l)] [] = some ⟨agg [.arr .i64 5 (castL (wordsN (natL l)))], []⟩ := by
  obtain ⟨hb, hl⟩ := hp
  obtain ⟨n, rfl, e, hb⟩ := bytes_nat hb
  rw [castL_length] at hl
  rw [e]
  obtain ⟨k, hk⟩ := r9_zeros hb hl [0, 0, 0, 0, 0] _ 0 (Nat.zero_le _) rfl
  refine ⟨k, ?_⟩
  rw [FnD.run, rw9_ent]
  dsimp only
  rw [Nat.zero_add, List.take_length, show castL n ++ [128] = castL (padA n 0) by unfold padA; rw [List.replicate_zero, List.append_nil]; exact castL_snoc n 128, castL_length, castL_length]
  exact condB (room1 (by omega)) (condB (leB (by omega)) (condT (by rw [padA_len]) hk))
theorem rw9_ok (l : List Int) (hp : bytesOk l ∧ l.length ≤ 1000000) : FnOk cfg 80 ([c1 (.ints .u8 l)].map SV.den) (agg [.arr .i64 5 (castL (wordsN (natL l)))] : SV).den := by
  obtain ⟨nn, h⟩ := rw9_run l hp
  exact FnD.ok rw9_g rw9_f mixed Tryz.func80 rfl rfl rfl rfl rfl rfl h
noncomputable def c_rw9 : SpecF := fun args _ K => match args with
  | [.one (.c (.ints .u8 l))] => bif decide (bytesOk l ∧ l.length ≤ 1000000) then K (agg [.arr .i64 5 (castL (wordsN (natL l)))]) [] else none
  | _ => none
theorem c_rw9_ok : SpecOk cfg 80 c_rw9 := by
  intro args bx K out h
  unfold c_rw9 at h
  split at h
  · obtain ⟨hp, h⟩ := bif_some h
    exact ⟨_, _, h, .inl (rw9_ok _ (of_decide_eq_true hp) _), by simp [isTupS]⟩
  · cases h
end Go.Proofs.YtldofkogmkfpjaaGreatDoor
