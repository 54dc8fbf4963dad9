/-
  LexScans.
-/
import Derived.Test.YtldofkogmkfpjaaGreatDoorWLzSyLexRef
namespace Go.Proofs.YtldofkogmkfpjaaGreatDoor
open Go Go.Ev Go.Sy
set_option linter.unusedSimpArgs false
set_option linter.unusedVariables false
set_option maxRecDepth 10000
set_option maxHeartbeats 4000000
/-! ### epactref10.Scan -/
noncomputable def rscan_e : Ev' := ⟨Tryz.prog, glob, Γof [(114, c_rblanks), (116, c_rnumb), (115, c_rword)]⟩
theorem rscan_g : Gd cfg rscan_e := gd (env_cons c_rblanks_ok (env_cons c_rnumb_ok (env_cons c_rword_ok (env_nil _))))
noncomputable def rscan_f : FnD := ⟨81, Tryz.f81, shOf [(0, ⟨179, [], [(2, [.c (.int .i64), .c (.int .i64), .c (.int .i64), .arr .u32 5]), (4, [.c (.int .i64), .c (.int .i64), .c (.int .i64), .arr .u32 5])], [(0, .c (.str)), (2, .c (.ptr 2 0)), (4, .c (.ptr 4 0)), (5, .c (.int .i64)), (6, .c (.int .i64))]⟩)], Tryz.f81.resultTypes.toList, 0⟩
theorem rscan_ent (h : Hd) (s : ByteArray) : rscan_f.ent rscan_e [] h [vS s] [] = let v1 : Int := (0 : Int) + (↑(List.takeWhile isBl (List.drop (0 : Nat) s.data.toList)).length : Int); let v2 : Int := (2 : Int) + (↑(List.takeWhile isBl (List.drop (2 : Nat) s.data.toList)).length : Int); let v3 : List UInt8 := List.takeWhile isDig (List.drop v2.toNat s.data.toList); let v4 : Nat := v3.length; let v5 : Int := if (18 : Nat) < v4 then (0 : Int) else v2 + (↑v4 : Int); let v6 : Int := v5 + (↑(List.takeWhile isBl (List.drop v5.toNat s.data.toList)).length : Int); let v7 : Int := if (18 : Nat) < v4 then (0 : Int) else dval v3; let v8 : Int := if (18 : Nat) < (List.takeWhile isDig (List.drop (0 : Nat) s.data.toList)).length then (0 : Int) else (0 : Int) + (↑(List.takeWhile isDig (List.drop (0 : Nat) s.data.toList)).length : Int); let v9 : Int := v8 + (↑(List.takeWhile isBl (List.drop v8.toNat s.data.toList)).length : Int); let v10 : List UInt8 := List.takeWhile isDig (List.drop v9.toNat s.data.toList); let v11 : Nat := v10.length; let v12 : Int := if (18 : Nat) < v11 then (0 : Int) else v9 + (↑v11 : Int); let v13 : Int := v12 + (↑(List.takeWhile isBl (List.drop v12.toNat s.data.toList)).length : Int); let v14 : Int := if (18 : Nat) < (List.takeWhile isDig (List.drop (0 : Nat) s.data.toList)).length then (0 : Int) else dval (List.takeWhile isDig (List.drop (0 : Nat) s.data.toList)); let v15 : Int := if (18 : Nat) < v11 then (0 : Int) else dval v10; let v16 : Int := (bytesI s).getD v13.toNat (0 : Int); bif decide ((0 : Int) ≤ (0 : Int) ∧ (0 : Int) ≤ (↑s.size : Int) ∧ s.size ≤ (9223372036854775807 : Nat)) then bif decide (v1 = (↑s.size : Int)) then ret (SV.tup [S1.agg [gI (1 : Int), gI (0 : Int), gI (0 : Int), Sg.arr IntKind.u32 (5 : Nat) [(0 : Int), (0 : Int), (0 : Int), (0 : Int), (0 : Int)]], S1.c (Cl.bool true)]) else bif inB (0 : Int) s.size then bif decide ((bytesI s).getD (0 : Nat) (0 : Int) = (35 : Int)) then bif decide ((↑s.size : Int) = (1 : Int)) then ret (SV.tup [S1.agg [gI (1 : Int), gI (0 : Int), gI (0 : Int), Sg.arr IntKind.u32 (5 : Nat) [(0 : Int), (0 : Int), (0 : Int), (0 : Int), (0 : Int)]], S1.c (Cl.bool true)]) else bif inB (1 : Int) s.size then bif !decide ((bytesI s).getD (1 : Nat) (0 : Int) = (36 : Int)) then bif inB (1 : Int) s.size then bif !decide ((bytesI s).getD (1 : Nat) (0 : Int) = (64 : Int)) then bif inB (1 : Int) s.size then bif !decide ((bytesI s).getD (1 : Nat) (0 : Int) = (104 : Int)) then ret (SV.tup [S1.agg [gI (1 : Int), gI (0 : Int), gI (0 : Int), Sg.arr IntKind.u32 (5 : Nat) [(0 : Int), (0 : Int), (0 : Int), (0 : Int), (0 : Int)]], S1.c (Cl.bool true)]) else bif inB (0 : Int) s.size then bif decide ((bytesI s).getD (0 : Nat) (0 : Int) = (35 : Int)) then bif inB (1 : Int) s.size then bif decide ((bytesI s).getD (1 : Nat) (0 : Int) = (104 : Int)) then h (0 : Nat) [Lf.i (0 : Int), Lf.i (0 : Int), Lf.i (0 : Int), Lf.l [(0 : Int), (0 : Int), (0 : Int), (0 : Int), (0 : Int)], Lf.i (4 : Int), Lf.i (0 : Int), Lf.i (0 : Int), Lf.l [(0 : Int), (0 : Int), (0 : Int), (0 : Int), (0 : Int)], Lf.s s, Lf.i (2 : Int), Lf.i (0 : Int)] else bif inB (0 : Int) s.size then bif decide ((bytesI s).getD (0 : Nat) (0 : Int) = (35 : Int)) then bif decide ((0 : Int) ≤ (2 : Int) ∧ (2 : Int) ≤ (↑s.size : Int) ∧ s.size ≤ (9223372036854775807 : Nat)) then bif decide ((0 : Int) ≤ v2 ∧ v2 ≤ (↑s.size : Int) ∧ s.size ≤ (9223372036854775807 : Nat)) then bif decide (v2 = (2 : Int)) then ret (SV.tup [S1.agg [gI (0 : Int), gI (0 : Int), gI (0 : Int), Sg.arr IntKind.u32 (5 : Nat) [(0 : Int), (0 : Int), (0 : Int), (0 : Int), (0 : Int)]], S1.c (Cl.bool false)]) else bif !okN v3 then ret (SV.tup [S1.agg [gI (0 : Int), gI (0 : Int), gI (0 : Int), Sg.arr IntKind.u32 (5 : Nat) [(0 : Int), (0 : Int), (0 : Int), (0 : Int), (0 : Int)]], S1.c (Cl.bool false)]) else bif decide ((0 : Int) ≤ v5 ∧ v5 ≤ (↑s.size : Int) ∧ s.size ≤ (9223372036854775807 : Nat)) then bif !decide (v6 = (↑s.size : Int)) then ret (SV.tup [S1.agg [gI (0 : Int), gI (0 : Int), gI (0 : Int), Sg.arr IntKind.u32 (5 : Nat) [(0 : Int), (0 : Int), (0 : Int), (0 : Int), (0 : Int)]], S1.c (Cl.bool false)]) else bif inB (1 : Int) s.size then bif decide ((bytesI s).getD (1 : Nat) (0 : Int) = (36 : Int)) then ret (SV.tup [S1.agg [gI (2 : Int), gI v7, gI (0 : Int), Sg.arr IntKind.u32 (5 : Nat) [(0 : Int), (0 : Int), (0 : Int), (0 : Int), (0 : Int)]], S1.c (Cl.bool true)]) else ret (SV.tup [S1.agg [gI (3 : Int), gI v7, gI (0 : Int), Sg.arr IntKind.u32 (5 : Nat) [(0 : Int), (0 : Int), (0 : Int), (0 : Int), (0 : Int)]], S1.c (Cl.bool true)]) else none else none else none else none else bif decide ((0 : Int) ≤ (0 : Int) ∧ (0 : Int) ≤ (↑s.size : Int) ∧ s.size ≤ (9223372036854775807 : Nat)) then bif !okN (List.takeWhile isDig (List.drop (0 : Nat) s.data.toList)) then ret (SV.tup [S1.agg [gI (0 : Int), gI (0 : Int), gI (0 : Int), Sg.arr IntKind.u32 (5 : Nat) [(0 : Int), (0 : Int), (0 : Int), (0 : Int), (0 : Int)]], S1.c (Cl.bool false)]) else bif decide ((0 : Int) ≤ v8 ∧ v8 ≤ (↑s.size : Int) ∧ s.size ≤ (9223372036854775807 : Nat)) then bif decide ((0 : Int) ≤ v9 ∧ v9 ≤ (↑s.size : Int) ∧ s.size ≤ (9223372036854775807 : Nat)) then bif decide (v9 = v8) then ret (SV.tup [S1.agg [gI (0 : Int), gI (0 : Int), gI (0 : Int), Sg.arr IntKind.u32 (5 : Nat) [(0 : Int), (0 : Int), (0 : Int), (0 : Int), (0 : Int)]], S1.c (Cl.bool false)]) else bif !okN v10 then ret (SV.tup [S1.agg [gI (0 : Int), gI (0 : Int), gI (0 : Int), Sg.arr IntKind.u32 (5 : Nat) [(0 : Int), (0 : Int), (0 : Int), (0 : Int), (0 : Int)]], S1.c (Cl.bool false)]) else bif decide ((0 : Int) ≤ v12 ∧ v12 ≤ (↑s.size : Int) ∧ s.size ≤ (9223372036854775807 : Nat)) then bif decide (v13 = (↑s.size : Int)) then ret (SV.tup [S1.agg [gI (5 : Int), gI v14, gI v15, Sg.arr IntKind.u32 (5 : Nat) [(0 : Int), (0 : Int), (0 : Int), (0 : Int), (0 : Int)]], S1.c (Cl.bool true)]) else bif decide (v12 < v13) then bif inB v13 s.size then bif decide (v16 = (35 : Int)) then ret (SV.tup [S1.agg [gI (5 : Int), gI v14, gI v15, Sg.arr IntKind.u32 (5 : Nat) [(0 : Int), (0 : Int), (0 : Int), (0 : Int), (0 : Int)]], S1.c (Cl.bool true)]) else ret (SV.tup [S1.agg [gI (0 : Int), gI (0 : Int), gI (0 : Int), Sg.arr IntKind.u32 (5 : Nat) [(0 : Int), (0 : Int), (0 : Int), (0 : Int), (0 : Int)]], S1.c (Cl.bool false)]) else none else ret (SV.tup [S1.agg [gI (0 : Int), gI (0 : Int), gI (0 : Int), Sg.arr IntKind.u32 (5 : Nat) [(0 : Int), (0 : Int), (0 : Int), (0 : Int), (0 : Int)]], S1.c (Cl.bool false)]) else none else none else none else none else none else none else bif inB (0 : Int) s.size then bif decide ((bytesI s).getD (0 : Nat) (0 : Int) = (35 : Int)) then bif decide ((0 : Int) ≤ (2 : Int) ∧ (2 : Int) ≤ (↑s.size : Int) ∧ s.size ≤ (9223372036854775807 : Nat)) then bif decide ((0 : Int) ≤ v2 ∧ v2 ≤ (↑s.size : Int) ∧ s.size ≤ (9223372036854775807 : Nat)) then bif decide (v2 = (2 : Int)) then ret (SV.tup [S1.agg [gI (0 : Int), gI (0 : Int), gI (0 : Int), Sg.arr IntKind.u32 (5 : Nat) [(0 : Int), (0 : Int), (0 : Int), (0 : Int), (0 : Int)]], S1.c (Cl.bool false)]) else bif !okN v3 then ret (SV.tup [S1.agg [gI (0 : Int), gI (0 : Int), gI (0 : Int), Sg.arr IntKind.u32 (5 : Nat) [(0 : Int), (0 : Int), (0 : Int), (0 : Int), (0 : Int)]], S1.c (Cl.bool false)]) else bif decide ((0 : Int) ≤ v5 ∧ v5 ≤ (↑s.size : Int) ∧ s.size ≤ (9223372036854775807 : Nat)) then bif !decide (v6 = (↑s.size : Int)) then ret (SV.tup [S1.agg [gI (0 : Int), gI (0 : Int), gI (0 : Int), Sg.arr IntKind.u32 (5 : Nat) [(0 : Int), (0 : Int), (0 : Int), (0 : Int), (0 : Int)]], S1.c (Cl.bool false)]) else bif inB (1 : Int) s.size then bif decide ((bytesI s).getD (1 : Nat) (0 : Int) = (36 : Int)) then ret (SV.tup [S1.agg [gI (2 : Int), gI v7, gI (0 : Int), Sg.arr IntKind.u32 (5 : Nat) [(0 : Int), (0 : Int), (0 : Int), (0 : Int), (0 : Int)]], S1.c (Cl.bool true)]) else ret (SV.tup [S1.agg [gI (3 : Int), gI v7, gI (0 : Int), Sg.arr IntKind.u32 (5 : Nat) [(0 : Int), (0 : Int), (0 : Int), (0 : Int), (0 : Int)]], S1.c (Cl.bool true)]) else none else none else none else none else bif decide ((0 : Int) ≤ (0 : Int) ∧ (0 : Int) ≤ (↑s.size : Int) ∧ s.size ≤ (9223372036854775807 : Nat)) then bif !okN (List.takeWhile isDig (List.drop (0 : Nat) s.data.toList)) then ret (SV.tup [S1.agg [gI (0 : Int), gI (0 : Int), gI (0 : Int), Sg.arr IntKind.u32 (5 : Nat) [(0 : Int), (0 : Int), (0 : Int), (0 : Int), (0 : Int)]], S1.c (Cl.bool false)]) else bif decide ((0 : Int) ≤ v8 ∧ v8 ≤ (↑s.size : Int) ∧ s.size ≤ (9223372036854775807 : Nat)) then bif decide ((0 : Int) ≤ v9 ∧ v9 ≤ (↑s.size : Int) ∧ s.size ≤ (9223372036854775807 : Nat)) then bif decide (v9 = v8) then ret (SV.tup [S1.agg [gI (0 : Int), gI (0 : Int), gI (0 : Int), Sg.arr IntKind.u32 (5 : Nat) [(0 : Int), (0 : Int), (0 : Int), (0 : Int), (0 : Int)]], S1.c (Cl.bool false)]) else bif !okN v10 then ret (SV.tup [S1.agg [gI (0 : Int), gI (0 : Int), gI (0 : Int), Sg.arr IntKind.u32 (5 : Nat) [(0 : Int), (0 : Int), (0 : Int), (0 : Int), (0 : Int)]], S1.c (Cl.bool false)]) else bif decide ((0 : Int) ≤ v12 ∧ v12 ≤ (↑s.size : Int) ∧ s.size ≤ (9223372036854775807 : Nat)) then bif decide (v13 = (↑s.size : Int)) then ret (SV.tup [S1.agg [gI (5 : Int), gI v14, gI v15, Sg.arr IntKind.u32 (5 : Nat) [(0 : Int), (0 : Int), (0 : Int), (0 : Int), (0 : Int)]], S1.c (Cl.bool true)]) else bif decide (v12 < v13) then bif inB v13 s.size then bif decide (v16 = (35 : Int)) then ret (SV.tup [S1.agg [gI (5 : Int), gI v14, gI v15, Sg.arr IntKind.u32 (5 : Nat) [(0 : Int), (0 : Int), (0 : Int), (0 : Int), (0 : Int)]], S1.c (Cl.bool true)]) else ret (SV.tup [S1.agg [gI (0 : Int), gI (0 : Int), gI (0 : Int), Sg.arr IntKind.u32 (5 : Nat) [(0 : Int), (0 : Int), (0 : Int), (0 : Int), (0 : Int)]], S1.c (Cl.bool false)]) else none else ret (SV.tup [S1.agg [gI (0 : Int), gI (0 : Int), gI (0 : Int), Sg.arr IntKind.u32 (5 : Nat) [(0 : Int), (0 : Int), (0 : Int), (0 : Int), (0 : Int)]], S1.c (Cl.bool false)]) else none else none else none else none else none else none else none else bif inB (0 : Int) s.size then bif decide ((bytesI s).getD (0 : Nat) (0 : Int) = (35 : Int)) then bif inB (1 : Int) s.size then bif decide ((bytesI s).getD (1 : Nat) (0 : Int) = (104 : Int)) then h (0 : Nat) [Lf.i (0 : Int), Lf.i (0 : Int), Lf.i (0 : Int), Lf.l [(0 : Int), (0 : Int), (0 : Int), (0 : Int), (0 : Int)], Lf.i (4 : Int), Lf.i (0 : Int), Lf.i (0 : Int), Lf.l [(0 : Int), (0 : Int), (0 : Int), (0 : Int), (0 : Int)], Lf.s s, Lf.i (2 : Int), Lf.i (0 : Int)] else bif inB (0 : Int) s.size then bif decide ((bytesI s).getD (0 : Nat) (0 : Int) = (35 : Int)) then bif decide ((0 : Int) ≤ (2 : Int) ∧ (2 : Int) ≤ (↑s.size : Int) ∧ s.size ≤ (9223372036854775807 : Nat)) then bif decide ((0 : Int) ≤ v2 ∧ v2 ≤ (↑s.size : Int) ∧ s.size ≤ (9223372036854775807 : Nat)) then bif decide (v2 = (2 : Int)) then ret (SV.tup [S1.agg [gI (0 : Int), gI (0 : Int), gI (0 : Int), Sg.arr IntKind.u32 (5 : Nat) [(0 : Int), (0 : Int), (0 : Int), (0 : Int), (0 : Int)]], S1.c (Cl.bool false)]) else bif !okN v3 then ret (SV.tup [S1.agg [gI (0 : Int), gI (0 : Int), gI (0 : Int), Sg.arr IntKind.u32 (5 : Nat) [(0 : Int), (0 : Int), (0 : Int), (0 : Int), (0 : Int)]], S1.c (Cl.bool false)]) else bif decide ((0 : Int) ≤ v5 ∧ v5 ≤ (↑s.size : Int) ∧ s.size ≤ (9223372036854775807 : Nat)) then bif !decide (v6 = (↑s.size : Int)) then ret (SV.tup [S1.agg [gI (0 : Int), gI (0 : Int), gI (0 : Int), Sg.arr IntKind.u32 (5 : Nat) [(0 : Int), (0 : Int), (0 : Int), (0 : Int), (0 : Int)]], S1.c (Cl.bool false)]) else bif inB (1 : Int) s.size then bif decide ((bytesI s).getD (1 : Nat) (0 : Int) = (36 : Int)) then ret (SV.tup [S1.agg [gI (2 : Int), gI v7, gI (0 : Int), Sg.arr IntKind.u32 (5 : Nat) [(0 : Int), (0 : Int), (0 : Int), (0 : Int), (0 : Int)]], S1.c (Cl.bool true)]) else ret (SV.tup [S1.agg [gI (3 : Int), gI v7, gI (0 : Int), Sg.arr IntKind.u32 (5 : Nat) [(0 : Int), (0 : Int), (0 : Int), (0 : Int), (0 : Int)]], S1.c (Cl.bool true)]) else none else none else none else none else bif decide ((0 : Int) ≤ (0 : Int) ∧ (0 : Int) ≤ (↑s.size : Int) ∧ s.size ≤ (9223372036854775807 : Nat)) then bif !okN (List.takeWhile isDig (List.drop (0 : Nat) s.data.toList)) then ret (SV.tup [S1.agg [gI (0 : Int), gI (0 : Int), gI (0 : Int), Sg.arr IntKind.u32 (5 : Nat) [(0 : Int), (0 : Int), (0 : Int), (0 : Int), (0 : Int)]], S1.c (Cl.bool false)]) else bif decide ((0 : Int) ≤ v8 ∧ v8 ≤ (↑s.size : Int) ∧ s.size ≤ (9223372036854775807 : Nat)) then bif decide ((0 : Int) ≤ v9 ∧ v9 ≤ (↑s.size : Int) ∧ s.size ≤ (9223372036854775807 : Nat)) then bif decide (v9 = v8) then ret (SV.tup [S1.agg [gI (0 : Int), gI (0 : Int), gI (0 : Int), Sg.arr IntKind.u32 (5 : Nat) [(0 : Int), (0 : Int), (0 : Int), (0 : Int), (0 : Int)]], S1.c (Cl.bool false)]) else bif !okN v10 then ret (SV.tup [S1.agg [gI (0 : Int), gI (0 : Int), gI (0 : Int), Sg.arr IntKind.u32 (5 : Nat) [(0 : Int), (0 : Int), (0 : Int), (0 : Int), (0 : Int)]], S1.c (Cl.bool false)]) else bif decide ((0 : Int) ≤ v12 ∧ v12 ≤ (↑s.size : Int) ∧ s.size ≤ (9223372036854775807 : Nat)) then bif decide (v13 = (↑s.size : Int)) then ret (SV.tup [S1.agg [gI (5 : Int), gI v14, gI v15, Sg.arr IntKind.u32 (5 : Nat) [(0 : Int), (0 : Int), (0 : Int), (0 : Int), (0 : Int)]], S1.c (Cl.bool true)]) else bif decide (v12 < v13) then bif inB v13 s.size then bif decide (v16 = (35 : Int)) then ret (SV.tup [S1.agg [gI (5 : Int), gI v14, gI v15, Sg.arr IntKind.u32 (5 : Nat) [(0 : Int), (0 : Int), (0 : Int), (0 : Int), (0 : Int)]], S1.c (Cl.bool true)]) else ret (SV.tup [S1.agg [gI (0 : Int), gI (0 : Int), gI (0 : Int), Sg.arr IntKind.u32 (5 : Nat) [(0 : Int), (0 : Int), (0 : Int), (0 : Int), (0 : Int)]], S1.c (Cl.bool false)]) else none else ret (SV.tup [S1.agg [gI (0 : Int), gI (0 : Int), gI (0 : Int), Sg.arr IntKind.u32 (5 : Nat) [(0 : Int), (0 : Int), (0 : Int), (0 : Int), (0 : Int)]], S1.c (Cl.bool false)]) else none else none else none else none else none else none else bif inB (0 : Int) s.size then bif decide ((bytesI s).getD (0 : Nat) (0 : Int) = (35 : Int)) then bif decide ((0 : Int) ≤ (2 : Int) ∧ (2 : Int) ≤ (↑s.size : Int) ∧ s.size ≤ (9223372036854775807 : Nat)) then bif decide ((0 : Int) ≤ v2 ∧ v2 ≤ (↑s.size : Int) ∧ s.size ≤ (9223372036854775807 : Nat)) then bif decide (v2 = (2 : Int)) then ret (SV.tup [S1.agg [gI (0 : Int), gI (0 : Int), gI (0 : Int), Sg.arr IntKind.u32 (5 : Nat) [(0 : Int), (0 : Int), (0 : Int), (0 : Int), (0 : Int)]], S1.c (Cl.bool false)]) else bif !okN v3 then ret (SV.tup [S1.agg [gI (0 : Int), gI (0 : Int), gI (0 : Int), Sg.arr IntKind.u32 (5 : Nat) [(0 : Int), (0 : Int), (0 : Int), (0 : Int), (0 : Int)]], S1.c (Cl.bool false)]) else bif decide ((0 : Int) ≤ v5 ∧ v5 ≤ (↑s.size : Int) ∧ s.size ≤ (9223372036854775807 : Nat)) then bif !decide (v6 = (↑s.size : Int)) then ret (SV.tup [S1.agg [gI (0 : Int), gI (0 : Int), gI (0 : Int), Sg.arr IntKind.u32 (5 : Nat) [(0 : Int), (0 : Int), (0 : Int), (0 : Int), (0 : Int)]], S1.c (Cl.bool false)]) else bif inB (1 : Int) s.size then bif decide ((bytesI s).getD (1 : Nat) (0 : Int) = (36 : Int)) then ret (SV.tup [S1.agg [gI (2 : Int), gI v7, gI (0 : Int), Sg.arr IntKind.u32 (5 : Nat) [(0 : Int), (0 : Int), (0 : Int), (0 : Int), (0 : Int)]], S1.c (Cl.bool true)]) else ret (SV.tup [S1.agg [gI (3 : Int), gI v7, gI (0 : Int), Sg.arr IntKind.u32 (5 : Nat) [(0 : Int), (0 : Int), (0 : Int), (0 : Int), (0 : Int)]], S1.c (Cl.bool true)]) else none else none else none else none else bif decide ((0 : Int) ≤ (0 : Int) ∧ (0 : Int) ≤ (↑s.size : Int) ∧ s.size ≤ (9223372036854775807 : Nat)) then bif !okN (List.takeWhile isDig (List.drop (0 : Nat) s.data.toList)) then ret (SV.tup [S1.agg [gI (0 : Int), gI (0 : Int), gI (0 : Int), Sg.arr IntKind.u32 (5 : Nat) [(0 : Int), (0 : Int), (0 : Int), (0 : Int), (0 : Int)]], S1.c (Cl.bool false)]) else bif decide ((0 : Int) ≤ v8 ∧ v8 ≤ (↑s.size : Int) ∧ s.size ≤ (9223372036854775807 : Nat)) then bif decide ((0 : Int) ≤ v9 ∧ v9 ≤ (↑s.size : Int) ∧ s.size ≤ (9223372036854775807 : Nat)) then bif decide (v9 = v8) then ret (SV.tup [S1.agg [gI (0 : Int), gI (0 : Int), gI (0 : Int), Sg.arr IntKind.u32 (5 : Nat) [(0 : Int), (0 : Int), (0 : Int), (0 : Int), (0 : Int)]], S1.c (Cl.bool false)]) else bif !okN v10 then ret (SV.tup [S1.agg [gI (0 : Int), gI (0 : Int), gI (0 : Int), Sg.arr IntKind.u32 (5 : Nat) [(0 : Int), (0 : Int), (0 : Int), (0 : Int), (0 : Int)]], S1.c (Cl.bool false)]) else bif decide ((0 : Int) ≤ v12 ∧ v12 ≤ (↑s.size : Int) ∧ s.size ≤ (9223372036854775807 : Nat)) then bif decide (v13 = (↑s.size : Int)) then ret (SV.tup [S1.agg [gI (5 : Int), gI v14, gI v15, Sg.arr IntKind.u32 (5 : Nat) [(0 : Int), (0 : Int), (0 : Int), (0 : Int), (0 : Int)]], S1.c (Cl.bool true)]) else bif decide (v12 < v13) then bif inB v13 s.size then bif decide (v16 = (35 : Int)) then ret (SV.tup [S1.agg [gI (5 : Int), gI v14, gI v15, Sg.arr IntKind.u32 (5 : Nat) [(0 : Int), (0 : Int), (0 : Int), (0 : Int), (0 : Int)]], S1.c (Cl.bool true)]) else ret (SV.tup [S1.agg [gI (0 : Int), gI (0 : Int), gI (0 : Int), Sg.arr IntKind.u32 (5 : Nat) [(0 : Int), (0 : Int), (0 : Int), (0 : Int), (0 : Int)]], S1.c (Cl.bool false)]) else none else ret (SV.tup [S1.agg [gI (0 : Int), gI (0 : Int), gI (0 : Int), Sg.arr IntKind.u32 (5 : Nat) [(0 : Int), (0 : Int), (0 : Int), (0 : Int), (0 : Int)]], S1.c (Cl.bool false)]) else none else none else none else none else none else none else none else bif inB (0 : Int) s.size then bif decide ((bytesI s).getD (0 : Nat) (0 : Int) = (35 : Int)) then bif inB (1 : Int) s.size then bif decide ((bytesI s).getD (1 : Nat) (0 : Int) = (104 : Int)) then h (0 : Nat) [Lf.i (0 : Int), Lf.i (0 : Int), Lf.i (0 : Int), Lf.l [(0 : Int), (0 : Int), (0 : Int), (0 : Int), (0 : Int)], Lf.i (4 : Int), Lf.i (0 : Int), Lf.i (0 : Int), Lf.l [(0 : Int), (0 : Int), (0 : Int), (0 : Int), (0 : Int)], Lf.s s, Lf.i (2 : Int), Lf.i (0 : Int)] else bif inB (0 : Int) s.size then bif decide ((bytesI s).getD (0 : Nat) (0 : Int) = (35 : Int)) then bif decide ((0 : Int) ≤ (2 : Int) ∧ (2 : Int) ≤ (↑s.size : Int) ∧ s.size ≤ (9223372036854775807 : Nat)) then bif decide ((0 : Int) ≤ v2 ∧ v2 ≤ (↑s.size : Int) ∧ s.size ≤ (9223372036854775807 : Nat)) then bif decide (v2 = (2 : Int)) then ret (SV.tup [S1.agg [gI (0 : Int), gI (0 : Int), gI (0 : Int), Sg.arr IntKind.u32 (5 : Nat) [(0 : Int), (0 : Int), (0 : Int), (0 : Int), (0 : Int)]], S1.c (Cl.bool false)]) else bif !okN v3 then ret (SV.tup [S1.agg [gI (0 : Int), gI (0 : Int), gI (0 : Int), Sg.arr IntKind.u32 (5 : Nat) [(0 : Int), (0 : Int), (0 : Int), (0 : Int), (0 : Int)]], S1.c (Cl.bool false)]) else bif decide ((0 : Int) ≤ v5 ∧ v5 ≤ (↑s.size : Int) ∧ s.size ≤ (9223372036854775807 : Nat)) then bif !decide (v6 = (↑s.size : Int)) then ret (SV.tup [S1.agg [gI (0 : Int), gI (0 : Int), gI (0 : Int), Sg.arr IntKind.u32 (5 : Nat) [(0 : Int), (0 : Int), (0 : Int), (0 : Int), (0 : Int)]], S1.c (Cl.bool false)]) else bif inB (1 : Int) s.size then bif decide ((bytesI s).getD (1 : Nat) (0 : Int) = (36 : Int)) then ret (SV.tup [S1.agg [gI (2 : Int), gI v7, gI (0 : Int), Sg.arr IntKind.u32 (5 : Nat) [(0 : Int), (0 : Int), (0 : Int), (0 : Int), (0 : Int)]], S1.c (Cl.bool true)]) else ret (SV.tup [S1.agg [gI (3 : Int), gI v7, gI (0 : Int), Sg.arr IntKind.u32 (5 : Nat) [(0 : Int), (0 : Int), (0 : Int), (0 : Int), (0 : Int)]], S1.c (Cl.bool true)]) else none else none else none else none else bif decide ((0 : Int) ≤ (0 : Int) ∧ (0 : Int) ≤ (↑s.size : Int) ∧ s.size ≤ (9223372036854775807 : Nat)) then bif !okN (List.takeWhile isDig (List.drop (0 : Nat) s.data.toList)) then ret (SV.tup [S1.agg [gI (0 : Int), gI (0 : Int), gI (0 : Int), Sg.arr IntKind.u32 (5 : Nat) [(0 : Int), (0 : Int), (0 : Int), (0 : Int), (0 : Int)]], S1.c (Cl.bool false)]) else bif decide ((0 : Int) ≤ v8 ∧ v8 ≤ (↑s.size : Int) ∧ s.size ≤ (9223372036854775807 : Nat)) then bif decide ((0 : Int) ≤ v9 ∧ v9 ≤ (↑s.size : Int) ∧ s.size ≤ (9223372036854775807 : Nat)) then bif decide (v9 = v8) then ret (SV.tup [S1.agg [gI (0 : Int), gI (0 : Int), gI (0 : Int), Sg.arr IntKind.u32 (5 : Nat) [(0 : Int), (0 : Int), (0 : Int), (0 : Int), (0 : Int)]], S1.c (Cl.bool false)]) else bif !okN v10 then ret (SV.tup [S1.agg [gI (0 : Int), gI (0 : Int), gI (0 : Int), Sg.arr IntKind.u32 (5 : Nat) [(0 : Int), (0 : Int), (0 : Int), (0 : Int), (0 : Int)]], S1.c (Cl.bool false)]) else bif decide ((0 : Int) ≤ v12 ∧ v12 ≤ (↑s.size : Int) ∧ s.size ≤ (9223372036854775807 : Nat)) then bif decide (v13 = (↑s.size : Int)) then ret (SV.tup [S1.agg [gI (5 : Int), gI v14, gI v15, Sg.arr IntKind.u32 (5 : Nat) [(0 : Int), (0 : Int), (0 : Int), (0 : Int), (0 : Int)]], S1.c (Cl.bool true)]) else bif decide (v12 < v13) then bif inB v13 s.size then bif decide (v16 = (35 : Int)) then ret (SV.tup [S1.agg [gI (5 : Int), gI v14, gI v15, Sg.arr IntKind.u32 (5 : Nat) [(0 : Int), (0 : Int), (0 : Int), (0 : Int), (0 : Int)]], S1.c (Cl.bool true)]) else ret (SV.tup [S1.agg [gI (0 : Int), gI (0 : Int), gI (0 : Int), Sg.arr IntKind.u32 (5 : Nat) [(0 : Int), (0 : Int), (0 : Int), (0 : Int), (0 : Int)]], S1.c (Cl.bool false)]) else none else ret (SV.tup [S1.agg [gI (0 : Int), gI (0 : Int), gI (0 : Int), Sg.arr IntKind.u32 (5 : Nat) [(0 : Int), (0 : Int), (0 : Int), (0 : Int), (0 : Int)]], S1.c (Cl.bool false)]) else none else none else none else none else none else none else bif inB (0 : Int) s.size then bif decide ((bytesI s).getD (0 : Nat) (0 : Int) = (35 : Int)) then bif decide ((0 : Int) ≤ (2 : Int) ∧ (2 : Int) ≤ (↑s.size : Int) ∧ s.size ≤ (9223372036854775807 : Nat)) then bif decide ((0 : Int) ≤ v2 ∧ v2 ≤ (↑s.size : Int) ∧ s.size ≤ (9223372036854775807 : Nat)) then bif decide (v2 = (2 : Int)) then ret (SV.tup [S1.agg [gI (0 : Int), gI (0 : Int), gI (0 : Int), Sg.arr IntKind.u32 (5 : Nat) [(0 : Int), (0 : Int), (0 : Int), (0 : Int), (0 : Int)]], S1.c (Cl.bool false)]) else bif !okN v3 then ret (SV.tup [S1.agg [gI (0 : Int), gI (0 : Int), gI (0 : Int), Sg.arr IntKind.u32 (5 : Nat) [(0 : Int), (0 : Int), (0 : Int), (0 : Int), (0 : Int)]], S1.c (Cl.bool false)]) else bif decide ((0 : Int) ≤ v5 ∧ v5 ≤ (↑s.size : Int) ∧ s.size ≤ (9223372036854775807 : Nat)) then bif !decide (v6 = (↑s.size : Int)) then ret (SV.tup [S1.agg [gI (0 : Int), gI (0 : Int), gI (0 : Int), Sg.arr IntKind.u32 (5 : Nat) [(0 : Int), (0 : Int), (0 : Int), (0 : Int), (0 : Int)]], S1.c (Cl.bool false)]) else bif inB (1 : Int) s.size then bif decide ((bytesI s).getD (1 : Nat) (0 : Int) = (36 : Int)) then ret (SV.tup [S1.agg [gI (2 : Int), gI v7, gI (0 : Int), Sg.arr IntKind.u32 (5 : Nat) [(0 : Int), (0 : Int), (0 : Int), (0 : Int), (0 : Int)]], S1.c (Cl.bool true)]) else ret (SV.tup [S1.agg [gI (3 : Int), gI v7, gI (0 : Int), Sg.arr IntKind.u32 (5 : Nat) [(0 : Int), (0 : Int), (0 : Int), (0 : Int), (0 : Int)]], S1.c (Cl.bool true)]) else none else none else none else none else bif decide ((0 : Int) ≤ (0 : Int) ∧ (0 : Int) ≤ (↑s.size : Int) ∧ s.size ≤ (9223372036854775807 : Nat)) then bif !okN (List.takeWhile isDig (List.drop (0 : Nat) s.data.toList)) then ret (SV.tup [S1.agg [gI (0 : Int), gI (0 : Int), gI (0 : Int), Sg.arr IntKind.u32 (5 : Nat) [(0 : Int), (0 : Int), (0 : Int), (0 : Int), (0 : Int)]], S1.c (Cl.bool false)]) else bif decide ((0 : Int) ≤ v8 ∧ v8 ≤ (↑s.size : Int) ∧ s.size ≤ (9223372036854775807 : Nat)) then bif decide ((0 : Int) ≤ v9 ∧ v9 ≤ (↑s.size : Int) ∧ s.size ≤ (9223372036854775807 : Nat)) then bif decide (v9 = v8) then ret (SV.tup [S1.agg [gI (0 : Int), gI (0 : Int), gI (0 : Int), Sg.arr IntKind.u32 (5 : Nat) [(0 : Int), (0 : Int), (0 : Int), (0 : Int), (0 : Int)]], S1.c (Cl.bool false)]) else bif !okN v10 then ret (SV.tup [S1.agg [gI (0 : Int), gI (0 : Int), gI (0 : Int), Sg.arr IntKind.u32 (5 : Nat) [(0 : Int), (0 : Int), (0 : Int), (0 : Int), (0 : Int)]], S1.c (Cl.bool false)]) else bif decide ((0 : Int) ≤ v12 ∧ v12 ≤ (↑s.size : Int) ∧ s.size ≤ (9223372036854775807 : Nat)) then bif decide (v13 = (↑s.size : Int)) then ret (SV.tup [S1.agg [gI (5 : Int), gI v14, gI v15, Sg.arr IntKind.u32 (5 : Nat) [(0 : Int), (0 : Int), (0 : Int), (0 : Int), (0 : Int)]], S1.c (Cl.bool true)]) else bif decide (v12 < v13) then bif inB v13 s.size then bif decide (v16 = (35 : Int)) then ret (SV.tup [S1.agg [gI (5 : Int), gI v14, gI v15, Sg.arr IntKind.u32 (5 : Nat) [(0 : Int), (0 : Int), (0 : Int), (0 : Int), (0 : Int)]], S1.c (Cl.bool true)]) else ret (SV.tup [S1.agg [gI (0 : Int), gI (0 : Int), gI (0 : Int), Sg.arr IntKind.u32 (5 : Nat) [(0 : Int), (0 : Int), (0 : Int), (0 : Int), (0 : Int)]], S1.c (Cl.bool false)]) else none else ret (SV.tup [S1.agg [gI (0 : Int), gI (0 : Int), gI (0 : Int), Sg.arr IntKind.u32 (5 : Nat) [(0 : Int), (0 : Int), (0 : Int), (0 : Int), (0 : Int)]], S1.c (Cl.bool false)]) else none else none else none else none else none else none else none else bif inB (0 : Int) s.size then bif decide ((bytesI s).getD (0 : Nat) (0 : Int) = (35 : Int)) then bif inB (1 : Int) s.size then bif decide ((bytesI s).getD (1 : Nat) (0 : Int) = (104 : Int)) then h (0 : Nat) [Lf.i (0 : Int), Lf.i (0 : Int), Lf.i (0 : Int), Lf.l [(0 : Int), (0 : Int), (0 : Int), (0 : Int), (0 : Int)], Lf.i (4 : Int), Lf.i (0 : Int), Lf.i (0 : Int), Lf.l [(0 : Int), (0 : Int), (0 : Int), (0 : Int), (0 : Int)], Lf.s s, Lf.i (2 : Int), Lf.i (0 : Int)] else bif inB (0 : Int) s.size then bif decide ((bytesI s).getD (0 : Nat) (0 : Int) = (35 : Int)) then bif decide ((0 : Int) ≤ (2 : Int) ∧ (2 : Int) ≤ (↑s.size : Int) ∧ s.size ≤ (9223372036854775807 : Nat)) then bif decide ((0 : Int) ≤ v2 ∧ v2 ≤ (↑s.size : Int) ∧ s.size ≤ (9223372036854775807 : Nat)) then bif decide (v2 = (2 : Int)) then ret (SV.tup [S1.agg [gI (0 : Int), gI (0 : Int), gI (0 : Int), Sg.arr IntKind.u32 (5 : Nat) [(0 : Int), (0 : Int), (0 : Int), (0 : Int), (0 : Int)]], S1.c (Cl.bool false)]) else bif !okN v3 then ret (SV.tup [S1.agg [gI (0 : Int), gI (0 : Int), gI (0 : Int), Sg.arr IntKind.u32 (5 : Nat) [(0 : Int), (0 : Int), (0 : Int), (0 : Int), (0 : Int)]], S1.c (Cl.bool false)]) else bif decide ((0 : Int) ≤ v5 ∧ v5 ≤ (↑s.size : Int) ∧ s.size ≤ (9223372036854775807 : Nat)) then bif !decide (v6 = (↑s.size : Int)) then ret (SV.tup [S1.agg [gI (0 : Int), gI (0 : Int), gI (0 : Int), Sg.arr IntKind.u32 (5 : Nat) [(0 : Int), (0 : Int), (0 : Int), (0 : Int), (0 : Int)]], S1.c (Cl.bool false)]) else bif inB (1 : Int) s.size then bif decide ((bytesI s).getD (1 : Nat) (0 : Int) = (36 : Int)) then ret (SV.tup [S1.agg [gI (2 : Int), gI v7, gI (0 : Int), Sg.arr IntKind.u32 (5 : Nat) [(0 : Int), (0 : Int), (0 : Int), (0 : Int), (0 : Int)]], S1.c (Cl.bool true)]) else ret (SV.tup [S1.agg [gI (3 : Int), gI v7, gI (0 : Int), Sg.arr IntKind.u32 (5 : Nat) [(0 : Int), (0 : Int), (0 : Int), (0 : Int), (0 : Int)]], S1.c (Cl.bool true)]) else none else none else none else none else bif decide ((0 : Int) ≤ (0 : Int) ∧ (0 : Int) ≤ (↑s.size : Int) ∧ s.size ≤ (9223372036854775807 : Nat)) then bif !okN (List.takeWhile isDig (List.drop (0 : Nat) s.data.toList)) then ret (SV.tup [S1.agg [gI (0 : Int), gI (0 : Int), gI (0 : Int), Sg.arr IntKind.u32 (5 : Nat) [(0 : Int), (0 : Int), (0 : Int), (0 : Int), (0 : Int)]], S1.c (Cl.bool false)]) else bif decide ((0 : Int) ≤ v8 ∧ v8 ≤ (↑s.size : Int) ∧ s.size ≤ (9223372036854775807 : Nat)) then bif decide ((0 : Int) ≤ v9 ∧ v9 ≤ (↑s.size : Int) ∧ s.size ≤ (9223372036854775807 : Nat)) then bif decide (v9 = v8) then ret (SV.tup [S1.agg [gI (0 : Int), gI (0 : Int), gI (0 : Int), Sg.arr IntKind.u32 (5 : Nat) [(0 : Int), (0 : Int), (0 : Int), (0 : Int), (0 : Int)]], S1.c (Cl.bool false)]) else bif !okN v10 then ret (SV.tup [S1.agg [gI (0 : Int), gI (0 : Int), gI (0 : Int), Sg.arr IntKind.u32 (5 : Nat) [(0 : Int), (0 : Int), (0 : Int), (0 : Int), (0 : Int)]], S1.c (Cl.bool false)]) else bif decide ((0 : Int) ≤ v12 ∧ v12 ≤ (↑s.size : Int) ∧ s.size ≤ (9223372036854775807 : Nat)) then bif decide (v13 = (↑s.size : Int)) then ret (SV.tup [S1.agg [gI (5 : Int), gI v14, gI v15, Sg.arr IntKind.u32 (5 : Nat) [(0 : Int), (0 : Int), (0 : Int), (0 : Int), (0 : Int)]], S1.c (Cl.bool true)]) else bif decide (v12 < v13) then bif inB v13 s.size then bif decide (v16 = (35 : Int)) then ret (SV.tup [S1.agg [gI (5 : Int), gI v14, gI v15, Sg.arr IntKind.u32 (5 : Nat) [(0 : Int), (0 : Int), (0 : Int), (0 : Int), (0 : Int)]], S1.c (Cl.bool true)]) else ret (SV.tup [S1.agg [gI (0 : Int), gI (0 : Int), gI (0 : Int), Sg.arr IntKind.u32 (5 : Nat) [(0 : Int), (0 : Int), (0 : Int), (0 : Int), (0 : Int)]], S1.c (Cl.bool false)]) else none else ret (SV.tup [S1.agg [gI (0 : Int), gI (0 : Int), gI (0 : Int), Sg.arr IntKind.u32 (5 : Nat) [(0 : Int), (0 : Int), (0 : Int), (0 : Int), (0 : Int)]], S1.c (Cl.bool false)]) else none else none else none else none else none else none else bif inB (0 : Int) s.size then bif decide ((bytesI s).getD (0 : Nat) (0 : Int) = (35 : Int)) then bif decide ((0 : Int) ≤ (2 : Int) ∧ (2 : Int) ≤ (↑s.size : Int) ∧ s.size ≤ (9223372036854775807 : Nat)) then bif decide ((0 : Int) ≤ v2 ∧ v2 ≤ (↑s.size : Int) ∧ s.size ≤ (9223372036854775807 : Nat)) then bif decide (v2 = (2 : Int)) then ret (SV.tup [S1.agg [gI (0 : Int), gI (0 : Int), gI (0 : Int), Sg.arr IntKind.u32 (5 : Nat) [(0 : Int), (0 : Int), (0 : Int), (0 : Int), (0 : Int)]], S1.c (Cl.bool false)]) else bif !okN v3 then ret (SV.tup [S1.agg [gI (0 : Int), gI (0 : Int), gI (0 : Int), Sg.arr IntKind.u32 (5 : Nat) [(0 : Int), (0 : Int), (0 : Int), (0 : Int), (0 : Int)]], S1.c (Cl.bool false)]) else bif decide ((0 : Int) ≤ v5 ∧ v5 ≤ (↑s.size : Int) ∧ s.size ≤ (9223372036854775807 : Nat)) then bif !decide (v6 = (↑s.size : Int)) then ret (SV.tup [S1.agg [gI (0 : Int), gI (0 : Int), gI (0 : Int), Sg.arr IntKind.u32 (5 : Nat) [(0 : Int), (0 : Int), (0 : Int), (0 : Int), (0 : Int)]], S1.c (Cl.bool false)]) else bif inB (1 : Int) s.size then bif decide ((bytesI s).getD (1 : Nat) (0 : Int) = (36 : Int)) then ret (SV.tup [S1.agg [gI (2 : Int), gI v7, gI (0 : Int), Sg.arr IntKind.u32 (5 : Nat) [(0 : Int), (0 : Int), (0 : Int), (0 : Int), (0 : Int)]], S1.c (Cl.bool true)]) else ret (SV.tup [S1.agg [gI (3 : Int), gI v7, gI (0 : Int), Sg.arr IntKind.u32 (5 : Nat) [(0 : Int), (0 : Int), (0 : Int), (0 : Int), (0 : Int)]], S1.c (Cl.bool true)]) else none else none else none else none else bif decide ((0 : Int) ≤ (0 : Int) ∧ (0 : Int) ≤ (↑s.size : Int) ∧ s.size ≤ (9223372036854775807 : Nat)) then bif !okN (List.takeWhile isDig (List.drop (0 : Nat) s.data.toList)) then ret (SV.tup [S1.agg [gI (0 : Int), gI (0 : Int), gI (0 : Int), Sg.arr IntKind.u32 (5 : Nat) [(0 : Int), (0 : Int), (0 : Int), (0 : Int), (0 : Int)]], S1.c (Cl.bool false)]) else bif decide ((0 : Int) ≤ v8 ∧ v8 ≤ (↑s.size : Int) ∧ s.size ≤ (9223372036854775807 : Nat)) then bif decide ((0 : Int) ≤ v9 ∧ v9 ≤ (↑s.size : Int) ∧ s.size ≤ (9223372036854775807 : Nat)) then bif decide (v9 = v8) then ret (SV.tup [S1.agg [gI (0 : Int), gI (0 : Int), gI (0 : Int), Sg.arr IntKind.u32 (5 : Nat) [(0 : Int), (0 : Int), (0 : Int), (0 : Int), (0 : Int)]], S1.c (Cl.bool false)]) else bif !okN v10 then ret (SV.tup [S1.agg [gI (0 : Int), gI (0 : Int), gI (0 : Int), Sg.arr IntKind.u32 (5 : Nat) [(0 : Int), (0 : Int), (0 : Int), (0 : Int), (0 : Int)]], S1.c (Cl.bool false)]) else bif decide ((0 : Int) ≤ v12 ∧ v12 ≤ (↑s.size : Int) ∧ s.size ≤ (9223372036854775807 : Nat)) then bif decide (v13 = (↑s.size : Int)) then ret (SV.tup [S1.agg [gI (5 : Int), gI v14, gI v15, Sg.arr IntKind.u32 (5 : Nat) [(0 : Int), (0 : Int), (0 : Int), (0 : Int), (0 : Int)]], S1.c (Cl.bool true)]) else bif decide (v12 < v13) then bif inB v13 s.size then bif decide (v16 = (35 : Int)) then ret (SV.tup [S1.agg [gI (5 : Int), gI v14, gI v15, Sg.arr IntKind.u32 (5 : Nat) [(0 : Int), (0 : Int), (0 : Int), (0 : Int), (0 : Int)]], S1.c (Cl.bool true)]) else ret (SV.tup [S1.agg [gI (0 : Int), gI (0 : Int), gI (0 : Int), Sg.arr IntKind.u32 (5 : Nat) [(0 : Int), (0 : Int), (0 : Int), (0 : Int), (0 : Int)]], S1.c (Cl.bool false)]) else none else ret (SV.tup [S1.agg [gI (0 : Int), gI (0 : Int), gI (0 : Int), Sg.arr IntKind.u32 (5 : Nat) [(0 : Int), (0 : Int), (0 : Int), (0 : Int), (0 : Int)]], S1.c (Cl.bool false)]) else none else none else none else none else none else none else none else none := by kernel_rfl
theorem rscan_l0 (h : Hd) (i0 : Int) (i1 : Int) (i2 : Int) (l3 : List Int) (i4 : Int) (i5 : Int) (i6 : Int) (l7 : List Int) (s8 : ByteArray) (i9 : Int) (i10 : Int) : rscan_f.seg rscan_e [] h 0 [.i i0, .i i1, .i i2, .l l3, .i i4, .i i5, .i i6, .l l7, .s s8, .i i9, .i i10] = let v1 : List UInt8 := List.takeWhile isHex (List.drop (i9 + (↑(List.takeWhile isBl (List.drop i9.toNat s8.data.toList)).length : Int)).toNat s8.data.toList); bif decide (i10 < (5 : Int)) then bif decide ((0 : Int) ≤ i9 ∧ i9 ≤ (↑s8.size : Int) ∧ s8.size ≤ (9223372036854775807 : Nat)) then bif decide ((0 : Int) ≤ i9 + (↑(List.takeWhile isBl (List.drop i9.toNat s8.data.toList)).length : Int) ∧ i9 + (↑(List.takeWhile isBl (List.drop i9.toNat s8.data.toList)).length : Int) ≤ (↑s8.size : Int) ∧ s8.size ≤ (9223372036854775807 : Nat)) then bif decide (i9 + (↑(List.takeWhile isBl (List.drop i9.toNat s8.data.toList)).length : Int) = i9) then ret (SV.tup [S1.agg [gI (0 : Int), gI (0 : Int), gI (0 : Int), Sg.arr IntKind.u32 (5 : Nat) [(0 : Int), (0 : Int), (0 : Int), (0 : Int), (0 : Int)]], S1.c (Cl.bool false)]) else bif !okH v1 then ret (SV.tup [S1.agg [gI (0 : Int), gI (0 : Int), gI (0 : Int), Sg.arr IntKind.u32 (5 : Nat) [(0 : Int), (0 : Int), (0 : Int), (0 : Int), (0 : Int)]], S1.c (Cl.bool false)]) else bif inB i10 (5 : Nat) then bif decide (i10.toNat < (5 : Nat)) then h (0 : Nat) [Lf.i i0, Lf.i i1, Lf.i i2, Lf.l l3, Lf.i i4, Lf.i i5, Lf.i i6, Lf.l (setD (5 : Nat) l7 i10.toNat (IntKind.u32.wrap (hval (List.take (9 : Nat) v1)))), Lf.s s8, Lf.i (i9 + (↑(List.takeWhile isBl (List.drop i9.toNat s8.data.toList)).length : Int) + (↑(min v1.length (9 : Nat)) : Int)), Lf.i (IntKind.i64.wrap (i10 + (1 : Int)))] else none else none else none else none else bif decide ((0 : Int) ≤ i9 ∧ i9 ≤ (↑s8.size : Int) ∧ s8.size ≤ (9223372036854775807 : Nat)) then ret (SV.tup [S1.agg [gI i4, gI i5, gI i6, Sg.arr IntKind.u32 (5 : Nat) l7], S1.c (Cl.bool (decide (i9 + (↑(List.takeWhile isBl (List.drop i9.toNat s8.data.toList)).length : Int) = (↑s8.size : Int))))]) else none := by kernel_rfl

theorem drop_tw (p : UInt8 → Bool) (l : List UInt8) (i : Nat) : l.drop (i + ((l.drop i).takeWhile p).length) = (l.drop i).dropWhile p := by
  rw [← List.drop_drop, tw_drop]
theorem all_tw {p : UInt8 → Bool} (l : List UInt8) : (l.takeWhile p).length = l.length ↔ l.all p = true := by
  have := tw_dw p l
  rw [← dw_nil, ← List.length_eq_zero_iff]; omega
theorem nT {α : Type} {P : Prop} [Decidable P] {x y z : α} (h : P) (e : y = z) : (bif !decide P then x else y) = z := by rw [decide_eq_true h]; exact e
theorem nF {α : Type} {P : Prop} [Decidable P] {x y z : α} (h : ¬ P) (e : x = z) : (bif !decide P then x else y) = z := by rw [decide_eq_false h]; exact e
theorem rqR {v : LnV} {k a b : Int} {w : List Int} {t t' : Bool} (h : v = ⟨k, a, b, w⟩) (ht : t = t') : (ret (.tup [.agg [gI k, gI a, gI b, .arr .u32 5 w], .c (.bool t)])) = some ⟨.tup [.agg [gI v.k, gI v.a, gI v.b, .arr .u32 5 v.w], tB t'], []⟩ := by rw [h, ht]
def hashQ (m : Nat) (ws : List Int) (r : List UInt8) : LnV × Bool := match wordsP m r with
  | some (us, r) => (⟨4, 0, 0, ws ++ us⟩, r.all isBl)
  | none => (ln0, false)
theorem hashQ_succ (m : Nat) (ws : List Int) (r : List UInt8) : hashQ (m + 1) ws r = (if (decide ((r.dropWhile isBl).length < r.length) && okH ((r.dropWhile isBl).takeWhile isHex)) = true then hashQ m (ws ++ [hval ((r.dropWhile isBl).takeWhile isHex)]) ((r.dropWhile isBl).dropWhile isHex) else (ln0, false)) := by
  have hw : wordsP (m + 1) r = (if (decide ((r.dropWhile isBl).length < r.length) && okH ((r.dropWhile isBl).takeWhile isHex)) = true then (wordsP m ((r.dropWhile isBl).dropWhile isHex)).map fun x => (hval ((r.dropWhile isBl).takeWhile isHex) :: x.1, x.2) else none) := rfl
  unfold hashQ
  rw [hw]
  by_cases hc : (decide ((r.dropWhile isBl).length < r.length) && okH ((r.dropWhile isBl).takeWhile isHex)) = true
  · rw [if_pos hc, if_pos hc]
    cases wordsP m ((r.dropWhile isBl).dropWhile isHex) with
    | none => rfl
    | some x => simp only [Option.map_some, List.append_assoc, List.cons_append, List.nil_append]
  · rw [if_neg hc, if_neg hc]
theorem rscan_loop (l : List UInt8) (hl : l.length ≤ 9223372036854775807) : ∀ (m n a : Nat) (ws : List Int), m + n = 5 → ws.length = n → a ≤ l.length →
    rscan_f.H rscan_e [] (m + 1) 0 [.i 0, .i 0, .i 0, .l [0, 0, 0, 0, 0], .i 4, .i 0, .i 0, .l (ws ++ List.replicate m 0), .s (tx l), .i a, .i n] = some ⟨.tup [.agg [gI (hashQ m ws (l.drop a)).1.k, gI (hashQ m ws (l.drop a)).1.a, gI (hashQ m ws (l.drop a)).1.b, .arr .u32 5 (hashQ m ws (l.drop a)).1.w], tB (hashQ m ws (l.drop a)).2], []⟩ := by
  intro m
  induction m with
  | zero =>
    intro n a ws hn hw ha
    have hA := all_tw (p := isBl) (l.drop a)
    have hL : (l.drop a).length = l.length - a := List.length_drop
    rw [FnD.H_succ, rscan_l0]
    dsimp only
    simp only [tx_toList, tx_size, Int.toNat_natCast]
    have e : hashQ 0 ws (l.drop a) = (⟨4, 0, 0, ws⟩, (l.drop a).all isBl) := by
      unfold hashQ; rw [wordsP]; simp
    rw [e, List.replicate_zero, List.append_nil]
    refine condF (by omega) (condT (by omega) (rqR rfl ?_))
    rw [Bool.eq_iff_iff, decide_eq_true_eq, ← hA]; omega
  | succ m ih =>
    intro n a ws hn hw ha
    have hL : (l.drop a).length = l.length - a := List.length_drop
    have hB := tw_dw isBl (l.drop a)
    have hH := tw_dw isHex ((l.drop a).dropWhile isBl)
    have hD := drop_tw isBl l a
    have e := hashQ_succ m ws (l.drop a)
    rw [FnD.H_succ, rscan_l0]
    dsimp only
    simp only [tx_toList, tx_size, Int.toNat_natCast, ← Int.natCast_add, hD]
    generalize hb : ((l.drop a).takeWhile isBl).length = b at *
    generalize (l.drop a).dropWhile isBl = r1 at *
    generalize l.drop a = r at *
    refine condT (by omega) (condT (by omega) (condT (by omega) ?_))
    by_cases h : b = 0
    · rw [decide_eq_false (show ¬ r1.length < r.length by omega)] at e
      have e : hashQ (m + 1) ws r = (ln0, false) := e
      rw [e]
      exact condT (by omega) (rqR rfl rfl)
    · rw [decide_eq_true (show r1.length < r.length by omega)] at e
      refine condF (by omega) ?_
      cases hk : okH (r1.takeWhile isHex) with
      | false =>
        rw [hk] at e
        have e : hashQ (m + 1) ws r = (ln0, false) := e
        rw [e]
        exact condB rfl (rqR rfl rfl)
      | true =>
        rw [hk] at e
        have e : hashQ (m + 1) ws r = hashQ m (ws ++ [hval (r1.takeWhile isHex)]) (r1.dropWhile isHex) := e
        rw [e]
        have h8 : (r1.takeWhile isHex).length ≤ 8 := by
          unfold okH at hk
          simp only [Bool.and_eq_true, decide_eq_true_eq] at hk
          exact hk.2
        obtain ⟨x0, x1⟩ := hval_bound (tw_all isHex r1)
        have p8 : (16 : Int) ^ (r1.takeWhile isHex).length ≤ 4294967296 := by
          have := Nat.pow_le_pow_right (n := 16) (by omega) h8
          have e : ∀ j : Nat, (16 : Int) ^ j = ((16 ^ j : Nat) : Int) := fun j => by rw [Int.natCast_pow]; rfl
          rw [e]; exact Int.ofNat_le.2 this
        have w32 : IntKind.u32.wrap (hval (r1.takeWhile isHex)) = hval (r1.takeWhile isHex) := IntWalk.u32_in _ (by omega)
        have hz := ih (n + 1) (a + b + (r1.takeWhile isHex).length) (ws ++ [hval (r1.takeWhile isHex)]) (by omega) (by simp [hw]) (by omega)
        have hd2 : l.drop (a + b + (r1.takeWhile isHex).length) = r1.dropWhile isHex := by rw [← List.drop_drop, hD, tw_drop]
        rw [hd2] at hz
        refine condN rfl (condB ((inB_iff _ _).2 (by omega)) (condT (by omega) ?_))
        have es : setD 5 (ws ++ List.replicate (m + 1) 0) n (hval (r1.takeWhile isHex)) = (ws ++ [hval (r1.takeWhile isHex)]) ++ List.replicate m 0 := by
          rw [setD_eq (by simp [hw]; omega), List.set_append_right _ _ (by omega), hw, Nat.sub_self, List.replicate_succ, List.set_cons_zero, List.append_assoc]; rfl
        rw [List.take_of_length_le (by omega), w32, es, Nat.min_eq_left (by omega), show IntKind.i64.wrap ((n : Int) + 1) = ((n + 1 : Nat) : Int) by rw [IntWalk.i64_in _ (by omega)]; omega]
        exact hz

theorem scanQ_ne {l : List UInt8} (h : ¬ (l.getD 0 0 = 35 ∧ l.getD 1 0 = 104)) : scanQ l = (scanP l).getD ln0 := by unfold scanQ; rw [if_neg h]
theorem rsS {l : List UInt8} {k a b : Int} {w : List Int} (hn : ¬ (l.getD 0 0 = 35 ∧ l.getD 1 0 = 104)) (h : scanP l = some ⟨k, a, b, w⟩) : (ret (.tup [.agg [gI k, gI a, gI b, .arr .u32 5 w], .c (.bool true)])) = some ⟨.tup [.agg [gI (scanQ l).k, gI (scanQ l).a, gI (scanQ l).b, .arr .u32 5 (scanQ l).w], tB (scanP l).isSome], []⟩ := by rw [scanQ_ne hn, h]; rfl
theorem rsN {l : List UInt8} (hn : ¬ (l.getD 0 0 = 35 ∧ l.getD 1 0 = 104)) (h : scanP l = none) : (ret (.tup [.agg [gI 0, gI 0, gI 0, .arr .u32 5 [0, 0, 0, 0, 0]], .c (.bool false)])) = some ⟨.tup [.agg [gI (scanQ l).k, gI (scanQ l).a, gI (scanQ l).b, .arr .u32 5 (scanQ l).w], tB (scanP l).isSome], []⟩ := by rw [scanQ_ne hn, h]; rfl
theorem scanQ_hash {l : List UInt8} (h0 : l.getD 0 0 = 35) (h1 : l.getD 1 0 = 104) : scanQ l = (hashQ 5 [] (l.drop 2)).1 ∧ (scanP l).isSome = (hashQ 5 [] (l.drop 2)).2 := by
  have e : scanP l = hashP (l.drop 2) := by
    unfold scanP
    rw [if_pos h0, if_neg (by rw [h1]; decide), if_neg (by rw [h1]; decide), if_pos h1]
  unfold scanQ
  rw [if_pos ⟨h0, h1⟩, e]
  unfold hashP hashQ
  cases wordsP 5 (l.drop 2) with
  | none => exact ⟨rfl, rfl⟩
  | some x =>
    refine ⟨rfl, ?_⟩
    simp only
    cases x.2.all isBl <;> rfl
theorem bl_35 {l : List UInt8} (h : l.all isBl = true) : l.getD 0 0 ≠ 35 := by
  cases l with
  | nil => decide
  | cons c l =>
    rw [List.all_cons, Bool.and_eq_true] at h
    intro e
    rw [List.getD_cons_zero] at e
    rw [e] at h; cases h.1
theorem rscan_run (s : ByteArray) (hp : s.size ≤ 9223372036854775807) : ∃ fu, rscan_f.run rscan_e [] fu [vS s] [] = some ⟨.tup [.agg [gI ((scanQ s.data.toList)).k, gI ((scanQ s.data.toList)).a, gI ((scanQ s.data.toList)).b, .arr .u32 5 ((scanQ s.data.toList)).w], tB ((scanP s.data.toList).isSome)], []⟩ := by
  obtain ⟨l, rfl, hl⟩ := tx_get s
  rw [tx_size] at hp
  rw [tx_toList]
  refine ⟨6, ?_⟩
  rw [FnD.run, rscan_ent]
  dsimp only
  simp only [tx_toList, tx_size, bytes_get, List.drop_zero, Int.zero_add]
  have b35 : ((l.getD 0 0).toNat : Int) = 35 ↔ l.getD 0 0 = 35 := byte_eq _ 35 (by omega)
  have b36 : ((l.getD 1 0).toNat : Int) = 36 ↔ l.getD 1 0 = 36 := byte_eq _ 36 (by omega)
  have b64 : ((l.getD 1 0).toNat : Int) = 64 ↔ l.getD 1 0 = 64 := byte_eq _ 64 (by omega)
  have b104 : ((l.getD 1 0).toNat : Int) = 104 ↔ l.getD 1 0 = 104 := byte_eq _ 104 (by omega)
  have hall := all_tw (p := isBl) l
  refine condT (by omega) ?_
  by_cases hA : l.all isBl = true
  · have := hall.2 hA
    have n35 := bl_35 hA
    exact condT (by omega) (rsS (fun h => n35 h.1) (by unfold scanP; rw [if_neg n35, if_pos hA]))
  have hA2 : ¬ (l.takeWhile isBl).length = l.length := fun e => hA (hall.1 e)
  have hA3 := tw_len isBl l
  have hpos : 0 < l.length := by omega
  refine condF (by omega) (condB ((inB_iff _ _).2 (by omega)) ?_)
  by_cases h0 : l.getD 0 0 = 35
  · have c0 := b35.2 h0
    have note : l.getD 1 0 ≠ 36 → l.getD 1 0 ≠ 64 → l.getD 1 0 ≠ 104 → scanP l = some ⟨1, 0, 0, [0, 0, 0, 0, 0]⟩ := fun h1 h2 h3 => by
      unfold scanP; rw [if_pos h0, if_neg h1, if_neg h2, if_neg h3]
    refine condT c0 ?_
    by_cases hl1 : l.length = 1
    · have hz : l.getD 1 0 = 0 := by rw [List.getD_eq_getElem?_getD, List.getElem?_eq_none (by omega)]; rfl
      exact condT (by omega) (rsS (fun h => by rw [hz] at h; exact absurd h.2 (by decide)) (note (by rw [hz]; decide) (by rw [hz]; decide) (by rw [hz]; decide)))
    have hin0 : inB (0 : Int) l.length = true := (inB_iff _ _).2 (by omega)
    have hin1 : inB (1 : Int) l.length = true := (inB_iff _ _).2 (by omega)
    refine condF (by omega) (condB hin1 ?_)
    have hL2 : (l.drop 2).length = l.length - 2 := List.length_drop
    have hB := tw_dw isBl (l.drop 2)
    have hN := tw_dw isDig ((l.drop 2).dropWhile isBl)
    have hE := all_tw (p := isBl) (((l.drop 2).dropWhile isBl).dropWhile isDig)
    have hE2 := tw_dw isBl (((l.drop 2).dropWhile isBl).dropWhile isDig)
    have d1 := drop_tw isBl l 2
    have d2 : l.drop (2 + ((l.drop 2).takeWhile isBl).length + (((l.drop 2).dropWhile isBl).takeWhile isDig).length) = ((l.drop 2).dropWhile isBl).dropWhile isDig := by rw [← List.drop_drop, d1, tw_drop]
    by_cases h3 : l.getD 1 0 = 104
    · have c1 := b104.2 h3
      have hq := scanQ_hash h0 h3
      rw [hq.1, hq.2]
      have key := rscan_loop l (by omega) 5 0 2 [] (by omega) rfl (by
        rcases Nat.lt_or_ge l.length 2 with g | g
        · have hz : l.getD 1 0 = 0 := by rw [List.getD_eq_getElem?_getD, List.getElem?_eq_none (by omega)]; rfl
          rw [hz] at h3; exact absurd h3 (by decide)
        · exact g)
      exact nF (by omega) (condB hin1 (nF (by omega) (condB hin1 (nT c1 (condB hin0 (condT c0 (condB hin1 (condT c1 key))))))))
    have hn : ¬ (l.getD 0 0 = 35 ∧ l.getD 1 0 = 104) := fun h => h3 h.2
    have n104 : ¬ ((l.getD 1 0).toNat : Int) = 104 := fun e => h3 (b104.1 e)
    by_cases h1 : l.getD 1 0 = 36
    · have c1 := b36.2 h1
      refine nT c1 (condB hin0 (condT c0 (condB hin1 (condF n104 (condB hin0 (condT c0 (condT (by omega) (condT (by omega) ?_))))))))
      have hs : scanP l = oneP 2 (l.drop 2) := by unfold scanP; rw [if_pos h0, if_pos h1]
      unfold oneP at hs
      dsimp only at hs
      have e2 : ((2 : Int) + (((l.drop 2).takeWhile isBl).length : Nat)).toNat = 2 + ((l.drop 2).takeWhile isBl).length := by omega
      rw [e2, d1]
      generalize (l.drop 2).dropWhile isBl = R1 at *
      generalize ((l.drop 2).takeWhile isBl).length = b at *
      generalize hw : R1.takeWhile isDig = w at *
      by_cases hb : b = 0
      · exact condT (by omega) (rsN hn (by rw [hs, if_neg (by rw [decide_eq_false (by omega)]; simp)]))
      refine condF (by omega) ?_
      cases hk : okN w with
      | false => exact condB rfl (rsN hn (by rw [hs, if_neg (by rw [hk]; simp)]))
      | true =>
        have h18 : ¬ 18 < w.length := by
          unfold okN at hk
          simp only [Bool.and_eq_true, decide_eq_true_eq] at hk
          omega
        have e3 : ((2 : Int) + (b : Nat) + (w.length : Nat)).toNat = 2 + b + w.length := by omega
        simp only [if_neg h18]
        rw [e3, d2]
        refine condN rfl (condT (by omega) ?_)
        cases hE3 : (R1.dropWhile isDig).all isBl with
        | false =>
          have : ¬ ((R1.dropWhile isDig).takeWhile isBl).length = (R1.dropWhile isDig).length := fun e => by have := hE.1 e; rw [hE3] at this; cases this
          exact nF (by omega) (rsN hn (by rw [hs, if_neg (by rw [hE3]; simp)]))
        | true =>
          have := hE.2 hE3
          refine nT (by omega) (condB hin1 (condT c1 (rsS hn (by rw [hs, if_pos (by rw [hk, hE3, decide_eq_true (by omega)]; rfl)]))))
    have n36 : ¬ ((l.getD 1 0).toNat : Int) = 36 := fun e => h1 (b36.1 e)
    by_cases h2 : l.getD 1 0 = 64
    · have c1 := b64.2 h2
      refine nF n36 (condB hin1 (nT c1 (condB hin0 (condT c0 (condB hin1 (condF n104 (condB hin0 (condT c0 (condT (by omega) (condT (by omega) ?_))))))))))
      have hs : scanP l = oneP 3 (l.drop 2) := by unfold scanP; rw [if_pos h0, if_neg h1, if_pos h2]
      unfold oneP at hs
      dsimp only at hs
      have e2 : ((2 : Int) + (((l.drop 2).takeWhile isBl).length : Nat)).toNat = 2 + ((l.drop 2).takeWhile isBl).length := by omega
      rw [e2, d1]
      generalize (l.drop 2).dropWhile isBl = R1 at *
      generalize ((l.drop 2).takeWhile isBl).length = b at *
      generalize hw : R1.takeWhile isDig = w at *
      by_cases hb : b = 0
      · exact condT (by omega) (rsN hn (by rw [hs, if_neg (by rw [decide_eq_false (by omega)]; simp)]))
      refine condF (by omega) ?_
      cases hk : okN w with
      | false => exact condB rfl (rsN hn (by rw [hs, if_neg (by rw [hk]; simp)]))
      | true =>
        have h18 : ¬ 18 < w.length := by
          unfold okN at hk
          simp only [Bool.and_eq_true, decide_eq_true_eq] at hk
          omega
        have e3 : ((2 : Int) + (b : Nat) + (w.length : Nat)).toNat = 2 + b + w.length := by omega
        simp only [if_neg h18]
        rw [e3, d2]
        refine condN rfl (condT (by omega) ?_)
        cases hE3 : (R1.dropWhile isDig).all isBl with
        | false =>
          have : ¬ ((R1.dropWhile isDig).takeWhile isBl).length = (R1.dropWhile isDig).length := fun e => by have := hE.1 e; rw [hE3] at this; cases this
          exact nF (by omega) (rsN hn (by rw [hs, if_neg (by rw [hE3]; simp)]))
        | true =>
          have := hE.2 hE3
          refine nT (by omega) (condB hin1 (condF n36 (rsS hn (by rw [hs, if_pos (by rw [hk, hE3, decide_eq_true (by omega)]; rfl)]))))
    have n64 : ¬ ((l.getD 1 0).toNat : Int) = 64 := fun e => h2 (b64.1 e)
    exact nF n36 (condB hin1 (nF n64 (condB hin1 (nF n104 (rsS hn (note h1 h2 h3))))))
  · have hn : ¬ (l.getD 0 0 = 35 ∧ l.getD 1 0 = 104) := fun h => h0 h.1
    have c0 : ¬ ((l.getD 0 0).toNat : Int) = 35 := fun e => h0 (b35.1 e)
    have hin0 : inB (0 : Int) l.length = true := (inB_iff _ _).2 (by omega)
    have hs : scanP l = dataP l := by unfold scanP; rw [if_neg h0, if_neg hA]
    unfold dataP at hs
    dsimp only at hs
    have t1 := tw_dw isDig l
    have t2 := tw_dw isBl (l.dropWhile isDig)
    have t3 := tw_dw isDig ((l.dropWhile isDig).dropWhile isBl)
    have t4 := tw_dw isBl (((l.dropWhile isDig).dropWhile isBl).dropWhile isDig)
    have d1 := tw_drop isDig l
    have d2 : l.drop ((l.takeWhile isDig).length + ((l.dropWhile isDig).takeWhile isBl).length) = (l.dropWhile isDig).dropWhile isBl := by rw [← List.drop_drop, d1, tw_drop]
    have d3 : l.drop ((l.takeWhile isDig).length + ((l.dropWhile isDig).takeWhile isBl).length + (((l.dropWhile isDig).dropWhile isBl).takeWhile isDig).length) = ((l.dropWhile isDig).dropWhile isBl).dropWhile isDig := by rw [← List.drop_drop, d2, tw_drop]
    have d4 : l.drop ((l.takeWhile isDig).length + ((l.dropWhile isDig).takeWhile isBl).length + (((l.dropWhile isDig).dropWhile isBl).takeWhile isDig).length + ((((l.dropWhile isDig).dropWhile isBl).dropWhile isDig).takeWhile isBl).length) = (((l.dropWhile isDig).dropWhile isBl).dropWhile isDig).dropWhile isBl := by rw [← List.drop_drop, d3, tw_drop]
    refine condF c0 ?_
    repeat (first | refine condB hin0 ?_ | refine condF c0 ?_)
    refine condT (by omega) ?_
    cases hk1 : okN (l.takeWhile isDig) with
    | false => exact condB rfl (rsN hn (by rw [hs, if_neg (by rw [hk1]; simp)]))
    | true =>
      have h18 : ¬ 18 < (l.takeWhile isDig).length := by
        unfold okN at hk1
        simp only [Bool.and_eq_true, decide_eq_true_eq] at hk1
        omega
      simp only [if_neg h18, Int.toNat_natCast, d1, ← Int.natCast_add, d2]
      generalize ((l.dropWhile isDig).takeWhile isBl).length = b1 at *
      refine condN rfl (condT (by omega) (condT (by omega) ?_))
      by_cases hb : b1 = 0
      · exact condT (by omega) (rsN hn (by rw [hs, if_neg (by rw [decide_eq_false (show ¬ ((l.dropWhile isDig).dropWhile isBl).length < (l.dropWhile isDig).length by omega)]; simp)]))
      refine condF (by omega) ?_
      have dl := decide_eq_true (show ((l.dropWhile isDig).dropWhile isBl).length < (l.dropWhile isDig).length by omega)
      cases hk2 : okN (((l.dropWhile isDig).dropWhile isBl).takeWhile isDig) with
      | false => exact condB rfl (rsN hn (by rw [hs, if_neg (by rw [hk2]; simp)]))
      | true =>
        have h18' : ¬ 18 < (((l.dropWhile isDig).dropWhile isBl).takeWhile isDig).length := by
          unfold okN at hk2
          simp only [Bool.and_eq_true, decide_eq_true_eq] at hk2
          omega
        simp only [if_neg h18', Int.toNat_natCast, ← Int.natCast_add, d3]
        refine condN rfl (condT (by omega) ?_)
        rw [hk1, hk2, dl] at hs
        have hg := getD_drop l ((l.takeWhile isDig).length + b1 + (((l.dropWhile isDig).dropWhile isBl).takeWhile isDig).length + ((((l.dropWhile isDig).dropWhile isBl).dropWhile isDig).takeWhile isBl).length) 0
        rw [d4, Nat.add_zero] at hg
        generalize ((((l.dropWhile isDig).dropWhile isBl).dropWhile isDig).takeWhile isBl).length = b2 at *
        generalize (((l.dropWhile isDig).dropWhile isBl).dropWhile isDig).dropWhile isBl = R4 at *
        have hnil : R4 = [] ↔ R4.length = 0 := List.length_eq_zero_iff.symm
        by_cases hr4 : R4.length = 0
        · exact condT (by omega) (rsS hn (by rw [hs, if_pos (by rw [decide_eq_true (hnil.2 hr4)]; rfl)]))
        refine condF (by omega) ?_
        rw [decide_eq_false (fun e => hr4 (hnil.1 e))] at hs
        by_cases hb2 : b2 = 0
        · exact condF (by omega) (rsN hn (by rw [hs, if_neg (by rw [decide_eq_false (show ¬ R4.length < (((l.dropWhile isDig).dropWhile isBl).dropWhile isDig).length by omega)]; simp)]))
        rw [decide_eq_true (show R4.length < (((l.dropWhile isDig).dropWhile isBl).dropWhile isDig).length by omega)] at hs
        refine condT (by omega) (condB ((inB_iff _ _).2 (by omega)) ?_)
        rw [hg]
        have b35' : ((R4.getD 0 0).toNat : Int) = 35 ↔ R4.getD 0 0 = 35 := byte_eq _ 35 (by omega)
        by_cases hr : R4.getD 0 0 = 35
        · exact condT (b35'.2 hr) (rsS hn (by rw [hs, if_pos (by rw [decide_eq_true hr]; rfl)]))
        · exact condF (fun e => hr (b35'.1 e)) (rsN hn (by rw [hs, if_neg (by rw [decide_eq_false hr]; simp)]))
theorem rscan_ok (s : ByteArray) (hp : s.size ≤ 9223372036854775807) : FnOk cfg 81 ([vS s].map SV.den) (.tup [.agg [gI ((scanQ s.data.toList)).k, gI ((scanQ s.data.toList)).a, gI ((scanQ s.data.toList)).b, .arr .u32 5 ((scanQ s.data.toList)).w], tB ((scanP s.data.toList).isSome)] : SV).den := by
  obtain ⟨nn, h⟩ := rscan_run s hp
  exact FnD.ok rscan_g rscan_f mixed Tryz.func81 rfl rfl rfl rfl rfl rfl h
noncomputable def c_rscan : SpecF := fun args _ K => match args with
  | [.one (.c (.str s))] => bif decide (s.size ≤ 9223372036854775807) then K (.tup [.agg [gI ((scanQ s.data.toList)).k, gI ((scanQ s.data.toList)).a, gI ((scanQ s.data.toList)).b, .arr .u32 5 ((scanQ s.data.toList)).w], tB ((scanP s.data.toList).isSome)]) [] else none
  | _ => none
theorem c_rscan_ok : SpecOk cfg 81 c_rscan := by
  intro args bx K out h
  unfold c_rscan at h
  split at h
  · obtain ⟨hp, h⟩ := bif_some h
    exact ⟨_, _, h, .inl (rscan_ok _ (of_decide_eq_true hp) _), by simp [isTupS]⟩
  · cases h
end Go.Proofs.YtldofkogmkfpjaaGreatDoor
