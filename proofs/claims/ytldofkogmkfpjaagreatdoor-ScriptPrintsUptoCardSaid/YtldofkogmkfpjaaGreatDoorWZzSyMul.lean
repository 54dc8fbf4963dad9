/-
  The contracts of limb.Mul and limb.Div.
-/
import Derived.Test.YtldofkogmkfpjaaGreatDoorWZzSyDiv
namespace Go.Proofs.YtldofkogmkfpjaaGreatDoor
open Go Go.Ev Go.Sy
set_option linter.unusedSimpArgs false
set_option linter.unusedVariables false
set_option maxRecDepth 10000
set_option maxHeartbeats 4000000
theorem set0 (a b c d x : Int) : setD 4 [a, b, c, d] 0 x = [x, b, c, d] := rfl
theorem set1 (a b c d x : Int) : setD 4 [a, b, c, d] 1 x = [a, x, c, d] := rfl
theorem set2 (a b c d x : Int) : setD 4 [a, b, c, d] 2 x = [a, b, x, d] := rfl
theorem set3 (a b c d x : Int) : setD 4 [a, b, c, d] 3 x = [a, b, c, x] := rfl
theorem get0 (a b c d : Int) : [a, b, c, d].getD 0 0 = a := rfl
theorem get1 (a b c d : Int) : [a, b, c, d].getD 1 0 = b := rfl
theorem get2 (a b c d : Int) : [a, b, c, d].getD 2 0 = c := rfl
theorem get3 (a b c d : Int) : [a, b, c, d].getD 3 0 = d := rfl
theorem out4 {a b c d a' b' c' d' : Int} (h1 : a = a') (h2 : b = b') (h3 : c = c') (h4 : d = d') : (some ⟨.tup [], [⟨.sg [.arr .u64 4 [a, b, c, d]], 0, false⟩]⟩ : Option Out) = some ⟨.tup [], [⟨.sg [.arr .u64 4 [a', b', c', d']], 0, false⟩]⟩ := by rw [h1, h2, h3, h4]
theorem wr2 : IntKind.i64.wrap (0 + 2) = 2 := by decide
theorem wr3 : IntKind.i64.wrap (1 + 2) = 3 := by decide
theorem wr4 : IntKind.i64.wrap (2 + 2) = 4 := by decide
theorem wr31 : IntKind.i64.wrap (2 + 1) = 3 := by decide
theorem wr41 : IntKind.i64.wrap (3 + 1) = 4 := by decide
theorem in2 : inB 2 4 = true := by decide
theorem in3 : inB 3 4 = true := by decide
theorem tn2 : (2 : Int).toNat = 2 := rfl
theorem tn3 : (3 : Int).toNat = 3 := rfl
/-! ### (*limb.words).add -/
noncomputable def wad0_e : Ev' := ⟨Tryz.prog, glob, Γof [(179, c_mul64), (256, c_add64)]⟩
theorem wad0_g : Gd cfg wad0_e := gd (env_cons c_mul64_ok (env_cons c_add64_ok (env_nil _)))
noncomputable def wad0_f : FnD := ⟨259, Tryz.f259, shOf [(0, ⟨69, [], [(69, [.arr .u64 4])], [(0, .c (.ptr 69 0)), (10, .c (.int .u64)), (11, .c (.int .i64))]⟩)], Tryz.f259.resultTypes.toList, 0⟩
theorem wad0_ent (h : Hd) (x : Int) (y : Int) (p0 : Int) (p1 : Int) (p2 : Int) (p3 : Int) : wad0_f.ent wad0_e [69] h [c1 (.ptr 69 0), c1 (.int .u64 x), c1 (.int .u64 y), vI 0] [⟨.sg [.arr .u64 4 [p0, p1, p2, p3]], 0, false⟩] = let v1 : Int := [p0, p1, p2, p3].getD (0 : Nat) (0 : Int); let v2 : Int := v1 + x * y % (18446744073709551616 : Int) + (0 : Int); let v3 : List Int := setD (4 : Nat) [p0, p1, p2, p3] (0 : Nat) (v2 % (18446744073709551616 : Int)); let v4 : Int := v3.getD (1 : Nat) (0 : Int); let v5 : Int := v2 / (18446744073709551616 : Int); let v6 : Int := v4 + x * y / (18446744073709551616 : Int) + v5; bif decide (isW x ∧ isW y) then bif decide (isW v1 ∧ isW (x * y % (18446744073709551616 : Int)) ∧ (0 : Int) ≤ (0 : Int) ∧ (0 : Int) ≤ (1 : Int)) then bif decide (isW v4 ∧ isW (x * y / (18446744073709551616 : Int)) ∧ (0 : Int) ≤ v5 ∧ v5 ≤ (1 : Int)) then h (0 : Nat) [Lf.l (setD (4 : Nat) v3 (1 : Nat) (v6 % (18446744073709551616 : Int))), Lf.i (v6 / (18446744073709551616 : Int)), Lf.i (IntKind.i64.wrap ((0 : Int) + (2 : Int)))] else none else none else none := by kernel_rfl
theorem wad0_l0 (h : Hd) (l0 : List Int) (i1 : Int) (i2 : Int) : wad0_f.seg wad0_e [69] h 0 [.l l0, .i i1, .i i2] = let v1 : Int := l0.getD i2.toNat (0 : Int) + (0 : Int) + i1; bif decide (i2 < (4 : Int)) then bif inB i2 (4 : Nat) then bif decide (i2.toNat < (4 : Nat)) then bif decide (isW (l0.getD i2.toNat (0 : Int)) ∧ isW (0 : Int) ∧ (0 : Int) ≤ i1 ∧ i1 ≤ (1 : Int)) then bif inB i2 (4 : Nat) then bif decide (i2.toNat < (4 : Nat)) then h (0 : Nat) [Lf.l (setD (4 : Nat) l0 i2.toNat (v1 % (18446744073709551616 : Int))), Lf.i (v1 / (18446744073709551616 : Int)), Lf.i (IntKind.i64.wrap (i2 + (1 : Int)))] else none else none else none else none else none else some { r := SV.tup [], bs := [{ ct := Ct.sg [Sg.arr IntKind.u64 (4 : Nat) l0], pub := (0 : Nat), nl := false }] } := by kernel_rfl
theorem wad0_run (x : Int) (y : Int) (p0 : Int) (p1 : Int) (p2 : Int) (p3 : Int) (hp : isW x ∧ isW y ∧ isW p0 ∧ isW p1 ∧ isW p2 ∧ isW p3) : ∃ fu, wad0_f.run wad0_e [69] fu [c1 (.ptr 69 0), c1 (.int .u64 x), c1 (.int .u64 y), vI 0] [⟨.sg [.arr .u64 4 [p0, p1, p2, p3]], 0, false⟩] = some ⟨.tup [], [⟨.sg [.arr .u64 4 [(val4 p0 p1 p2 p3 + x * y * 1) % 18446744073709551616, (val4 p0 p1 p2 p3 + x * y * 1) / 18446744073709551616 % 18446744073709551616, (val4 p0 p1 p2 p3 + x * y * 1) / 340282366920938463463374607431768211456 % 18446744073709551616, (val4 p0 p1 p2 p3 + x * y * 1) / 6277101735386680763835789423207666416102355444464034512896 % 18446744073709551616]], 0, false⟩]⟩ := by
  obtain ⟨hx, hy, h0, h1, h2, h3⟩ := hp
  have hb := mulW_bound hx hy
  have hxy : isW x ∧ isW y := ⟨hx, hy⟩
  refine ⟨4, ?_⟩
  rw [FnD.run, wad0_ent]
  dsimp only
  unfold isW at h0 h1 h2 h3
  dsimp only [get0, get1, get2, get3, set0, set1, set2, set3]
  refine condT hxy ?_
  unfold val4
  generalize x * y = X at *
  refine condT (by unfold isW; omega) (condT (by unfold isW; omega) ?_)
  rw [FnD.H_succ, wad0_l0]
  dsimp only
  rw [wr2]
  dsimp only [tn2, tn3, get0, get1, get2, get3, set0, set1, set2, set3]
  refine condT (by omega) (condB in2 (condT (by omega) (condT (by unfold isW; omega) (condB in2 (condT (by omega) ?_)))))
  rw [FnD.H_succ, wad0_l0]
  dsimp only
  rw [wr31]
  dsimp only [tn2, tn3, get0, get1, get2, get3, set0, set1, set2, set3]
  refine condT (by omega) (condB in3 (condT (by omega) (condT (by unfold isW; omega) (condB in3 (condT (by omega) ?_)))))
  rw [FnD.H_succ, wad0_l0]
  dsimp only
  rw [wr41]
  refine condF (by omega) ?_
  exact out4 (by omega) (by omega) (by omega) (by omega)
theorem wad0_ok (x : Int) (y : Int) (p0 : Int) (p1 : Int) (p2 : Int) (p3 : Int) (hp : isW x ∧ isW y ∧ isW p0 ∧ isW p1 ∧ isW p2 ∧ isW p3) (q : Nat) (pre : Nat → Option Box) (hpre : pre q = some (⟨.sg [.arr .u64 4 [p0, p1, p2, p3]], 0, false⟩ : SB).den) : FnOkB cfg 259 ([c1 (.ptr q 0), c1 (.int .u64 x), c1 (.int .u64 y), vI 0].map SV.den) pre (.tup [] : SV).den [(q, some (⟨.sg [.arr .u64 4 [(val4 p0 p1 p2 p3 + x * y * 1) % 18446744073709551616, (val4 p0 p1 p2 p3 + x * y * 1) / 18446744073709551616 % 18446744073709551616, (val4 p0 p1 p2 p3 + x * y * 1) / 340282366920938463463374607431768211456 % 18446744073709551616, (val4 p0 p1 p2 p3 + x * y * 1) / 6277101735386680763835789423207666416102355444464034512896 % 18446744073709551616]], 0, false⟩ : SB).den)] := by
  obtain ⟨nn, h⟩ := wad0_run x y p0 p1 p2 p3 hp
  exact FnD.ok1 wad0_g wad0_f mixed Tryz.func259 rfl rfl rfl rfl rfl rfl rfl rfl rfl h q pre hpre
/-! ### (*limb.words).add -/
noncomputable def wad1_e : Ev' := ⟨Tryz.prog, glob, Γof [(179, c_mul64), (256, c_add64)]⟩
theorem wad1_g : Gd cfg wad1_e := gd (env_cons c_mul64_ok (env_cons c_add64_ok (env_nil _)))
noncomputable def wad1_f : FnD := ⟨259, Tryz.f259, shOf [(0, ⟨69, [], [(69, [.arr .u64 4])], [(0, .c (.ptr 69 0)), (10, .c (.int .u64)), (11, .c (.int .i64))]⟩)], Tryz.f259.resultTypes.toList, 0⟩
theorem wad1_ent (h : Hd) (x : Int) (y : Int) (p0 : Int) (p1 : Int) (p2 : Int) (p3 : Int) : wad1_f.ent wad1_e [69] h [c1 (.ptr 69 0), c1 (.int .u64 x), c1 (.int .u64 y), vI 1] [⟨.sg [.arr .u64 4 [p0, p1, p2, p3]], 0, false⟩] = let v1 : Int := [p0, p1, p2, p3].getD (1 : Nat) (0 : Int); let v2 : Int := v1 + x * y % (18446744073709551616 : Int) + (0 : Int); let v3 : List Int := setD (4 : Nat) [p0, p1, p2, p3] (1 : Nat) (v2 % (18446744073709551616 : Int)); let v4 : Int := v3.getD (2 : Nat) (0 : Int); let v5 : Int := v2 / (18446744073709551616 : Int); let v6 : Int := v4 + x * y / (18446744073709551616 : Int) + v5; bif decide (isW x ∧ isW y) then bif decide (isW v1 ∧ isW (x * y % (18446744073709551616 : Int)) ∧ (0 : Int) ≤ (0 : Int) ∧ (0 : Int) ≤ (1 : Int)) then bif decide (isW v4 ∧ isW (x * y / (18446744073709551616 : Int)) ∧ (0 : Int) ≤ v5 ∧ v5 ≤ (1 : Int)) then h (0 : Nat) [Lf.l (setD (4 : Nat) v3 (2 : Nat) (v6 % (18446744073709551616 : Int))), Lf.i (v6 / (18446744073709551616 : Int)), Lf.i (IntKind.i64.wrap ((1 : Int) + (2 : Int)))] else none else none else none := by kernel_rfl
theorem wad1_l0 (h : Hd) (l0 : List Int) (i1 : Int) (i2 : Int) : wad1_f.seg wad1_e [69] h 0 [.l l0, .i i1, .i i2] = let v1 : Int := l0.getD i2.toNat (0 : Int) + (0 : Int) + i1; bif decide (i2 < (4 : Int)) then bif inB i2 (4 : Nat) then bif decide (i2.toNat < (4 : Nat)) then bif decide (isW (l0.getD i2.toNat (0 : Int)) ∧ isW (0 : Int) ∧ (0 : Int) ≤ i1 ∧ i1 ≤ (1 : Int)) then bif inB i2 (4 : Nat) then bif decide (i2.toNat < (4 : Nat)) then h (0 : Nat) [Lf.l (setD (4 : Nat) l0 i2.toNat (v1 % (18446744073709551616 : Int))), Lf.i (v1 / (18446744073709551616 : Int)), Lf.i (IntKind.i64.wrap (i2 + (1 : Int)))] else none else none else none else none else none else some { r := SV.tup [], bs := [{ ct := Ct.sg [Sg.arr IntKind.u64 (4 : Nat) l0], pub := (0 : Nat), nl := false }] } := by kernel_rfl
theorem wad1_run (x : Int) (y : Int) (p0 : Int) (p1 : Int) (p2 : Int) (p3 : Int) (hp : isW x ∧ isW y ∧ isW p0 ∧ isW p1 ∧ isW p2 ∧ isW p3) : ∃ fu, wad1_f.run wad1_e [69] fu [c1 (.ptr 69 0), c1 (.int .u64 x), c1 (.int .u64 y), vI 1] [⟨.sg [.arr .u64 4 [p0, p1, p2, p3]], 0, false⟩] = some ⟨.tup [], [⟨.sg [.arr .u64 4 [(val4 p0 p1 p2 p3 + x * y * 18446744073709551616) % 18446744073709551616, (val4 p0 p1 p2 p3 + x * y * 18446744073709551616) / 18446744073709551616 % 18446744073709551616, (val4 p0 p1 p2 p3 + x * y * 18446744073709551616) / 340282366920938463463374607431768211456 % 18446744073709551616, (val4 p0 p1 p2 p3 + x * y * 18446744073709551616) / 6277101735386680763835789423207666416102355444464034512896 % 18446744073709551616]], 0, false⟩]⟩ := by
  obtain ⟨hx, hy, h0, h1, h2, h3⟩ := hp
  have hb := mulW_bound hx hy
  have hxy : isW x ∧ isW y := ⟨hx, hy⟩
  refine ⟨4, ?_⟩
  rw [FnD.run, wad1_ent]
  dsimp only
  unfold isW at h0 h1 h2 h3
  dsimp only [get0, get1, get2, get3, set0, set1, set2, set3]
  refine condT hxy ?_
  unfold val4
  generalize x * y = X at *
  refine condT (by unfold isW; omega) (condT (by unfold isW; omega) ?_)
  rw [FnD.H_succ, wad1_l0]
  dsimp only
  rw [wr3]
  dsimp only [tn2, tn3, get0, get1, get2, get3, set0, set1, set2, set3]
  refine condT (by omega) (condB in3 (condT (by omega) (condT (by unfold isW; omega) (condB in3 (condT (by omega) ?_)))))
  rw [FnD.H_succ, wad1_l0]
  dsimp only
  rw [wr41]
  refine condF (by omega) ?_
  exact out4 (by omega) (by omega) (by omega) (by omega)
theorem wad1_ok (x : Int) (y : Int) (p0 : Int) (p1 : Int) (p2 : Int) (p3 : Int) (hp : isW x ∧ isW y ∧ isW p0 ∧ isW p1 ∧ isW p2 ∧ isW p3) (q : Nat) (pre : Nat → Option Box) (hpre : pre q = some (⟨.sg [.arr .u64 4 [p0, p1, p2, p3]], 0, false⟩ : SB).den) : FnOkB cfg 259 ([c1 (.ptr q 0), c1 (.int .u64 x), c1 (.int .u64 y), vI 1].map SV.den) pre (.tup [] : SV).den [(q, some (⟨.sg [.arr .u64 4 [(val4 p0 p1 p2 p3 + x * y * 18446744073709551616) % 18446744073709551616, (val4 p0 p1 p2 p3 + x * y * 18446744073709551616) / 18446744073709551616 % 18446744073709551616, (val4 p0 p1 p2 p3 + x * y * 18446744073709551616) / 340282366920938463463374607431768211456 % 18446744073709551616, (val4 p0 p1 p2 p3 + x * y * 18446744073709551616) / 6277101735386680763835789423207666416102355444464034512896 % 18446744073709551616]], 0, false⟩ : SB).den)] := by
  obtain ⟨nn, h⟩ := wad1_run x y p0 p1 p2 p3 hp
  exact FnD.ok1 wad1_g wad1_f mixed Tryz.func259 rfl rfl rfl rfl rfl rfl rfl rfl rfl h q pre hpre
/-! ### (*limb.words).add -/
noncomputable def wad2_e : Ev' := ⟨Tryz.prog, glob, Γof [(179, c_mul64), (256, c_add64)]⟩
theorem wad2_g : Gd cfg wad2_e := gd (env_cons c_mul64_ok (env_cons c_add64_ok (env_nil _)))
noncomputable def wad2_f : FnD := ⟨259, Tryz.f259, shOf [(0, ⟨69, [], [(69, [.arr .u64 4])], [(0, .c (.ptr 69 0)), (10, .c (.int .u64)), (11, .c (.int .i64))]⟩)], Tryz.f259.resultTypes.toList, 0⟩
theorem wad2_ent (h : Hd) (x : Int) (y : Int) (p0 : Int) (p1 : Int) (p2 : Int) (p3 : Int) : wad2_f.ent wad2_e [69] h [c1 (.ptr 69 0), c1 (.int .u64 x), c1 (.int .u64 y), vI 2] [⟨.sg [.arr .u64 4 [p0, p1, p2, p3]], 0, false⟩] = let v1 : Int := [p0, p1, p2, p3].getD (2 : Nat) (0 : Int); let v2 : Int := v1 + x * y % (18446744073709551616 : Int) + (0 : Int); let v3 : List Int := setD (4 : Nat) [p0, p1, p2, p3] (2 : Nat) (v2 % (18446744073709551616 : Int)); let v4 : Int := v3.getD (3 : Nat) (0 : Int); let v5 : Int := v2 / (18446744073709551616 : Int); let v6 : Int := v4 + x * y / (18446744073709551616 : Int) + v5; bif decide (isW x ∧ isW y) then bif decide (isW v1 ∧ isW (x * y % (18446744073709551616 : Int)) ∧ (0 : Int) ≤ (0 : Int) ∧ (0 : Int) ≤ (1 : Int)) then bif decide (isW v4 ∧ isW (x * y / (18446744073709551616 : Int)) ∧ (0 : Int) ≤ v5 ∧ v5 ≤ (1 : Int)) then h (0 : Nat) [Lf.l (setD (4 : Nat) v3 (3 : Nat) (v6 % (18446744073709551616 : Int))), Lf.i (v6 / (18446744073709551616 : Int)), Lf.i (IntKind.i64.wrap ((2 : Int) + (2 : Int)))] else none else none else none := by kernel_rfl
theorem wad2_l0 (h : Hd) (l0 : List Int) (i1 : Int) (i2 : Int) : wad2_f.seg wad2_e [69] h 0 [.l l0, .i i1, .i i2] = let v1 : Int := l0.getD i2.toNat (0 : Int) + (0 : Int) + i1; bif decide (i2 < (4 : Int)) then bif inB i2 (4 : Nat) then bif decide (i2.toNat < (4 : Nat)) then bif decide (isW (l0.getD i2.toNat (0 : Int)) ∧ isW (0 : Int) ∧ (0 : Int) ≤ i1 ∧ i1 ≤ (1 : Int)) then bif inB i2 (4 : Nat) then bif decide (i2.toNat < (4 : Nat)) then h (0 : Nat) [Lf.l (setD (4 : Nat) l0 i2.toNat (v1 % (18446744073709551616 : Int))), Lf.i (v1 / (18446744073709551616 : Int)), Lf.i (IntKind.i64.wrap (i2 + (1 : Int)))] else none else none else none else none else none else some { r := SV.tup [], bs := [{ ct := Ct.sg [Sg.arr IntKind.u64 (4 : Nat) l0], pub := (0 : Nat), nl := false }] } := by kernel_rfl
theorem wad2_run (x : Int) (y : Int) (p0 : Int) (p1 : Int) (p2 : Int) (p3 : Int) (hp : isW x ∧ isW y ∧ isW p0 ∧ isW p1 ∧ isW p2 ∧ isW p3) : ∃ fu, wad2_f.run wad2_e [69] fu [c1 (.ptr 69 0), c1 (.int .u64 x), c1 (.int .u64 y), vI 2] [⟨.sg [.arr .u64 4 [p0, p1, p2, p3]], 0, false⟩] = some ⟨.tup [], [⟨.sg [.arr .u64 4 [(val4 p0 p1 p2 p3 + x * y * 340282366920938463463374607431768211456) % 18446744073709551616, (val4 p0 p1 p2 p3 + x * y * 340282366920938463463374607431768211456) / 18446744073709551616 % 18446744073709551616, (val4 p0 p1 p2 p3 + x * y * 340282366920938463463374607431768211456) / 340282366920938463463374607431768211456 % 18446744073709551616, (val4 p0 p1 p2 p3 + x * y * 340282366920938463463374607431768211456) / 6277101735386680763835789423207666416102355444464034512896 % 18446744073709551616]], 0, false⟩]⟩ := by
  obtain ⟨hx, hy, h0, h1, h2, h3⟩ := hp
  have hb := mulW_bound hx hy
  have hxy : isW x ∧ isW y := ⟨hx, hy⟩
  refine ⟨4, ?_⟩
  rw [FnD.run, wad2_ent]
  dsimp only
  unfold isW at h0 h1 h2 h3
  dsimp only [get0, get1, get2, get3, set0, set1, set2, set3]
  refine condT hxy ?_
  unfold val4
  generalize x * y = X at *
  refine condT (by unfold isW; omega) (condT (by unfold isW; omega) ?_)
  rw [FnD.H_succ, wad2_l0]
  dsimp only
  rw [wr4]
  refine condF (by omega) ?_
  exact out4 (by omega) (by omega) (by omega) (by omega)
theorem wad2_ok (x : Int) (y : Int) (p0 : Int) (p1 : Int) (p2 : Int) (p3 : Int) (hp : isW x ∧ isW y ∧ isW p0 ∧ isW p1 ∧ isW p2 ∧ isW p3) (q : Nat) (pre : Nat → Option Box) (hpre : pre q = some (⟨.sg [.arr .u64 4 [p0, p1, p2, p3]], 0, false⟩ : SB).den) : FnOkB cfg 259 ([c1 (.ptr q 0), c1 (.int .u64 x), c1 (.int .u64 y), vI 2].map SV.den) pre (.tup [] : SV).den [(q, some (⟨.sg [.arr .u64 4 [(val4 p0 p1 p2 p3 + x * y * 340282366920938463463374607431768211456) % 18446744073709551616, (val4 p0 p1 p2 p3 + x * y * 340282366920938463463374607431768211456) / 18446744073709551616 % 18446744073709551616, (val4 p0 p1 p2 p3 + x * y * 340282366920938463463374607431768211456) / 340282366920938463463374607431768211456 % 18446744073709551616, (val4 p0 p1 p2 p3 + x * y * 340282366920938463463374607431768211456) / 6277101735386680763835789423207666416102355444464034512896 % 18446744073709551616]], 0, false⟩ : SB).den)] := by
  obtain ⟨nn, h⟩ := wad2_run x y p0 p1 p2 p3 hp
  exact FnD.ok1 wad2_g wad2_f mixed Tryz.func259 rfl rfl rfl rfl rfl rfl rfl rfl rfl h q pre hpre
noncomputable def c_words : SpecF := fun args bx K => match args with
  | [.one (.c (.ptr q 0)), .one (.c (.int .u64 x)), .one (.c (.int .u64 y)), .one (.c (.int .i64 n))] => match bx q with
    | some ⟨.sg [.arr .u64 4 [p0, p1, p2, p3]], 0, false⟩ => bif decide (isW x ∧ isW y ∧ isW p0 ∧ isW p1 ∧ isW p2 ∧ isW p3) then
      bif decide (n = 0) then K (.tup []) [(q, some ⟨.sg [.arr .u64 4 [(val4 p0 p1 p2 p3 + x * y * 1) % 18446744073709551616, (val4 p0 p1 p2 p3 + x * y * 1) / 18446744073709551616 % 18446744073709551616, (val4 p0 p1 p2 p3 + x * y * 1) / 340282366920938463463374607431768211456 % 18446744073709551616, (val4 p0 p1 p2 p3 + x * y * 1) / 6277101735386680763835789423207666416102355444464034512896 % 18446744073709551616]], 0, false⟩)]
      else bif decide (n = 1) then K (.tup []) [(q, some ⟨.sg [.arr .u64 4 [(val4 p0 p1 p2 p3 + x * y * 18446744073709551616) % 18446744073709551616, (val4 p0 p1 p2 p3 + x * y * 18446744073709551616) / 18446744073709551616 % 18446744073709551616, (val4 p0 p1 p2 p3 + x * y * 18446744073709551616) / 340282366920938463463374607431768211456 % 18446744073709551616, (val4 p0 p1 p2 p3 + x * y * 18446744073709551616) / 6277101735386680763835789423207666416102355444464034512896 % 18446744073709551616]], 0, false⟩)]
      else bif decide (n = 2) then K (.tup []) [(q, some ⟨.sg [.arr .u64 4 [(val4 p0 p1 p2 p3 + x * y * 340282366920938463463374607431768211456) % 18446744073709551616, (val4 p0 p1 p2 p3 + x * y * 340282366920938463463374607431768211456) / 18446744073709551616 % 18446744073709551616, (val4 p0 p1 p2 p3 + x * y * 340282366920938463463374607431768211456) / 340282366920938463463374607431768211456 % 18446744073709551616, (val4 p0 p1 p2 p3 + x * y * 340282366920938463463374607431768211456) / 6277101735386680763835789423207666416102355444464034512896 % 18446744073709551616]], 0, false⟩)]
      else none else none
    | _ => none
  | _ => none
theorem c_words_ok : SpecOk cfg 259 c_words := by
  intro args bx K out h
  unfold c_words at h
  split at h
  · split at h
    · rename_i hb
      obtain ⟨hp, h2⟩ := bif_some h
      have hp := of_decide_eq_true hp
      rw [Bool.cond_eq_ite] at h2
      split at h2
      · rename_i e
        have e := of_decide_eq_true e
        subst e
        exact ⟨_, _, h2, .inl (wad0_ok _ _ _ _ _ _ hp _ _ (by simp [denB, hb])), by simp [isTupS]⟩
      · rw [Bool.cond_eq_ite] at h2
        split at h2
        · rename_i e
          have e := of_decide_eq_true e
          subst e
          exact ⟨_, _, h2, .inl (wad1_ok _ _ _ _ _ _ hp _ _ (by simp [denB, hb])), by simp [isTupS]⟩
        · rw [Bool.cond_eq_ite] at h2
          split at h2
          · rename_i e
            have e := of_decide_eq_true e
            subst e
            exact ⟨_, _, h2, .inl (wad2_ok _ _ _ _ _ _ hp _ _ (by simp [denB, hb])), by simp [isTupS]⟩
          · cases h2
    · cases h
  · cases h
/-! ### limb.Mul -/
noncomputable def lmul_e : Ev' := ⟨Tryz.prog, glob, Γof [(259, c_words)]⟩
theorem lmul_g : Gd cfg lmul_e := gd (env_cons c_words_ok (env_nil _))
noncomputable def lmul_f : FnD := ⟨243, Tryz.f243, noSh, Tryz.f243.resultTypes.toList, 0⟩
theorem lmul_ent (h : Hd) (a : Int) (b : Int) (c : Int) (d : Int) : lmul_f.ent lmul_e [] h [agg [.c (.int .u64 a), .c (.int .u64 b)], agg [.c (.int .u64 c), .c (.int .u64 d)]] [] = let v1 : Int := val4 (0 : Int) (0 : Int) (0 : Int) (0 : Int) + b * d * (1 : Int); let v2 : Int := v1 % (18446744073709551616 : Int); let v3 : Int := v1 / (18446744073709551616 : Int) % (18446744073709551616 : Int); let v4 : Int := v1 / (340282366920938463463374607431768211456 : Int) % (18446744073709551616 : Int); let v5 : Int := v1 / (6277101735386680763835789423207666416102355444464034512896 : Int) % (18446744073709551616 : Int); let v6 : Int := val4 v2 v3 v4 v5 + b * c * (18446744073709551616 : Int); let v7 : Int := v6 % (18446744073709551616 : Int); let v8 : Int := v6 / (18446744073709551616 : Int) % (18446744073709551616 : Int); let v9 : Int := v6 / (340282366920938463463374607431768211456 : Int) % (18446744073709551616 : Int); let v10 : Int := v6 / (6277101735386680763835789423207666416102355444464034512896 : Int) % (18446744073709551616 : Int); let v11 : Int := val4 v7 v8 v9 v10 + a * d * (18446744073709551616 : Int); let v12 : Int := v11 % (18446744073709551616 : Int); let v13 : Int := v11 / (18446744073709551616 : Int) % (18446744073709551616 : Int); let v14 : Int := v11 / (340282366920938463463374607431768211456 : Int) % (18446744073709551616 : Int); let v15 : Int := v11 / (6277101735386680763835789423207666416102355444464034512896 : Int) % (18446744073709551616 : Int); let v16 : Int := val4 v12 v13 v14 v15 + a * c * (340282366920938463463374607431768211456 : Int); bif decide (isW b ∧ isW d ∧ isW (0 : Int) ∧ isW (0 : Int) ∧ isW (0 : Int) ∧ isW (0 : Int)) then bif decide (isW b ∧ isW c ∧ isW v2 ∧ isW v3 ∧ isW v4 ∧ isW v5) then bif decide (isW a ∧ isW d ∧ isW v7 ∧ isW v8 ∧ isW v9 ∧ isW v10) then bif decide (isW a ∧ isW c ∧ isW v12 ∧ isW v13 ∧ isW v14 ∧ isW v15) then ret (SV.tup [S1.agg [gU ([v16 % (18446744073709551616 : Int), v16 / (18446744073709551616 : Int) % (18446744073709551616 : Int), v16 / (340282366920938463463374607431768211456 : Int) % (18446744073709551616 : Int), v16 / (6277101735386680763835789423207666416102355444464034512896 : Int) % (18446744073709551616 : Int)].getD (3 : Nat) (0 : Int)), gU ([v16 % (18446744073709551616 : Int), v16 / (18446744073709551616 : Int) % (18446744073709551616 : Int), v16 / (340282366920938463463374607431768211456 : Int) % (18446744073709551616 : Int), v16 / (6277101735386680763835789423207666416102355444464034512896 : Int) % (18446744073709551616 : Int)].getD (2 : Nat) (0 : Int))], S1.agg [gU ([v16 % (18446744073709551616 : Int), v16 / (18446744073709551616 : Int) % (18446744073709551616 : Int), v16 / (340282366920938463463374607431768211456 : Int) % (18446744073709551616 : Int), v16 / (6277101735386680763835789423207666416102355444464034512896 : Int) % (18446744073709551616 : Int)].getD (1 : Nat) (0 : Int)), gU ([v16 % (18446744073709551616 : Int), v16 / (18446744073709551616 : Int) % (18446744073709551616 : Int), v16 / (340282366920938463463374607431768211456 : Int) % (18446744073709551616 : Int), v16 / (6277101735386680763835789423207666416102355444464034512896 : Int) % (18446744073709551616 : Int)].getD (0 : Nat) (0 : Int))]]) else none else none else none else none := by kernel_rfl
theorem lmul_run (a : Int) (b : Int) (c : Int) (d : Int) (hp : isW a ∧ isW b ∧ isW c ∧ isW d) : ∃ fu, lmul_f.run lmul_e [] fu [agg [.c (.int .u64 a), .c (.int .u64 b)], agg [.c (.int .u64 c), .c (.int .u64 d)]] [] = some ⟨.tup [.agg [gU (wHi ((wVal a b * wVal c d) / 340282366920938463463374607431768211456)), gU (wLo ((wVal a b * wVal c d) / 340282366920938463463374607431768211456))], .agg [gU (wHi ((wVal a b * wVal c d) % 340282366920938463463374607431768211456)), gU (wLo ((wVal a b * wVal c d) % 340282366920938463463374607431768211456))]], []⟩ := by
  refine ⟨0, ?_⟩
  rw [FnD.run, lmul_ent]
  obtain ⟨ha, hb, hc, hd⟩ := hp
  have z : isW 0 := ⟨by omega, by omega⟩
  have dg : ∀ x : Int, isW (x % 18446744073709551616) := fun x => wLo_in x
  dsimp only
  refine condT ⟨hb, hd, z, z, z, z⟩ (condT ⟨hb, hc, dg _, dg _, dg _, dg _⟩ (condT ⟨ha, hd, dg _, dg _, dg _, dg _⟩ (condT ⟨ha, hc, dg _, dg _, dg _, dg _⟩ ?_)))
  rw [wVal_mul a b c d]
  dsimp only [get0, get1, get2, get3]
  simp only [val4_digits]
  rw [show val4 0 0 0 0 = 0 from rfl]
  have b1 := mulW_bound hb hd
  have b2 := mulW_bound hb hc
  have b3 := mulW_bound ha hd
  have b4 := mulW_bound ha hc
  generalize b * d = p1 at *
  generalize b * c = p2 at *
  generalize a * d = p3 at *
  generalize a * c = p4 at *
  have e : (((0 + p1 * 1) % 115792089237316195423570985008687907853269984665640564039457584007913129639936 + p2 * 18446744073709551616) % 115792089237316195423570985008687907853269984665640564039457584007913129639936 + p3 * 18446744073709551616) % 115792089237316195423570985008687907853269984665640564039457584007913129639936 + p4 * 340282366920938463463374607431768211456 = p4 * 340282366920938463463374607431768211456 + (p3 + p2) * 18446744073709551616 + p1 := by omega
  rw [e]
  generalize p4 * 340282366920938463463374607431768211456 + (p3 + p2) * 18446744073709551616 + p1 = T at *
  simp only [ret, Option.some.injEq, Out.mk.injEq, SV.tup.injEq, SV.one.injEq, S1.c.injEq, S1.agg.injEq, List.cons.injEq, Sg.c.injEq, Cl.int.injEq, Cl.bool.injEq, Cl.str.injEq, and_true, true_and]
  unfold wHi wLo
  refine ⟨⟨?_, ?_⟩, ?_, ?_⟩ <;> omega
theorem lmul_ok (a : Int) (b : Int) (c : Int) (d : Int) (hp : isW a ∧ isW b ∧ isW c ∧ isW d) : FnOk cfg 243 ([agg [.c (.int .u64 a), .c (.int .u64 b)], agg [.c (.int .u64 c), .c (.int .u64 d)]].map SV.den) (.tup [.agg [gU (wHi ((wVal a b * wVal c d) / 340282366920938463463374607431768211456)), gU (wLo ((wVal a b * wVal c d) / 340282366920938463463374607431768211456))], .agg [gU (wHi ((wVal a b * wVal c d) % 340282366920938463463374607431768211456)), gU (wLo ((wVal a b * wVal c d) % 340282366920938463463374607431768211456))]] : SV).den := by
  obtain ⟨nn, h⟩ := lmul_run a b c d hp
  exact FnD.ok lmul_g lmul_f mixed Tryz.func243 rfl rfl rfl rfl rfl rfl h
noncomputable def c_lmul : SpecF := fun args _ K => match args with
  | [.one (.agg [.c (.int .u64 a), .c (.int .u64 b)]), .one (.agg [.c (.int .u64 c), .c (.int .u64 d)])] => bif decide (isW a ∧ isW b ∧ isW c ∧ isW d) then K (.tup [.agg [gU (wHi ((wVal a b * wVal c d) / 340282366920938463463374607431768211456)), gU (wLo ((wVal a b * wVal c d) / 340282366920938463463374607431768211456))], .agg [gU (wHi ((wVal a b * wVal c d) % 340282366920938463463374607431768211456)), gU (wLo ((wVal a b * wVal c d) % 340282366920938463463374607431768211456))]]) [] else none
  | _ => none
theorem c_lmul_ok : SpecOk cfg 243 c_lmul := by
  intro args bx K out h
  unfold c_lmul at h
  split at h
  · obtain ⟨hp, h⟩ := bif_some h
    exact ⟨_, _, h, .inl (lmul_ok _ _ _ _ (of_decide_eq_true hp) _), by simp [isTupS]⟩
  · cases h
end Go.Proofs.YtldofkogmkfpjaaGreatDoor
