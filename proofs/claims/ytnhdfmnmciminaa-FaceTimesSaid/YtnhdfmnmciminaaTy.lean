/-
  What the program's types are, as far as layer 6 reads them.
-/
import Derived.Test.YtnhdfmnmciminaaEvRule
import Derived.Test.YtnhdfmnmciminaaProg
import Derived.KernelRfl
namespace Go.Proofs.Ytnhdfmnmciminaa
open Go.Ev
noncomputable def cfg : Cfg := ⟨Try.prog, fun _ => none, Eq, fun _ => rfl, fun _ _ _ => Eq.trans⟩
theorem mixed : cfg.P.follows .mixedOrders = true := by kernel_rfl
-- 3 epact/epactlaw06.FaceValid
@[go_sem] theorem sz23 : tySize cfg.P 23 = some 4 := by kernel_rfl
theorem agg23 : tyAgg cfg.P 23 = some true := by kernel_rfl
@[go_sem] theorem ld23 (cells : List AC) (off : Nat) : loadA cfg.P 23 cells off = loadG 4 cells off := ld_agg agg23 sz23 cells off
@[go_sem] theorem tb4 : tyB cfg.P 4 = true := by kernel_rfl
-- 9 epact/epactlaw06.answers
@[go_sem] theorem zr23 : zeroL cfg.P 23 = some [.lit (.int .i64 0), .lit (.int .i64 0), .lit (.int .i64 0), .lit (.int .i64 0)] := by kernel_rfl
@[go_sem] theorem st23 : structOk cfg.P 23 = true := by kernel_rfl
@[go_sem] theorem plc23_0 : buildPlace cfg.P 23 0 = some (0, 1) := by kernel_rfl
@[go_sem] theorem plc23_1 : buildPlace cfg.P 23 1 = some (1, 1) := by kernel_rfl
@[go_sem] theorem plc23_2 : buildPlace cfg.P 23 2 = some (2, 1) := by kernel_rfl
@[go_sem] theorem plc23_3 : buildPlace cfg.P 23 3 = some (3, 1) := by kernel_rfl
@[go_sem] theorem eq23 (a0 : Int) (a1 : Int) (a2 : Int) (a3 : Int) (b0 : Int) (b1 : Int) (b2 : Int) (b3 : Int) : eqT cfg.P 23 [.lit (.int .i64 a0), .lit (.int .i64 a1), .lit (.int .i64 a2), .lit (.int .i64 a3)] [.lit (.int .i64 b0), .lit (.int .i64 b1), .lit (.int .i64 b2), .lit (.int .i64 b3)] = some ((decide (a0 = b0) && (decide (a1 = b1) && (decide (a2 = b2) && (decide (a3 = b3) && true))))) := by kernel_rfl
-- 12 epact/face.Sec
@[go_sem] theorem fld23_2 : fldO cfg.P 23 2 = some 2 := by kernel_rfl
theorem agg3 : tyAgg cfg.P 3 = some false := by kernel_rfl
@[go_sem] theorem ld3 (cells : List AC) (off : Nat) : loadA cfg.P 3 cells off = loadC cells off := ld_c agg3 cells off
@[go_sem] theorem fld23_3 : fldO cfg.P 23 3 = some 3 := by kernel_rfl
-- 10 epact/face.Valid
@[go_sem] theorem fld23_0 : fldO cfg.P 23 0 = some 0 := by kernel_rfl
@[go_sem] theorem fld23_1 : fldO cfg.P 23 1 = some 1 := by kernel_rfl
-- 17 epact/face.within[int]
-- 18 epact/face.start
-- 13 epact/face.Time
-- 11 epact/epactref05.Time
-- 4 epact/epactlaw06.FaceSecs
-- 5 epact/epactlaw06.FaceTimes

end Go.Proofs.Ytnhdfmnmciminaa
