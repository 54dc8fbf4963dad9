/-
  What the program's types and its months' lengths are, as far as layer 5 reads them.
-/
import Derived.Test.YtnhdfmnmciminaaDoorEvTop
import Derived.Test.YtnhdfmnmciminaaDoorProg
import Derived.KernelRfl
import Derived.IntWalk
namespace Go.Proofs.YtnhdfmnmciminaaDoor
open Go Go.Ev
/-- The months' lengths, as greg's variable has them. -/
def lens : List AC := [.lit (.int .i64 31), .lit (.int .i64 28), .lit (.int .i64 31), .lit (.int .i64 30), .lit (.int .i64 31), .lit (.int .i64 30), .lit (.int .i64 31), .lit (.int .i64 31), .lit (.int .i64 30), .lit (.int .i64 31), .lit (.int .i64 30), .lit (.int .i64 31)]
def glob : Nat → Option (List AC)
  | 0 => some lens
  | _ => none
noncomputable def cfg : Cfg := ⟨Tryd.prog, glob, Eq, fun _ => rfl, fun _ _ _ => Eq.trans⟩
theorem mixed : cfg.P.follows .mixedOrders = true := by kernel_rfl
@[go_sem] theorem glob0 : cfg.G 0 = some [.lit (.int .i64 31), .lit (.int .i64 28), .lit (.int .i64 31), .lit (.int .i64 30), .lit (.int .i64 31), .lit (.int .i64 30), .lit (.int .i64 31), .lit (.int .i64 31), .lit (.int .i64 30), .lit (.int .i64 31), .lit (.int .i64 30), .lit (.int .i64 31)] := rfl
-- 3 epact/epactlaw05.GregMonths
@[go_sem] theorem zr23 : zeroL cfg.P 23 = some [.lit (.int .i64 0), .lit (.int .i64 0), .lit (.int .i64 0)] := by kernel_rfl
@[go_sem] theorem st23 : structOk cfg.P 23 = true := by kernel_rfl
@[go_sem] theorem plc23_0 : buildPlace cfg.P 23 0 = some (0, 1) := by kernel_rfl
@[go_sem] theorem plc23_1 : buildPlace cfg.P 23 1 = some (1, 1) := by kernel_rfl
@[go_sem] theorem plc23_2 : buildPlace cfg.P 23 2 = some (2, 1) := by kernel_rfl
@[go_sem] theorem sz23 : tySize cfg.P 23 = some 3 := by kernel_rfl
@[go_sem] theorem tb4 : tyB cfg.P 4 = true := by kernel_rfl
theorem agg23 : tyAgg cfg.P 23 = some true := by kernel_rfl
@[go_sem] theorem ld23 (cells : List AC) (off : Nat) : loadA cfg.P 23 cells off = loadG 3 cells off := ld_agg agg23 sz23 cells off
-- 8 epact/epactlaw05.answers
@[go_sem] theorem eq23 (a0 : Int) (a1 : Int) (a2 : Int) (b0 : Int) (b1 : Int) (b2 : Int) : eqT cfg.P 23 [.lit (.int .i64 a0), .lit (.int .i64 a1), .lit (.int .i64 a2)] [.lit (.int .i64 b0), .lit (.int .i64 b1), .lit (.int .i64 b2)] = some ((decide (a0 = b0) && (decide (a1 = b1) && (decide (a2 = b2) && true)))) := by kernel_rfl
-- 15 epact/greg.Day
@[go_sem] theorem fld23_0 : fldO cfg.P 23 0 = some 0 := by kernel_rfl
theorem agg3 : tyAgg cfg.P 3 = some false := by kernel_rfl
@[go_sem] theorem ld3 (cells : List AC) (off : Nat) : loadA cfg.P 3 cells off = loadC cells off := ld_c agg3 cells off
@[go_sem] theorem fld23_1 : fldO cfg.P 23 1 = some 1 := by kernel_rfl
@[go_sem] theorem fld23_2 : fldO cfg.P 23 2 = some 2 := by kernel_rfl
-- 13 epact/greg.Valid
-- 11 epact/greg.Length
@[go_sem] theorem arr35 : arrN cfg.P 35 = some (12, 1) := by kernel_rfl
-- 9 epact/greg.Leap
-- 20 epact/greg.floor
-- 21 epact/greg.in
-- 17 epact/greg.Date
@[go_sem] theorem sz3 : tySize cfg.P 3 = some 1 := by kernel_rfl
-- 10 epact/epactref05.Long
-- 12 epact/epactref05.Length
@[go_sem] theorem rz36_12 : rowZ cfg.P 36 12 = some (1, [.lit (.int .i64 0), .lit (.int .i64 0), .lit (.int .i64 0), .lit (.int .i64 0), .lit (.int .i64 0), .lit (.int .i64 0), .lit (.int .i64 0), .lit (.int .i64 0), .lit (.int .i64 0), .lit (.int .i64 0), .lit (.int .i64 0), .lit (.int .i64 0)]) := by kernel_rfl
@[go_sem] theorem slc36 : slcN cfg.P 36 = some 1 := by kernel_rfl
-- 14 epact/epactref05.Valid
-- 4 epact/epactlaw05.GregDays
-- 16 epact/epactref05.Day
-- 22 epact/epactref05.First
-- 23 epact/epactref05.Floor
-- 18 epact/epactref05.In
-- 5 epact/epactlaw05.GregDates
-- 19 epact/epactref05.Date
-- 6 epact/epactlaw05.GregNext
-- 7 epact/epactlaw05.GregCycle

end Go.Proofs.YtnhdfmnmciminaaDoor
