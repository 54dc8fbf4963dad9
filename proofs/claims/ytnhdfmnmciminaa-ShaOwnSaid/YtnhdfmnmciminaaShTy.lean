/-
  What the program's types are, as far as layer 9 reads them.
-/
import Derived.Test.YtnhdfmnmciminaaEvTop
import Derived.Test.YtnhdfmnmciminaaProg
import Derived.KernelRfl
import Derived.IntWalk
namespace Go.Proofs.Ytnhdfmnmciminaa.Sh
open Go Go.Ev
noncomputable def cfg : Cfg := ⟨Try.prog, fun _ => none, Eq, fun _ => rfl, fun _ _ _ => Eq.trans⟩
theorem mixed : cfg.P.follows .mixedOrders = true := by kernel_rfl
-- 6 epact/epactlaw09.ShaSums
-- 14 epact/epactlaw09.answers
@[go_sem] theorem zr40 : zeroL cfg.P 40 = some (IL .u32 (List.replicate 5 0)) := by kernel_rfl
@[go_sem] theorem sz40 : tySize cfg.P 40 = some 5 := by kernel_rfl
@[go_sem] theorem rz32_3 : rowZ cfg.P 32 3 = some (1, [.lit (.int .u8 0), .lit (.int .u8 0), .lit (.int .u8 0)]) := by kernel_rfl
@[go_sem] theorem ok32 : tyOk cfg.P 32 = true := by kernel_rfl
@[go_sem] theorem ck32 : ckOf cfg.P 32 = .bytes := by kernel_rfl
@[go_sem] theorem zr35 : zeroL cfg.P 35 = some (IL .u8 (List.replicate 20 0)) := by kernel_rfl
@[go_sem] theorem sz35 : tySize cfg.P 35 = some 20 := by kernel_rfl
@[go_sem] theorem arr40 : arrN cfg.P 40 = some (5, 1) := by kernel_rfl
theorem agg39 : tyAgg cfg.P 39 = some false := by kernel_rfl
@[go_sem] theorem ld39 (cells : List AC) (off : Nat) : loadA cfg.P 39 cells off = loadC cells off := ld_c agg39 cells off
@[go_sem] theorem arr35 : arrN cfg.P 35 = some (20, 1) := by kernel_rfl
theorem agg5 : tyAgg cfg.P 5 = some false := by kernel_rfl
@[go_sem] theorem ld5 (cells : List AC) (off : Nat) : loadA cfg.P 5 cells off = loadC cells off := ld_c agg5 cells off
-- 19 epact/sha.Words
@[go_sem] theorem zr45 : zeroL cfg.P 45 = some (IL .u32 (List.replicate 5 0)) := by kernel_rfl
@[go_sem] theorem sz45 : tySize cfg.P 45 = some 5 := by kernel_rfl
@[go_sem] theorem isl32 : isSlT cfg.P 32 = true := by kernel_rfl
@[go_sem] theorem sls32 : slcS cfg.P 32 = some 1 := by kernel_rfl
theorem agg45 : tyAgg cfg.P 45 = some true := by kernel_rfl
@[go_sem] theorem ld45 (cells : List AC) (off : Nat) : loadA cfg.P 45 cells off = loadG 5 cells off := ld_agg agg45 sz45 cells off
theorem agg40 : tyAgg cfg.P 40 = some true := by kernel_rfl
@[go_sem] theorem ld40 (cells : List AC) (off : Nat) : loadA cfg.P 40 cells off = loadG 5 cells off := ld_agg agg40 sz40 cells off
-- 21 epact/sha.begin
@[go_sem] theorem st45 : structOk cfg.P 45 = true := by kernel_rfl
@[go_sem] theorem plc45_0 : buildPlace cfg.P 45 0 = some (0, 1) := by kernel_rfl
@[go_sem] theorem plc45_1 : buildPlace cfg.P 45 1 = some (1, 1) := by kernel_rfl
@[go_sem] theorem plc45_2 : buildPlace cfg.P 45 2 = some (2, 1) := by kernel_rfl
@[go_sem] theorem plc45_3 : buildPlace cfg.P 45 3 = some (3, 1) := by kernel_rfl
@[go_sem] theorem plc45_4 : buildPlace cfg.P 45 4 = some (4, 1) := by kernel_rfl
-- 22 epact/sha.padded
@[go_sem] theorem rz32_0 : rowZ cfg.P 32 0 = some (1, []) := by kernel_rfl
@[go_sem] theorem elt32 : eltOf cfg.P 32 = some ⟨5, 1, 1, #[.int .u8 0]⟩ := by kernel_rfl
@[go_sem] theorem rz32_1 : rowZ cfg.P 32 1 = some (1, [.lit (.int .u8 0)]) := by kernel_rfl
@[go_sem] theorem ok3 : tyOk cfg.P 3 = true := by kernel_rfl
@[go_sem] theorem ck3 : ckOf cfg.P 3 = .int .i64 := by kernel_rfl
@[go_sem] theorem ck51 : ckOf cfg.P 51 = .int .u64 := by kernel_rfl
@[go_sem] theorem ok51 : tyOk cfg.P 51 = true := by kernel_rfl
@[go_sem] theorem ck5 : ckOf cfg.P 5 = .int .u8 := by kernel_rfl
-- 23 (*epact/sha.state).add
@[go_sem] theorem zr53 : zeroL cfg.P 53 = some (IL .u32 (List.replicate 80 0)) := by kernel_rfl
@[go_sem] theorem sz53 : tySize cfg.P 53 = some 80 := by kernel_rfl
theorem agg53 : tyAgg cfg.P 53 = some true := by kernel_rfl
@[go_sem] theorem ld53 (cells : List AC) (off : Nat) : loadA cfg.P 53 cells off = loadG 80 cells off := ld_agg agg53 sz53 cells off
@[go_sem] theorem ixn53 : ixvN cfg.P 53 = some (80, 39, 1) := by kernel_rfl
@[go_sem] theorem arr45 : arrN cfg.P 45 = some (5, 1) := by kernel_rfl
@[go_sem] theorem sz39 : tySize cfg.P 39 = some 1 := by kernel_rfl
-- 25 epact/sha.spread
@[go_sem] theorem slc32 : slcN cfg.P 32 = some 1 := by kernel_rfl
@[go_sem] theorem ok5 : tyOk cfg.P 5 = true := by kernel_rfl
@[go_sem] theorem ck39 : ckOf cfg.P 39 = .int .u32 := by kernel_rfl
@[go_sem] theorem arr53 : arrN cfg.P 53 = some (80, 1) := by kernel_rfl
-- 26 math/bits.RotateLeft32
@[go_sem] theorem ck44 : ckOf cfg.P 44 = .int .u64 := by kernel_rfl
-- 27 epact/sha.mix
-- 28 epact/sha.constant
-- 16 epact/sha.Sum
@[go_sem] theorem ixn40 : ixvN cfg.P 40 = some (5, 39, 1) := by kernel_rfl
@[go_sem] theorem ok39 : tyOk cfg.P 39 = true := by kernel_rfl
@[go_sem] theorem sz5 : tySize cfg.P 5 = some 1 := by kernel_rfl
theorem agg35 : tyAgg cfg.P 35 = some true := by kernel_rfl
@[go_sem] theorem ld35 (cells : List AC) (off : Nat) : loadA cfg.P 35 cells off = loadG 20 cells off := ld_agg agg35 sz35 cells off
-- 15 epact/epactlaw09.is
@[go_sem] theorem zr42 : zeroL cfg.P 42 = some (IL .i64 (List.replicate 5 0)) := by kernel_rfl
@[go_sem] theorem sz42 : tySize cfg.P 42 = some 5 := by kernel_rfl
@[go_sem] theorem arr42 : arrN cfg.P 42 = some (5, 1) := by kernel_rfl
theorem agg3 : tyAgg cfg.P 3 = some false := by kernel_rfl
@[go_sem] theorem ld3 (cells : List AC) (off : Nat) : loadA cfg.P 3 cells off = loadC cells off := ld_c agg3 cells off
-- 20 epact/epactref09.Words
@[go_sem] theorem st42 : structOk cfg.P 42 = true := by kernel_rfl
@[go_sem] theorem plc42_0 : buildPlace cfg.P 42 0 = some (0, 1) := by kernel_rfl
@[go_sem] theorem plc42_1 : buildPlace cfg.P 42 1 = some (1, 1) := by kernel_rfl
@[go_sem] theorem plc42_2 : buildPlace cfg.P 42 2 = some (2, 1) := by kernel_rfl
@[go_sem] theorem plc42_3 : buildPlace cfg.P 42 3 = some (3, 1) := by kernel_rfl
@[go_sem] theorem plc42_4 : buildPlace cfg.P 42 4 = some (4, 1) := by kernel_rfl
@[go_sem] theorem elt49 : eltOf cfg.P 49 = some ⟨3, 1, 8, #[.int .i64 0]⟩ := by kernel_rfl
@[go_sem] theorem slc49 : slcN cfg.P 49 = some 1 := by kernel_rfl
@[go_sem] theorem sz3 : tySize cfg.P 3 = some 1 := by kernel_rfl
theorem agg42 : tyAgg cfg.P 42 = some true := by kernel_rfl
@[go_sem] theorem ld42 (cells : List AC) (off : Nat) : loadA cfg.P 42 cells off = loadG 5 cells off := ld_agg agg42 sz42 cells off
-- 24 epact/epactref09.turn
-- 7 epact/epactlaw09.ShaPads
-- 8 epact/epactlaw09.ShaOwn
@[go_sem] theorem rz32_10 : rowZ cfg.P 32 10 = some (1, [.lit (.int .u8 0), .lit (.int .u8 0), .lit (.int .u8 0), .lit (.int .u8 0), .lit (.int .u8 0), .lit (.int .u8 0), .lit (.int .u8 0), .lit (.int .u8 0), .lit (.int .u8 0), .lit (.int .u8 0)]) := by kernel_rfl
@[go_sem] theorem ark35 : arrK cfg.P 35 = some (20, .u8) := by kernel_rfl

@[go_sem] abbrev I (n : Int) : AV := .c (.lit (.int .i64 n))
@[go_sem] abbrev B (b : Bool) : AV := .c (.lit (.bool b))
@[go_sem] abbrev W (n : Nat) : AV := .c (.lit (.int .u32 (n : Int)))
@[go_sem] abbrev BL (l : List Nat) : AV := .c (.list l.length (IL .u8 (castL l)))
@[go_sem] abbrev WA (l : List Nat) : AV := .agg (IL .u32 (castL l))
end Go.Proofs.Ytnhdfmnmciminaa.Sh
