/-
  The contracts of Go's library that the kit's shelf has.
-/
import Derived.Test.YtldofkogmkfpjaaDoorDeSyTy
import Derived.Test.YtldofkogmkfpjaaDoorPLimb
import Derived.Shelf.Spec.BitsCarry
import Derived.Shelf.Small.Bits
import Derived.Shelf.Strings.Prefix
import Derived.Shelf.Small.Wraps
import Derived.Shelf.Strconv.Itoa3
import Derived.Shelf.Strings.Repeat
namespace Go.Proofs.YtldofkogmkfpjaaDoor
open Go Go.Ev Go.Sy
set_option linter.unusedSimpArgs false
set_option linter.unusedVariables false
set_option maxRecDepth 10000
set_option maxHeartbeats 4000000
open Go.Shelf Go.RowKit Go.Sort
noncomputable def c_add64 : SpecF := fun args _ K => match args with
  | [.one (.c (.int .u64 x)), .one (.c (.int .u64 y)), .one (.c (.int .u64 c))] => bif decide (isW x ∧ isW y ∧ 0 ≤ c ∧ c ≤ 1) then K (.tup [tU ((x + y + c) % 18446744073709551616), tU ((x + y + c) / 18446744073709551616)]) [] else none
  | _ => none
theorem c_add64_ok : SpecOk cfg 140 c_add64 := by
  intro args bx K out h
  unfold c_add64 at h
  split at h
  · rename_i x y c
    obtain ⟨hp, h⟩ := bif_some h
    obtain ⟨hx, hy, h0, h1⟩ := of_decide_eq_true hp
    refine ⟨_, _, h, .inr ⟨rfl, rfl, _, fun w => ?_, fun μ M => repT _ (by intro x hx; simp at hx; rcases hx with rfl | rfl <;> rfl)⟩, by simp [isTupS]⟩
    refine (Go.run_callFunc_extern (P := Tryd.prog) Tryd.func140 (by kernel_rfl) (by kernel_rfl) (by kernel_rfl) (e := add64Entry) (by kernel_rfl) _ w).trans ?_
    exact congrArg (fun r => Result.andThen r fun v w' => Result.ok (Next.value v) w') (run_add64 x y c hx.1 hy.1 h0 h1 w)
  · cases h
noncomputable def c_sub64 : SpecF := fun args _ K => match args with
  | [.one (.c (.int .u64 x)), .one (.c (.int .u64 y)), .one (.c (.int .u64 c))] => bif decide (isW x ∧ isW y ∧ 0 ≤ c ∧ c ≤ 1) then K (.tup [tU ((x - y - c) % 18446744073709551616), tU ((if x < y + c then 1 else 0))]) [] else none
  | _ => none
theorem c_sub64_ok : SpecOk cfg 164 c_sub64 := by
  intro args bx K out h
  unfold c_sub64 at h
  split at h
  · rename_i x y c
    obtain ⟨hp, h⟩ := bif_some h
    obtain ⟨hx, hy, h0, h1⟩ := of_decide_eq_true hp
    refine ⟨_, _, h, .inr ⟨rfl, rfl, _, fun w => ?_, fun μ M => repT _ (by intro x hx; simp at hx; rcases hx with rfl | rfl <;> rfl)⟩, by simp [isTupS]⟩
    refine (Go.run_callFunc_extern (P := Tryd.prog) Tryd.func164 (by kernel_rfl) (by kernel_rfl) (by kernel_rfl) (e := sub64Entry) (by kernel_rfl) _ w).trans ?_
    obtain ⟨a, rfl, ha⟩ := nat_of_W hx
    obtain ⟨b, rfl, hb⟩ := nat_of_W hy
    obtain ⟨d, rfl⟩ := Int.eq_ofNat_of_zero_le h0
    have e1 : (((a + 18446744073709551616 - b - d) % 18446744073709551616 : Nat) : Int) = ((a : Int) - b - d) % 18446744073709551616 := by omega
    have e2 : ((if a < b + d then 1 else 0 : Nat) : Int) = (if (a : Int) < b + d then 1 else 0) := by split <;> split <;> omega
    have e3 := run_sub64 (P := Tryd.prog) a b d (by omega) w
    rw [e1, e2] at e3
    exact congrArg (fun r => Result.andThen r fun v w' => Result.ok (Next.value v) w') e3
  · cases h
def Tryd.l_Lays_n129_ren : Go.Shelf.Ren := ⟨fun | 129 => 201 | n => n, fun | 53 => 39 | 3 => 3 | 4 => 4 | 46 => 87 | 5 => 5 | 9 => 9 | n => n, fun | n => n⟩
theorem Tryd.l_Lays_n129 : Go.Proofs.Lays.n129 Tryd.prog Tryd.l_Lays_n129_ren := {
  mixed := by kernel_rfl
  f129 := Tryd.func201.trans (congrArg some (by kernel_rfl))
  t3 := Tryd.underlying3
  a3 := Tryd.isAgg3
  z3 := Tryd.sizeOf3
  v3 := Tryd.zeroValue3
  t4 := Tryd.underlying4
  a4 := Tryd.isAgg4
  z4 := Tryd.sizeOf4
  v4 := Tryd.zeroValue4
  t5 := Tryd.underlying5
  a5 := Tryd.isAgg5
  z5 := Tryd.sizeOf5
  v5 := Tryd.zeroValue5
  t9 := Tryd.underlying9
  a9 := Tryd.isAgg9
  z9 := Tryd.sizeOf9
  v9 := Tryd.zeroValue9
  t46 := Tryd.underlying87
  a46 := Tryd.isAgg87
  z46 := Tryd.sizeOf87
  v46 := Tryd.zeroValue87
  t53 := Tryd.underlying39
  a53 := Tryd.isAgg39
  z53 := Tryd.sizeOf39
  v53 := Tryd.zeroValue39 }
theorem len64_ok (x : Int) (hp : isW x) : FnOk cfg 201 ([c1 (.int .u64 x)].map SV.den) (vI (Lib.bitLen x.toNat) : SV).den :=
  fnOk_shelf (rv := Value.int .i64 (Lib.bitLen x.toNat)) ⟨_, Tryd.func201, rfl, rfl⟩ rfl (fun M wf => (Any.bits_Len64 Tryd.l_Lays_n129 x M.w hp.1 (by have := hp.2; omega)).mono fun e w' h => ⟨h.1, h.2 ▸ Below.refl _ _⟩) (fun _ _ => RepI.lit _)
noncomputable def c_len64 : SpecF := fun args _ K => match args with
  | [.one (.c (.int .u64 x))] => bif decide (isW x) then K (vI (Lib.bitLen x.toNat)) [] else none
  | _ => none
theorem c_len64_ok : SpecOk cfg 201 c_len64 := by
  intro args bx K out h
  unfold c_len64 at h
  split at h
  · obtain ⟨hp, h⟩ := bif_some h
    exact ⟨_, _, h, .inl (len64_ok _ (of_decide_eq_true hp) _), by simp [isTupS]⟩
  · cases h
def Tryd.l_Lays_n134_ren : Go.Shelf.Ren := ⟨fun | 134 => 209 | 129 => 201 | n => n, fun | 53 => 39 | 3 => 3 | 4 => 4 | 46 => 87 | 5 => 5 | 9 => 9 | n => n, fun | n => n⟩
theorem Tryd.l_Lays_n134 : Go.Proofs.Lays.n134 Tryd.prog Tryd.l_Lays_n134_ren := {
  mixed := by kernel_rfl
  f129 := Tryd.func201.trans (congrArg some (by kernel_rfl))
  f134 := Tryd.func209.trans (congrArg some (by kernel_rfl))
  t3 := Tryd.underlying3
  a3 := Tryd.isAgg3
  z3 := Tryd.sizeOf3
  v3 := Tryd.zeroValue3
  t4 := Tryd.underlying4
  a4 := Tryd.isAgg4
  z4 := Tryd.sizeOf4
  v4 := Tryd.zeroValue4
  t5 := Tryd.underlying5
  a5 := Tryd.isAgg5
  z5 := Tryd.sizeOf5
  v5 := Tryd.zeroValue5
  t9 := Tryd.underlying9
  a9 := Tryd.isAgg9
  z9 := Tryd.sizeOf9
  v9 := Tryd.zeroValue9
  t46 := Tryd.underlying87
  a46 := Tryd.isAgg87
  z46 := Tryd.sizeOf87
  v46 := Tryd.zeroValue87
  t53 := Tryd.underlying39
  a53 := Tryd.isAgg39
  z53 := Tryd.sizeOf39
  v53 := Tryd.zeroValue39 }
theorem lz64_ok (x : Int) (hp : isW x) : FnOk cfg 209 ([c1 (.int .u64 x)].map SV.den) (vI (64 - (Lib.bitLen x.toNat : Int)) : SV).den :=
  fnOk_shelf (rv := Value.int .i64 (64 - (Lib.bitLen x.toNat : Int))) ⟨_, Tryd.func209, rfl, rfl⟩ rfl (fun M wf => (Any.bits_LeadingZeros64 Tryd.l_Lays_n134 x M.w hp.1 (by have := hp.2; omega)).mono fun e w' h => ⟨h.1, h.2 ▸ Below.refl _ _⟩) (fun _ _ => RepI.lit _)
noncomputable def c_lz64 : SpecF := fun args _ K => match args with
  | [.one (.c (.int .u64 x))] => bif decide (isW x) then K (vI (64 - (Lib.bitLen x.toNat : Int))) [] else none
  | _ => none
theorem c_lz64_ok : SpecOk cfg 209 c_lz64 := by
  intro args bx K out h
  unfold c_lz64 at h
  split at h
  · obtain ⟨hp, h⟩ := bif_some h
    exact ⟨_, _, h, .inl (lz64_ok _ (of_decide_eq_true hp) _), by simp [isTupS]⟩
  · cases h
def Tryd.l_Lays_n101_ren : Go.Shelf.Ren := ⟨fun | 101 => 101 | 208 => 136 | 206 => 114 | n => n, fun | 9 => 9 | 4 => 4 | 3 => 3 | n => n, fun | n => n⟩
theorem Tryd.l_Lays_n101 : Go.Proofs.Lays.n101 Tryd.prog Tryd.l_Lays_n101_ren := {
  mixed := by kernel_rfl
  f101 := Tryd.func101.trans (congrArg some (by kernel_rfl))
  f206 := Tryd.func114.trans (congrArg some (by kernel_rfl))
  f208 := Tryd.func136.trans (congrArg some (by kernel_rfl))
  t3 := Tryd.underlying3
  a3 := Tryd.isAgg3
  z3 := Tryd.sizeOf3
  v3 := Tryd.zeroValue3
  t4 := Tryd.underlying4
  a4 := Tryd.isAgg4
  z4 := Tryd.sizeOf4
  v4 := Tryd.zeroValue4
  t9 := Tryd.underlying9
  a9 := Tryd.isAgg9
  z9 := Tryd.sizeOf9
  v9 := Tryd.zeroValue9 }
theorem trimp_ok (s : ByteArray) (p : ByteArray) : FnOk cfg 101 ([vS s, vS p].map SV.den) (vS (tx (Lib.trimPrefix s.data.toList p.data.toList)) : SV).den :=
  fnOk_shelf (rv := Value.string (tx (Lib.trimPrefix s.data.toList p.data.toList))) ⟨_, Tryd.func101, rfl, rfl⟩ rfl (fun M wf => (Any.strings_TrimPrefix Tryd.l_Lays_n101 s p M.w).mono fun e w' h => ⟨h.1, h.2 ▸ Below.refl _ _⟩) (fun _ _ => RepI.lit _)
noncomputable def c_trimp : SpecF := fun args _ K => match args with
  | [.one (.c (.str s)), .one (.c (.str p))] => K (vS (tx (Lib.trimPrefix s.data.toList p.data.toList))) []
  | _ => none
theorem c_trimp_ok : SpecOk cfg 101 c_trimp := by
  intro args bx K out h
  unfold c_trimp at h
  split at h
  · exact ⟨_, _, h, .inl (trimp_ok _ _ _), by simp [isTupS]⟩
  · cases h
def Tryd.l_Lays_n103_ren : Go.Shelf.Ren := ⟨fun | 103 => 59 | 210 => 102 | 206 => 114 | n => n, fun | 9 => 9 | 4 => 4 | 24 => 88 | 3 => 3 | n => n, fun | n => n⟩
theorem Tryd.l_Lays_n103 : Go.Proofs.Lays.n103 Tryd.prog Tryd.l_Lays_n103_ren := {
  mixed := by kernel_rfl
  f103 := Tryd.func59.trans (congrArg some (by kernel_rfl))
  f206 := Tryd.func114.trans (congrArg some (by kernel_rfl))
  f210 := Tryd.func102.trans (congrArg some (by kernel_rfl))
  t3 := Tryd.underlying3
  a3 := Tryd.isAgg3
  z3 := Tryd.sizeOf3
  v3 := Tryd.zeroValue3
  t4 := Tryd.underlying4
  a4 := Tryd.isAgg4
  z4 := Tryd.sizeOf4
  v4 := Tryd.zeroValue4
  t9 := Tryd.underlying9
  a9 := Tryd.isAgg9
  z9 := Tryd.sizeOf9
  v9 := Tryd.zeroValue9
  t24 := Tryd.underlying88
  a24 := Tryd.isAgg88
  z24 := Tryd.sizeOf88
  v24 := Tryd.zeroValue88 }
theorem cutp_ok (s : ByteArray) (p : ByteArray) : FnOk cfg 59 ([vS s, vS p].map SV.den) (.tup [tS (tx (Lib.trimPrefix s.data.toList p.data.toList)), tB (Lib.hasPrefix s.data.toList p.data.toList)] : SV).den :=
  fnOk_shelf (rv := Value.tuple #[.string (tx (Lib.trimPrefix s.data.toList p.data.toList)), .bool (Lib.hasPrefix s.data.toList p.data.toList)]) ⟨_, Tryd.func59, rfl, rfl⟩ rfl (fun M wf => (Any.strings_CutPrefix Tryd.l_Lays_n103 s p M.w).mono fun e w' h => ⟨h.1, h.2 ▸ Below.refl _ _⟩) (fun _ _ => repT _ (by intro x hx; simp at hx; rcases hx with rfl | rfl <;> rfl))
noncomputable def c_cutp : SpecF := fun args _ K => match args with
  | [.one (.c (.str s)), .one (.c (.str p))] => K (.tup [tS (tx (Lib.trimPrefix s.data.toList p.data.toList)), tB (Lib.hasPrefix s.data.toList p.data.toList)]) []
  | _ => none
theorem c_cutp_ok : SpecOk cfg 59 c_cutp := by
  intro args bx K out h
  unfold c_cutp at h
  split at h
  · exact ⟨_, _, h, .inl (cutp_ok _ _ _), by simp [isTupS]⟩
  · cases h
theorem belowG (w : World) (k : Nat) (os : Array Obj) : Below w.heap.size w (grow (w.drewN k) os) :=
  ⟨rfl, rfl, rfl, by show w.heap.size ≤ (w.heap ++ os).size; rw [Array.size_append]; omega, fun j hj => Array.getElem?_append_left hj⟩
def Tryd.l_LaysM_n171_ren : Go.Shelf.Ren := ⟨fun | 171 => 99 | 243 => 133 | 246 => 161 | 283 => 184 | 284 => 185 | 285 => 186 | 286 => 187 | 129 => 201 | 317 => 200 | 318 => 202 | 319 => 203 | 320 => 204 | 337 => 210 | 338 => 211 | n => n, fun | 3 => 3 | 9 => 9 | 2 => 2 | 4 => 4 | 171 => 202 | 0 => 0 | 53 => 39 | 37 => 57 | 5 => 5 | 173 => 205 | 212 => 217 | 51 => 59 | 20 => 20 | 213 => 218 | 46 => 87 | 232 => 233 | 233 => 234 | n => n, fun | 17 => 2 | 18 => 9 | 19 => 10 | n => n⟩
theorem Tryd.l_LaysM_n171 : Go.Proofs.LaysM.n171 Tryd.prog Tryd.l_LaysM_n171_ren := {
  mixed := by kernel_rfl
  f129 := Tryd.func201.trans (congrArg some (by kernel_rfl))
  f171 := Tryd.func99.trans (congrArg some (by kernel_rfl))
  f243 := Tryd.func133.trans (congrArg some (by kernel_rfl))
  f246 := Tryd.func161.trans (congrArg some (by kernel_rfl))
  f283 := Tryd.func184.trans (congrArg some (by kernel_rfl))
  f284 := Tryd.func185.trans (congrArg some (by kernel_rfl))
  f285 := Tryd.func186.trans (congrArg some (by kernel_rfl))
  f286 := Tryd.func187.trans (congrArg some (by kernel_rfl))
  f317 := Tryd.func200.trans (congrArg some (by kernel_rfl))
  f318 := Tryd.func202.trans (congrArg some (by kernel_rfl))
  f319 := Tryd.func203.trans (congrArg some (by kernel_rfl))
  f320 := Tryd.func204.trans (congrArg some (by kernel_rfl))
  f337 := Tryd.func210.trans (congrArg some (by kernel_rfl))
  f338 := Tryd.func211.trans (congrArg some (by kernel_rfl))
  t0 := Tryd.underlying0
  a0 := Tryd.isAgg0
  z0 := Tryd.sizeOf0
  v0 := Tryd.zeroValue0
  t2 := Tryd.underlying2
  a2 := Tryd.isAgg2
  z2 := Tryd.sizeOf2
  v2 := Tryd.zeroValue2
  t3 := Tryd.underlying3
  a3 := Tryd.isAgg3
  z3 := Tryd.sizeOf3
  v3 := Tryd.zeroValue3
  t4 := Tryd.underlying4
  a4 := Tryd.isAgg4
  z4 := Tryd.sizeOf4
  v4 := Tryd.zeroValue4
  t5 := Tryd.underlying5
  a5 := Tryd.isAgg5
  z5 := Tryd.sizeOf5
  v5 := Tryd.zeroValue5
  t9 := Tryd.underlying9
  a9 := Tryd.isAgg9
  z9 := Tryd.sizeOf9
  v9 := Tryd.zeroValue9
  t20 := Tryd.underlying20
  a20 := Tryd.isAgg20
  z20 := Tryd.sizeOf20
  v20 := Tryd.zeroValue20
  t37 := Tryd.underlying57
  a37 := Tryd.isAgg57
  z37 := Tryd.sizeOf57
  v37 := Tryd.zeroValue57
  t46 := Tryd.underlying87
  a46 := Tryd.isAgg87
  z46 := Tryd.sizeOf87
  v46 := Tryd.zeroValue87
  t51 := Tryd.underlying59
  a51 := Tryd.isAgg59
  z51 := Tryd.sizeOf59
  v51 := Tryd.zeroValue59
  t53 := Tryd.underlying39
  a53 := Tryd.isAgg39
  z53 := Tryd.sizeOf39
  v53 := Tryd.zeroValue39
  t171 := Tryd.underlying202
  a171 := Tryd.isAgg202
  z171 := Tryd.sizeOf202
  v171 := Tryd.zeroValue202
  t173 := Tryd.underlying205
  a173 := Tryd.isAgg205
  z173 := Tryd.sizeOf205
  v173 := Tryd.zeroValue205
  t212 := Tryd.underlying217
  a212 := Tryd.isAgg217
  z212 := Tryd.sizeOf217
  v212 := Tryd.zeroValue217
  t213 := Tryd.underlying218
  a213 := Tryd.isAgg218
  z213 := Tryd.sizeOf218
  t232 := Tryd.underlying233
  a232 := Tryd.isAgg233
  z232 := Tryd.sizeOf233
  v232 := Tryd.zeroValue233
  t233 := Tryd.underlying234
  a233 := Tryd.isAgg234
  z233 := Tryd.sizeOf234
  v233 := Tryd.zeroValue234
  g17 := by kernel_rfl
  g18 := by kernel_rfl
  g19 := by kernel_rfl
  i0 := by kernel_rfl
  i2 := by kernel_rfl
  i3 := by kernel_rfl
  i4 := by kernel_rfl
  i5 := by kernel_rfl
  i9 := by kernel_rfl
  i20 := by kernel_rfl
  i37 := by kernel_rfl
  i46 := by kernel_rfl
  i51 := by kernel_rfl
  i53 := by kernel_rfl
  i171 := by kernel_rfl
  i173 := by kernel_rfl
  i212 := by kernel_rfl
  i232 := by kernel_rfl
  i233 := by kernel_rfl
  m17 := by kernel_rfl
  m18 := by kernel_rfl
  m19 := by kernel_rfl }
theorem itoa_ok (n : Int) (hp : isH n) : FnOk cfg 99 ([vI n].map SV.den) (vS (tx (Lib.itoa n)) : SV).den :=
  fnOk_shelf (rv := Value.string (tx (Lib.itoa n))) ⟨_, Tryd.func99, rfl, rfl⟩ rfl (fun M wf => (Any.strconv_Itoa Tryd.l_LaysM_n171 n hp.1 (by have := hp.2; omega) M.w (fix_var wf (g := 2) rfl (by kernel_rfl) (by decide))).mono fun e w' ⟨h, k, os, hw⟩ => ⟨h, hw ▸ belowG _ _ _⟩) (fun _ _ => RepI.lit _)
noncomputable def c_itoa : SpecF := fun args _ K => match args with
  | [.one (.c (.int .i64 n))] => bif decide (isH n) then K (vS (tx (Lib.itoa n))) [] else none
  | _ => none
theorem c_itoa_ok : SpecOk cfg 99 c_itoa := by
  intro args bx K out h
  unfold c_itoa at h
  split at h
  · obtain ⟨hp, h⟩ := bif_some h
    exact ⟨_, _, h, .inl (itoa_ok _ (of_decide_eq_true hp) _), by simp [isTupS]⟩
  · cases h
def Tryd.l_Lays_n105_ren : Go.Shelf.Ren := ⟨fun | 105 => 100 | 212 => 134 | 99 => 73 | 165 => 129 | 166 => 130 | 170 => 135 | 169 => 131 | 263 => 162 | 264 => 163 | 206 => 114 | 240 => 155 | 241 => 156 | 276 => 179 | 277 => 180 | n => n, fun | 9 => 9 | 3 => 3 | 4 => 4 | 20 => 20 | 0 => 0 | 46 => 87 | 109 => 163 | 5 => 5 | 72 => 155 | 76 => 159 | 51 => 59 | 146 => 188 | 53 => 39 | 148 => 170 | 70 => 153 | 37 => 57 | 75 => 158 | 127 => 184 | 164 => 196 | 80 => 161 | n => n, fun | n => n⟩
theorem Tryd.l_Lays_n105 : Go.Proofs.Lays.n105 Tryd.prog Tryd.l_Lays_n105_ren := {
  mixed := by kernel_rfl
  f99 := Tryd.func73.trans (congrArg some (by kernel_rfl))
  f105 := Tryd.func100.trans (congrArg some (by kernel_rfl))
  f165 := Tryd.func129.trans (congrArg some (by kernel_rfl))
  f166 := Tryd.func130.trans (congrArg some (by kernel_rfl))
  f169 := Tryd.func131.trans (congrArg some (by kernel_rfl))
  f170 := Tryd.func135.trans (congrArg some (by kernel_rfl))
  f206 := Tryd.func114.trans (congrArg some (by kernel_rfl))
  f212 := Tryd.func134.trans (congrArg some (by kernel_rfl))
  f240 := Tryd.func155.trans (congrArg some (by kernel_rfl))
  f241 := Tryd.func156.trans (congrArg some (by kernel_rfl))
  f263 := Tryd.func162.trans (congrArg some (by kernel_rfl))
  f264 := Tryd.func163.trans (congrArg some (by kernel_rfl))
  f276 := Tryd.func179.trans (congrArg some (by kernel_rfl))
  f277 := Tryd.func180.trans (congrArg some (by kernel_rfl))
  t0 := Tryd.underlying0
  a0 := Tryd.isAgg0
  z0 := Tryd.sizeOf0
  v0 := Tryd.zeroValue0
  t3 := Tryd.underlying3
  a3 := Tryd.isAgg3
  z3 := Tryd.sizeOf3
  v3 := Tryd.zeroValue3
  t4 := Tryd.underlying4
  a4 := Tryd.isAgg4
  z4 := Tryd.sizeOf4
  v4 := Tryd.zeroValue4
  t5 := Tryd.underlying5
  a5 := Tryd.isAgg5
  z5 := Tryd.sizeOf5
  v5 := Tryd.zeroValue5
  t9 := Tryd.underlying9
  a9 := Tryd.isAgg9
  z9 := Tryd.sizeOf9
  v9 := Tryd.zeroValue9
  t20 := Tryd.underlying20
  a20 := Tryd.isAgg20
  z20 := Tryd.sizeOf20
  v20 := Tryd.zeroValue20
  t37 := Tryd.underlying57
  a37 := Tryd.isAgg57
  z37 := Tryd.sizeOf57
  v37 := Tryd.zeroValue57
  t46 := Tryd.underlying87
  a46 := Tryd.isAgg87
  z46 := Tryd.sizeOf87
  v46 := Tryd.zeroValue87
  t51 := Tryd.underlying59
  a51 := Tryd.isAgg59
  z51 := Tryd.sizeOf59
  v51 := Tryd.zeroValue59
  t53 := Tryd.underlying39
  a53 := Tryd.isAgg39
  z53 := Tryd.sizeOf39
  v53 := Tryd.zeroValue39
  t70 := Tryd.underlying153
  a70 := Tryd.isAgg153
  z70 := Tryd.sizeOf153
  v70 := Tryd.zeroValue153
  t72 := Tryd.underlying155
  a72 := Tryd.isAgg155
  z72 := Tryd.sizeOf155
  v72 := Tryd.zeroValue155
  t75 := Tryd.underlying158
  a75 := Tryd.isAgg158
  z75 := Tryd.sizeOf158
  v75 := Tryd.zeroValue158
  t76 := Tryd.underlying159
  a76 := Tryd.isAgg159
  z76 := Tryd.sizeOf159
  v76 := Tryd.zeroValue159
  t109 := Tryd.underlying163
  a109 := Tryd.isAgg163
  z109 := Tryd.sizeOf163
  v109 := Tryd.zeroValue163
  t127 := Tryd.underlying184
  a127 := Tryd.isAgg184
  z127 := Tryd.sizeOf184
  v127 := Tryd.zeroValue184
  t146 := Tryd.underlying188
  a146 := Tryd.isAgg188
  z146 := Tryd.sizeOf188
  v146 := Tryd.zeroValue188
  t148 := Tryd.underlying170
  a148 := Tryd.isAgg170
  z148 := Tryd.sizeOf170
  v148 := Tryd.zeroValue170
  t164 := Tryd.underlying196
  a164 := Tryd.isAgg196
  z164 := Tryd.sizeOf196
  v164 := Tryd.zeroValue196 }
theorem X105 : Builder.Extra Tryd.prog Tryd.l_Lays_n105_ren := {
  sizeBuilder := by kernel_rfl
  liesBuilder := by kernel_rfl
  t5 := Tryd.l_Lays_n105.t5
  a5 := Tryd.l_Lays_n105.a5
  z5 := Tryd.l_Lays_n105.z5
  v5 := Tryd.l_Lays_n105.v5
  infoByte := by kernel_rfl
  cellsByte := by kernel_rfl
  sizeByte := by kernel_rfl
  neB5 := by decide }
theorem rept_ok (s : ByteArray) (n : Int) (hp : 0 ≤ n ∧ n ≤ 1000000 ∧ s.size * n.toNat ≤ 140737488355328) : FnOk cfg 100 ([vS s, vI n].map SV.den) (vS (tx (Lib.repeatL s.data.toList n.toNat)) : SV).den :=
  fnOk_shelf (rv := Value.string (tx (Lib.repeatL s.data.toList n.toNat))) ⟨_, Tryd.func100, rfl, rfl⟩ rfl (fun M wf => by obtain ⟨c, rfl⟩ := Int.eq_ofNat_of_zero_le hp.1; exact Any.strings_Repeat Tryd.l_Lays_n105 X105 s c M.w (by have := hp.2.1; omega) (by have := hp.2.2; rw [Int.toNat_natCast] at this; exact this)) (fun _ _ => RepI.lit _)
noncomputable def c_rept : SpecF := fun args _ K => match args with
  | [.one (.c (.str s)), .one (.c (.int .i64 n))] => bif decide (0 ≤ n ∧ n ≤ 1000000 ∧ s.size * n.toNat ≤ 140737488355328) then K (vS (tx (Lib.repeatL s.data.toList n.toNat))) [] else none
  | _ => none
theorem c_rept_ok : SpecOk cfg 100 c_rept := by
  intro args bx K out h
  unfold c_rept at h
  split at h
  · obtain ⟨hp, h⟩ := bif_some h
    exact ⟨_, _, h, .inl (rept_ok _ _ (of_decide_eq_true hp) _), by simp [isTupS]⟩
  · cases h
end Go.Proofs.YtldofkogmkfpjaaDoor
