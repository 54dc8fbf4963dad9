/-
  The contracts of Go's library that the kit's shelf has.
-/
import Derived.Test.YtldofkogmkfpjaaGreatDoorWZzSyTy
import Derived.Test.YtldofkogmkfpjaaGreatDoorWPLimb
import Derived.Shelf.Spec.BitsCarry
import Derived.Shelf.Small.Bits
import Derived.Shelf.Strings.Prefix
import Derived.Shelf.Small.Wraps
import Derived.Shelf.Strconv.Itoa3
import Derived.Shelf.Strings.Repeat
namespace Go.Proofs.YtldofkogmkfpjaaGreatDoor
open Go Go.Ev Go.Sy
set_option linter.unusedSimpArgs false
set_option linter.unusedVariables false
set_option maxRecDepth 10000
set_option maxHeartbeats 4000000
open Go.Shelf Go.RowKit Go.Sort
noncomputable def c_add64 : SpecF := fun args _ K => match args with
  | [.one (.c (.int .u64 x)), .one (.c (.int .u64 y)), .one (.c (.int .u64 c))] => bif decide (isW x ∧ isW y ∧ 0 ≤ c ∧ c ≤ 1) then K (.tup [tU ((x + y + c) % 18446744073709551616), tU ((x + y + c) / 18446744073709551616)]) [] else none
  | _ => none
theorem c_add64_ok : SpecOk cfg 256 c_add64 := by
  intro args bx K out h
  unfold c_add64 at h
  split at h
  · rename_i x y c
    obtain ⟨hp, h⟩ := bif_some h
    obtain ⟨hx, hy, h0, h1⟩ := of_decide_eq_true hp
    refine ⟨_, _, h, .inr ⟨rfl, rfl, _, fun w => ?_, fun μ M => repT _ (by intro x hx; simp at hx; rcases hx with rfl | rfl <;> rfl)⟩, by simp [isTupS]⟩
    refine (Go.run_callFunc_extern (P := Tryz.prog) Tryz.func256 (by kernel_rfl) (by kernel_rfl) (by kernel_rfl) (e := add64Entry) (by kernel_rfl) _ w).trans ?_
    exact congrArg (fun r => Result.andThen r fun v w' => Result.ok (Next.value v) w') (run_add64 x y c hx.1 hy.1 h0 h1 w)
  · cases h
noncomputable def c_sub64 : SpecF := fun args _ K => match args with
  | [.one (.c (.int .u64 x)), .one (.c (.int .u64 y)), .one (.c (.int .u64 c))] => bif decide (isW x ∧ isW y ∧ 0 ≤ c ∧ c ≤ 1) then K (.tup [tU ((x - y - c) % 18446744073709551616), tU ((if x < y + c then 1 else 0))]) [] else none
  | _ => none
theorem c_sub64_ok : SpecOk cfg 265 c_sub64 := by
  intro args bx K out h
  unfold c_sub64 at h
  split at h
  · rename_i x y c
    obtain ⟨hp, h⟩ := bif_some h
    obtain ⟨hx, hy, h0, h1⟩ := of_decide_eq_true hp
    refine ⟨_, _, h, .inr ⟨rfl, rfl, _, fun w => ?_, fun μ M => repT _ (by intro x hx; simp at hx; rcases hx with rfl | rfl <;> rfl)⟩, by simp [isTupS]⟩
    refine (Go.run_callFunc_extern (P := Tryz.prog) Tryz.func265 (by kernel_rfl) (by kernel_rfl) (by kernel_rfl) (e := sub64Entry) (by kernel_rfl) _ w).trans ?_
    obtain ⟨a, rfl, ha⟩ := nat_of_W hx
    obtain ⟨b, rfl, hb⟩ := nat_of_W hy
    obtain ⟨d, rfl⟩ := Int.eq_ofNat_of_zero_le h0
    have e1 : (((a + 18446744073709551616 - b - d) % 18446744073709551616 : Nat) : Int) = ((a : Int) - b - d) % 18446744073709551616 := by omega
    have e2 : ((if a < b + d then 1 else 0 : Nat) : Int) = (if (a : Int) < b + d then 1 else 0) := by split <;> split <;> omega
    have e3 := run_sub64 (P := Tryz.prog) a b d (by omega) w
    rw [e1, e2] at e3
    exact congrArg (fun r => Result.andThen r fun v w' => Result.ok (Next.value v) w') e3
  · cases h
def Tryz.l_Lays_n134_ren : Go.Shelf.Ren := ⟨fun | 134 => 267 | 129 => 225 | n => n, fun | 53 => 59 | 3 => 3 | 4 => 4 | 46 => 117 | 5 => 5 | 9 => 9 | n => n, fun | n => n⟩
theorem Tryz.l_Lays_n134 : Go.Proofs.Lays.n134 Tryz.prog Tryz.l_Lays_n134_ren := {
  mixed := by kernel_rfl
  f129 := Tryz.func225.trans (congrArg some (by kernel_rfl))
  f134 := Tryz.func267.trans (congrArg some (by kernel_rfl))
  t3 := Tryz.underlying3
  a3 := Tryz.isAgg3
  z3 := Tryz.sizeOf3
  v3 := Tryz.zeroValue3
  t4 := Tryz.underlying4
  a4 := Tryz.isAgg4
  z4 := Tryz.sizeOf4
  v4 := Tryz.zeroValue4
  t5 := Tryz.underlying5
  a5 := Tryz.isAgg5
  z5 := Tryz.sizeOf5
  v5 := Tryz.zeroValue5
  t9 := Tryz.underlying9
  a9 := Tryz.isAgg9
  z9 := Tryz.sizeOf9
  v9 := Tryz.zeroValue9
  t46 := Tryz.underlying117
  a46 := Tryz.isAgg117
  z46 := Tryz.sizeOf117
  v46 := Tryz.zeroValue117
  t53 := Tryz.underlying59
  a53 := Tryz.isAgg59
  z53 := Tryz.sizeOf59
  v53 := Tryz.zeroValue59 }
theorem lz64_ok (x : Int) (hp : isW x) : FnOk cfg 267 ([c1 (.int .u64 x)].map SV.den) (vI (64 - (Lib.bitLen x.toNat : Int)) : SV).den :=
  fnOk_shelf (rv := Value.int .i64 (64 - (Lib.bitLen x.toNat : Int))) ⟨_, Tryz.func267, rfl, rfl⟩ rfl (fun M wf => (Any.bits_LeadingZeros64 Tryz.l_Lays_n134 x M.w hp.1 (by have := hp.2; omega)).mono fun e w' h => ⟨h.1, h.2 ▸ Below.refl _ _⟩) (fun _ _ => RepI.lit _)
noncomputable def c_lz64 : SpecF := fun args _ K => match args with
  | [.one (.c (.int .u64 x))] => bif decide (isW x) then K (vI (64 - (Lib.bitLen x.toNat : Int))) [] else none
  | _ => none
theorem c_lz64_ok : SpecOk cfg 267 c_lz64 := by
  intro args bx K out h
  unfold c_lz64 at h
  split at h
  · obtain ⟨hp, h⟩ := bif_some h
    exact ⟨_, _, h, .inl (lz64_ok _ (of_decide_eq_true hp) _), by simp [isTupS]⟩
  · cases h
def Tryz.l_Lays_n101_ren : Go.Shelf.Ren := ⟨fun | 101 => 242 | 208 => 258 | 206 => 180 | n => n, fun | 9 => 9 | 4 => 4 | 3 => 3 | n => n, fun | n => n⟩
theorem Tryz.l_Lays_n101 : Go.Proofs.Lays.n101 Tryz.prog Tryz.l_Lays_n101_ren := {
  mixed := by kernel_rfl
  f101 := Tryz.func242.trans (congrArg some (by kernel_rfl))
  f206 := Tryz.func180.trans (congrArg some (by kernel_rfl))
  f208 := Tryz.func258.trans (congrArg some (by kernel_rfl))
  t3 := Tryz.underlying3
  a3 := Tryz.isAgg3
  z3 := Tryz.sizeOf3
  v3 := Tryz.zeroValue3
  t4 := Tryz.underlying4
  a4 := Tryz.isAgg4
  z4 := Tryz.sizeOf4
  v4 := Tryz.zeroValue4
  t9 := Tryz.underlying9
  a9 := Tryz.isAgg9
  z9 := Tryz.sizeOf9
  v9 := Tryz.zeroValue9 }
theorem trimp_ok (s : ByteArray) (p : ByteArray) : FnOk cfg 242 ([vS s, vS p].map SV.den) (vS (tx (Lib.trimPrefix s.data.toList p.data.toList)) : SV).den :=
  fnOk_shelf (rv := Value.string (tx (Lib.trimPrefix s.data.toList p.data.toList))) ⟨_, Tryz.func242, rfl, rfl⟩ rfl (fun M wf => (Any.strings_TrimPrefix Tryz.l_Lays_n101 s p M.w).mono fun e w' h => ⟨h.1, h.2 ▸ Below.refl _ _⟩) (fun _ _ => RepI.lit _)
noncomputable def c_trimp : SpecF := fun args _ K => match args with
  | [.one (.c (.str s)), .one (.c (.str p))] => K (vS (tx (Lib.trimPrefix s.data.toList p.data.toList))) []
  | _ => none
theorem c_trimp_ok : SpecOk cfg 242 c_trimp := by
  intro args bx K out h
  unfold c_trimp at h
  split at h
  · exact ⟨_, _, h, .inl (trimp_ok _ _ _), by simp [isTupS]⟩
  · cases h
def Tryz.l_Lays_n103_ren : Go.Shelf.Ren := ⟨fun | 103 => 123 | 210 => 169 | 206 => 180 | n => n, fun | 9 => 9 | 4 => 4 | 24 => 142 | 3 => 3 | n => n, fun | n => n⟩
theorem Tryz.l_Lays_n103 : Go.Proofs.Lays.n103 Tryz.prog Tryz.l_Lays_n103_ren := {
  mixed := by kernel_rfl
  f103 := Tryz.func123.trans (congrArg some (by kernel_rfl))
  f206 := Tryz.func180.trans (congrArg some (by kernel_rfl))
  f210 := Tryz.func169.trans (congrArg some (by kernel_rfl))
  t3 := Tryz.underlying3
  a3 := Tryz.isAgg3
  z3 := Tryz.sizeOf3
  v3 := Tryz.zeroValue3
  t4 := Tryz.underlying4
  a4 := Tryz.isAgg4
  z4 := Tryz.sizeOf4
  v4 := Tryz.zeroValue4
  t9 := Tryz.underlying9
  a9 := Tryz.isAgg9
  z9 := Tryz.sizeOf9
  v9 := Tryz.zeroValue9
  t24 := Tryz.underlying142
  a24 := Tryz.isAgg142
  z24 := Tryz.sizeOf142
  v24 := Tryz.zeroValue142 }
theorem cutp_ok (s : ByteArray) (p : ByteArray) : FnOk cfg 123 ([vS s, vS p].map SV.den) (.tup [tS (tx (Lib.trimPrefix s.data.toList p.data.toList)), tB (Lib.hasPrefix s.data.toList p.data.toList)] : SV).den :=
  fnOk_shelf (rv := Value.tuple #[.string (tx (Lib.trimPrefix s.data.toList p.data.toList)), .bool (Lib.hasPrefix s.data.toList p.data.toList)]) ⟨_, Tryz.func123, rfl, rfl⟩ rfl (fun M wf => (Any.strings_CutPrefix Tryz.l_Lays_n103 s p M.w).mono fun e w' h => ⟨h.1, h.2 ▸ Below.refl _ _⟩) (fun _ _ => repT _ (by intro x hx; simp at hx; rcases hx with rfl | rfl <;> rfl))
noncomputable def c_cutp : SpecF := fun args _ K => match args with
  | [.one (.c (.str s)), .one (.c (.str p))] => K (.tup [tS (tx (Lib.trimPrefix s.data.toList p.data.toList)), tB (Lib.hasPrefix s.data.toList p.data.toList)]) []
  | _ => none
theorem c_cutp_ok : SpecOk cfg 123 c_cutp := by
  intro args bx K out h
  unfold c_cutp at h
  split at h
  · exact ⟨_, _, h, .inl (cutp_ok _ _ _), by simp [isTupS]⟩
  · cases h
theorem belowG (w : World) (k : Nat) (os : Array Obj) : Below w.heap.size w (grow (w.drewN k) os) :=
  ⟨rfl, rfl, rfl, by show w.heap.size ≤ (w.heap ++ os).size; rw [Array.size_append]; omega, fun j hj => Array.getElem?_append_left hj⟩
def Tryz.l_LaysM_n171_ren : Go.Shelf.Ren := ⟨fun | 171 => 96 | 243 => 138 | 246 => 177 | 283 => 196 | 284 => 197 | 285 => 198 | 286 => 199 | 129 => 225 | 317 => 224 | 318 => 226 | 319 => 227 | 320 => 228 | 337 => 249 | 338 => 250 | n => n, fun | 3 => 3 | 9 => 9 | 2 => 2 | 4 => 4 | 171 => 225 | 0 => 0 | 53 => 59 | 37 => 48 | 5 => 5 | 173 => 228 | 212 => 246 | 51 => 104 | 20 => 20 | 213 => 247 | 46 => 117 | 232 => 285 | 233 => 286 | n => n, fun | 17 => 2 | 18 => 7 | 19 => 8 | n => n⟩
theorem Tryz.l_LaysM_n171 : Go.Proofs.LaysM.n171 Tryz.prog Tryz.l_LaysM_n171_ren := {
  mixed := by kernel_rfl
  f129 := Tryz.func225.trans (congrArg some (by kernel_rfl))
  f171 := Tryz.func96.trans (congrArg some (by kernel_rfl))
  f243 := Tryz.func138.trans (congrArg some (by kernel_rfl))
  f246 := Tryz.func177.trans (congrArg some (by kernel_rfl))
  f283 := Tryz.func196.trans (congrArg some (by kernel_rfl))
  f284 := Tryz.func197.trans (congrArg some (by kernel_rfl))
  f285 := Tryz.func198.trans (congrArg some (by kernel_rfl))
  f286 := Tryz.func199.trans (congrArg some (by kernel_rfl))
  f317 := Tryz.func224.trans (congrArg some (by kernel_rfl))
  f318 := Tryz.func226.trans (congrArg some (by kernel_rfl))
  f319 := Tryz.func227.trans (congrArg some (by kernel_rfl))
  f320 := Tryz.func228.trans (congrArg some (by kernel_rfl))
  f337 := Tryz.func249.trans (congrArg some (by kernel_rfl))
  f338 := Tryz.func250.trans (congrArg some (by kernel_rfl))
  t0 := Tryz.underlying0
  a0 := Tryz.isAgg0
  z0 := Tryz.sizeOf0
  v0 := Tryz.zeroValue0
  t2 := Tryz.underlying2
  a2 := Tryz.isAgg2
  z2 := Tryz.sizeOf2
  v2 := Tryz.zeroValue2
  t3 := Tryz.underlying3
  a3 := Tryz.isAgg3
  z3 := Tryz.sizeOf3
  v3 := Tryz.zeroValue3
  t4 := Tryz.underlying4
  a4 := Tryz.isAgg4
  z4 := Tryz.sizeOf4
  v4 := Tryz.zeroValue4
  t5 := Tryz.underlying5
  a5 := Tryz.isAgg5
  z5 := Tryz.sizeOf5
  v5 := Tryz.zeroValue5
  t9 := Tryz.underlying9
  a9 := Tryz.isAgg9
  z9 := Tryz.sizeOf9
  v9 := Tryz.zeroValue9
  t20 := Tryz.underlying20
  a20 := Tryz.isAgg20
  z20 := Tryz.sizeOf20
  v20 := Tryz.zeroValue20
  t37 := Tryz.underlying48
  a37 := Tryz.isAgg48
  z37 := Tryz.sizeOf48
  v37 := Tryz.zeroValue48
  t46 := Tryz.underlying117
  a46 := Tryz.isAgg117
  z46 := Tryz.sizeOf117
  v46 := Tryz.zeroValue117
  t51 := Tryz.underlying104
  a51 := Tryz.isAgg104
  z51 := Tryz.sizeOf104
  v51 := Tryz.zeroValue104
  t53 := Tryz.underlying59
  a53 := Tryz.isAgg59
  z53 := Tryz.sizeOf59
  v53 := Tryz.zeroValue59
  t171 := Tryz.underlying225
  a171 := Tryz.isAgg225
  z171 := Tryz.sizeOf225
  v171 := Tryz.zeroValue225
  t173 := Tryz.underlying228
  a173 := Tryz.isAgg228
  z173 := Tryz.sizeOf228
  v173 := Tryz.zeroValue228
  t212 := Tryz.underlying246
  a212 := Tryz.isAgg246
  z212 := Tryz.sizeOf246
  v212 := Tryz.zeroValue246
  t213 := Tryz.underlying247
  a213 := Tryz.isAgg247
  z213 := Tryz.sizeOf247
  t232 := Tryz.underlying285
  a232 := Tryz.isAgg285
  z232 := Tryz.sizeOf285
  v232 := Tryz.zeroValue285
  t233 := Tryz.underlying286
  a233 := Tryz.isAgg286
  z233 := Tryz.sizeOf286
  v233 := Tryz.zeroValue286
  g17 := by kernel_rfl
  g18 := by kernel_rfl
  g19 := by kernel_rfl
  i0 := by kernel_rfl
  i2 := by kernel_rfl
  i3 := by kernel_rfl
  i4 := by kernel_rfl
  i5 := by kernel_rfl
  i9 := by kernel_rfl
  i20 := by kernel_rfl
  i37 := by kernel_rfl
  i46 := by kernel_rfl
  i51 := by kernel_rfl
  i53 := by kernel_rfl
  i171 := by kernel_rfl
  i173 := by kernel_rfl
  i212 := by kernel_rfl
  i232 := by kernel_rfl
  i233 := by kernel_rfl
  m17 := by kernel_rfl
  m18 := by kernel_rfl
  m19 := by kernel_rfl }
theorem itoa_ok (n : Int) (hp : isH n) : FnOk cfg 96 ([vI n].map SV.den) (vS (tx (Lib.itoa n)) : SV).den :=
  fnOk_shelf (rv := Value.string (tx (Lib.itoa n))) ⟨_, Tryz.func96, rfl, rfl⟩ rfl (fun M wf => (Any.strconv_Itoa Tryz.l_LaysM_n171 n hp.1 (by have := hp.2; omega) M.w (fix_var wf (g := 2) rfl (by kernel_rfl) (by decide))).mono fun e w' ⟨h, k, os, hw⟩ => ⟨h, hw ▸ belowG _ _ _⟩) (fun _ _ => RepI.lit _)
noncomputable def c_itoa : SpecF := fun args _ K => match args with
  | [.one (.c (.int .i64 n))] => bif decide (isH n) then K (vS (tx (Lib.itoa n))) [] else none
  | _ => none
theorem c_itoa_ok : SpecOk cfg 96 c_itoa := by
  intro args bx K out h
  unfold c_itoa at h
  split at h
  · obtain ⟨hp, h⟩ := bif_some h
    exact ⟨_, _, h, .inl (itoa_ok _ (of_decide_eq_true hp) _), by simp [isTupS]⟩
  · cases h
def Tryz.l_Lays_n105_ren : Go.Shelf.Ren := ⟨fun | 105 => 97 | 212 => 139 | 99 => 140 | 165 => 99 | 166 => 72 | 170 => 141 | 169 => 76 | 263 => 178 | 264 => 179 | 206 => 180 | 240 => 109 | 241 => 146 | 276 => 153 | 277 => 184 | n => n, fun | 9 => 9 | 3 => 3 | 4 => 4 | 20 => 20 | 0 => 0 | 46 => 117 | 109 => 176 | 5 => 5 | 72 => 98 | 76 => 101 | 51 => 104 | 146 => 210 | 53 => 59 | 148 => 212 | 70 => 96 | 37 => 48 | 75 => 100 | 127 => 151 | 164 => 187 | 80 => 108 | n => n, fun | n => n⟩
theorem Tryz.l_Lays_n105 : Go.Proofs.Lays.n105 Tryz.prog Tryz.l_Lays_n105_ren := {
  mixed := by kernel_rfl
  f99 := Tryz.func140.trans (congrArg some (by kernel_rfl))
  f105 := Tryz.func97.trans (congrArg some (by kernel_rfl))
  f165 := Tryz.func99.trans (congrArg some (by kernel_rfl))
  f166 := Tryz.func72.trans (congrArg some (by kernel_rfl))
  f169 := Tryz.func76.trans (congrArg some (by kernel_rfl))
  f170 := Tryz.func141.trans (congrArg some (by kernel_rfl))
  f206 := Tryz.func180.trans (congrArg some (by kernel_rfl))
  f212 := Tryz.func139.trans (congrArg some (by kernel_rfl))
  f240 := Tryz.func109.trans (congrArg some (by kernel_rfl))
  f241 := Tryz.func146.trans (congrArg some (by kernel_rfl))
  f263 := Tryz.func178.trans (congrArg some (by kernel_rfl))
  f264 := Tryz.func179.trans (congrArg some (by kernel_rfl))
  f276 := Tryz.func153.trans (congrArg some (by kernel_rfl))
  f277 := Tryz.func184.trans (congrArg some (by kernel_rfl))
  t0 := Tryz.underlying0
  a0 := Tryz.isAgg0
  z0 := Tryz.sizeOf0
  v0 := Tryz.zeroValue0
  t3 := Tryz.underlying3
  a3 := Tryz.isAgg3
  z3 := Tryz.sizeOf3
  v3 := Tryz.zeroValue3
  t4 := Tryz.underlying4
  a4 := Tryz.isAgg4
  z4 := Tryz.sizeOf4
  v4 := Tryz.zeroValue4
  t5 := Tryz.underlying5
  a5 := Tryz.isAgg5
  z5 := Tryz.sizeOf5
  v5 := Tryz.zeroValue5
  t9 := Tryz.underlying9
  a9 := Tryz.isAgg9
  z9 := Tryz.sizeOf9
  v9 := Tryz.zeroValue9
  t20 := Tryz.underlying20
  a20 := Tryz.isAgg20
  z20 := Tryz.sizeOf20
  v20 := Tryz.zeroValue20
  t37 := Tryz.underlying48
  a37 := Tryz.isAgg48
  z37 := Tryz.sizeOf48
  v37 := Tryz.zeroValue48
  t46 := Tryz.underlying117
  a46 := Tryz.isAgg117
  z46 := Tryz.sizeOf117
  v46 := Tryz.zeroValue117
  t51 := Tryz.underlying104
  a51 := Tryz.isAgg104
  z51 := Tryz.sizeOf104
  v51 := Tryz.zeroValue104
  t53 := Tryz.underlying59
  a53 := Tryz.isAgg59
  z53 := Tryz.sizeOf59
  v53 := Tryz.zeroValue59
  t70 := Tryz.underlying96
  a70 := Tryz.isAgg96
  z70 := Tryz.sizeOf96
  v70 := Tryz.zeroValue96
  t72 := Tryz.underlying98
  a72 := Tryz.isAgg98
  z72 := Tryz.sizeOf98
  v72 := Tryz.zeroValue98
  t75 := Tryz.underlying100
  a75 := Tryz.isAgg100
  z75 := Tryz.sizeOf100
  v75 := Tryz.zeroValue100
  t76 := Tryz.underlying101
  a76 := Tryz.isAgg101
  z76 := Tryz.sizeOf101
  v76 := Tryz.zeroValue101
  t109 := Tryz.underlying176
  a109 := Tryz.isAgg176
  z109 := Tryz.sizeOf176
  v109 := Tryz.zeroValue176
  t127 := Tryz.underlying151
  a127 := Tryz.isAgg151
  z127 := Tryz.sizeOf151
  v127 := Tryz.zeroValue151
  t146 := Tryz.underlying210
  a146 := Tryz.isAgg210
  z146 := Tryz.sizeOf210
  v146 := Tryz.zeroValue210
  t148 := Tryz.underlying212
  a148 := Tryz.isAgg212
  z148 := Tryz.sizeOf212
  v148 := Tryz.zeroValue212
  t164 := Tryz.underlying187
  a164 := Tryz.isAgg187
  z164 := Tryz.sizeOf187
  v164 := Tryz.zeroValue187 }
theorem X105 : Builder.Extra Tryz.prog Tryz.l_Lays_n105_ren := {
  sizeBuilder := by kernel_rfl
  liesBuilder := by kernel_rfl
  t5 := Tryz.l_Lays_n105.t5
  a5 := Tryz.l_Lays_n105.a5
  z5 := Tryz.l_Lays_n105.z5
  v5 := Tryz.l_Lays_n105.v5
  infoByte := by kernel_rfl
  cellsByte := by kernel_rfl
  sizeByte := by kernel_rfl
  neB5 := by decide }
theorem rept_ok (s : ByteArray) (n : Int) (hp : 0 ≤ n ∧ n ≤ 1000000 ∧ s.size * n.toNat ≤ 140737488355328) : FnOk cfg 97 ([vS s, vI n].map SV.den) (vS (tx (Lib.repeatL s.data.toList n.toNat)) : SV).den :=
  fnOk_shelf (rv := Value.string (tx (Lib.repeatL s.data.toList n.toNat))) ⟨_, Tryz.func97, rfl, rfl⟩ rfl (fun M wf => by obtain ⟨c, rfl⟩ := Int.eq_ofNat_of_zero_le hp.1; exact Any.strings_Repeat Tryz.l_Lays_n105 X105 s c M.w (by have := hp.2.1; omega) (by have := hp.2.2; rw [Int.toNat_natCast] at this; exact this)) (fun _ _ => RepI.lit _)
noncomputable def c_rept : SpecF := fun args _ K => match args with
  | [.one (.c (.str s)), .one (.c (.int .i64 n))] => bif decide (0 ≤ n ∧ n ≤ 1000000 ∧ s.size * n.toNat ≤ 140737488355328) then K (vS (tx (Lib.repeatL s.data.toList n.toNat))) [] else none
  | _ => none
theorem c_rept_ok : SpecOk cfg 97 c_rept := by
  intro args bx K out h
  unfold c_rept at h
  split at h
  · obtain ⟨hp, h⟩ := bif_some h
    exact ⟨_, _, h, .inl (rept_ok _ _ (of_decide_eq_true hp) _), by simp [isTupS]⟩
  · cases h
end Go.Proofs.YtldofkogmkfpjaaGreatDoor
