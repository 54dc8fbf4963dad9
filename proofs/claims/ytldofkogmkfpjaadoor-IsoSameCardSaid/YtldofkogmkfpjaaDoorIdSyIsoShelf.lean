/-
  The contracts of Go's library that layer 25 uses, off the kit's shelf.
-/
import Derived.Test.YtldofkogmkfpjaaDoorIdSyTy
import Derived.Test.YtldofkogmkfpjaaDoorPIsoLaw
import Derived.Test.YtldofkogmkfpjaaDoorSyJoin
import Derived.Shelf.Small.Wraps
import Derived.Shelf.Small.Strs
import Derived.Shelf.Strings.Prefix
import Derived.Shelf.Strings.SlTrimAscii
import Derived.Shelf.Strings.Repeat
import Derived.Shelf.Strings.OnBuilder
import Derived.Shelf.Strconv.Atoi
import Derived.Shelf.Strconv.Itoa3
import Derived.Lib.AtoiErrMem
import Derived.WalkKit
import Derived.Laws.RangeAny
import Derived.LoopTactic
namespace Go.Proofs.YtldofkogmkfpjaaDoor
open Go Go.Ev Go.Sy
set_option linter.unusedSimpArgs false
set_option linter.unusedVariables false
set_option maxRecDepth 10000
set_option maxHeartbeats 4000000
open Go.Shelf Go.RowKit Go.Sort
theorem belowG (w : World) (k : Nat) (os : Array Obj) : Below w.heap.size w (grow (w.drewN k) os) :=
  ⟨rfl, rfl, rfl, by show w.heap.size ≤ (w.heap ++ os).size; rw [Array.size_append]; omega, fun j hj => Array.getElem?_append_left hj⟩
def Tryd.l_LaysM_n171_ren : Go.Shelf.Ren := ⟨fun | 171 => 99 | 243 => 133 | 246 => 161 | 283 => 184 | 284 => 185 | 285 => 186 | 286 => 187 | 129 => 201 | 317 => 200 | 318 => 202 | 319 => 203 | 320 => 204 | 337 => 210 | 338 => 211 | n => n, fun | 3 => 3 | 9 => 9 | 2 => 2 | 4 => 4 | 171 => 202 | 0 => 0 | 53 => 39 | 37 => 57 | 5 => 5 | 173 => 205 | 212 => 217 | 51 => 59 | 20 => 20 | 213 => 218 | 46 => 87 | 232 => 233 | 233 => 234 | n => n, fun | 17 => 2 | 18 => 9 | 19 => 10 | n => n⟩
theorem Tryd.l_LaysM_n171 : Go.Proofs.LaysM.n171 Tryd.prog Tryd.l_LaysM_n171_ren := {
  mixed := by kernel_rfl
  f129 := Tryd.func201.trans (congrArg some (by kernel_rfl))
  f171 := Tryd.func99.trans (congrArg some (by kernel_rfl))
  f243 := Tryd.func133.trans (congrArg some (by kernel_rfl))
  f246 := Tryd.func161.trans (congrArg some (by kernel_rfl))
  f283 := Tryd.func184.trans (congrArg some (by kernel_rfl))
  f284 := Tryd.func185.trans (congrArg some (by kernel_rfl))
  f285 := Tryd.func186.trans (congrArg some (by kernel_rfl))
  f286 := Tryd.func187.trans (congrArg some (by kernel_rfl))
  f317 := Tryd.func200.trans (congrArg some (by kernel_rfl))
  f318 := Tryd.func202.trans (congrArg some (by kernel_rfl))
  f319 := Tryd.func203.trans (congrArg some (by kernel_rfl))
  f320 := Tryd.func204.trans (congrArg some (by kernel_rfl))
  f337 := Tryd.func210.trans (congrArg some (by kernel_rfl))
  f338 := Tryd.func211.trans (congrArg some (by kernel_rfl))
  t0 := Tryd.underlying0
  a0 := Tryd.isAgg0
  z0 := Tryd.sizeOf0
  v0 := Tryd.zeroValue0
  t2 := Tryd.underlying2
  a2 := Tryd.isAgg2
  z2 := Tryd.sizeOf2
  v2 := Tryd.zeroValue2
  t3 := Tryd.underlying3
  a3 := Tryd.isAgg3
  z3 := Tryd.sizeOf3
  v3 := Tryd.zeroValue3
  t4 := Tryd.underlying4
  a4 := Tryd.isAgg4
  z4 := Tryd.sizeOf4
  v4 := Tryd.zeroValue4
  t5 := Tryd.underlying5
  a5 := Tryd.isAgg5
  z5 := Tryd.sizeOf5
  v5 := Tryd.zeroValue5
  t9 := Tryd.underlying9
  a9 := Tryd.isAgg9
  z9 := Tryd.sizeOf9
  v9 := Tryd.zeroValue9
  t20 := Tryd.underlying20
  a20 := Tryd.isAgg20
  z20 := Tryd.sizeOf20
  v20 := Tryd.zeroValue20
  t37 := Tryd.underlying57
  a37 := Tryd.isAgg57
  z37 := Tryd.sizeOf57
  v37 := Tryd.zeroValue57
  t46 := Tryd.underlying87
  a46 := Tryd.isAgg87
  z46 := Tryd.sizeOf87
  v46 := Tryd.zeroValue87
  t51 := Tryd.underlying59
  a51 := Tryd.isAgg59
  z51 := Tryd.sizeOf59
  v51 := Tryd.zeroValue59
  t53 := Tryd.underlying39
  a53 := Tryd.isAgg39
  z53 := Tryd.sizeOf39
  v53 := Tryd.zeroValue39
  t171 := Tryd.underlying202
  a171 := Tryd.isAgg202
  z171 := Tryd.sizeOf202
  v171 := Tryd.zeroValue202
  t173 := Tryd.underlying205
  a173 := Tryd.isAgg205
  z173 := Tryd.sizeOf205
  v173 := Tryd.zeroValue205
  t212 := Tryd.underlying217
  a212 := Tryd.isAgg217
  z212 := Tryd.sizeOf217
  v212 := Tryd.zeroValue217
  t213 := Tryd.underlying218
  a213 := Tryd.isAgg218
  z213 := Tryd.sizeOf218
  t232 := Tryd.underlying233
  a232 := Tryd.isAgg233
  z232 := Tryd.sizeOf233
  v232 := Tryd.zeroValue233
  t233 := Tryd.underlying234
  a233 := Tryd.isAgg234
  z233 := Tryd.sizeOf234
  v233 := Tryd.zeroValue234
  g17 := by kernel_rfl
  g18 := by kernel_rfl
  g19 := by kernel_rfl
  i0 := by kernel_rfl
  i2 := by kernel_rfl
  i3 := by kernel_rfl
  i4 := by kernel_rfl
  i5 := by kernel_rfl
  i9 := by kernel_rfl
  i20 := by kernel_rfl
  i37 := by kernel_rfl
  i46 := by kernel_rfl
  i51 := by kernel_rfl
  i53 := by kernel_rfl
  i171 := by kernel_rfl
  i173 := by kernel_rfl
  i212 := by kernel_rfl
  i232 := by kernel_rfl
  i233 := by kernel_rfl
  m17 := by kernel_rfl
  m18 := by kernel_rfl
  m19 := by kernel_rfl }
theorem itoa_ok (n : Int) (hp : isH n) : FnOk cfg 99 ([vI n].map SV.den) (vS (tx (Lib.itoa n)) : SV).den :=
  fnOk_shelf (rv := Value.string (tx (Lib.itoa n))) ⟨_, Tryd.func99, rfl, rfl⟩ rfl (fun M wf => (Any.strconv_Itoa Tryd.l_LaysM_n171 n hp.1 (by have := hp.2; omega) M.w (fix_var wf (g := 2) rfl (by kernel_rfl) (by decide))).mono fun e w' ⟨h, k, os, hw⟩ => ⟨h, hw ▸ belowG _ _ _⟩) (fun _ _ => RepI.lit _)
noncomputable def c_itoa : SpecF := fun args _ K => match args with
  | [.one (.c (.int .i64 n))] => bif decide (isH n) then K (vS (tx (Lib.itoa n))) [] else none
  | _ => none
theorem c_itoa_ok : SpecOk cfg 99 c_itoa := by
  intro args bx K out h
  unfold c_itoa at h
  split at h
  · obtain ⟨hp, h⟩ := bif_some h
    exact ⟨_, _, h, .inl (itoa_ok _ (of_decide_eq_true hp) _), by simp [isTupS]⟩
  · cases h
def Tryd.l_Lays_n105_ren : Go.Shelf.Ren := ⟨fun | 105 => 100 | 212 => 134 | 99 => 73 | 165 => 129 | 166 => 130 | 170 => 135 | 169 => 131 | 263 => 162 | 264 => 163 | 206 => 114 | 240 => 155 | 241 => 156 | 276 => 179 | 277 => 180 | n => n, fun | 9 => 9 | 3 => 3 | 4 => 4 | 20 => 20 | 0 => 0 | 46 => 87 | 109 => 163 | 5 => 5 | 72 => 155 | 76 => 159 | 51 => 59 | 146 => 188 | 53 => 39 | 148 => 170 | 70 => 153 | 37 => 57 | 75 => 158 | 127 => 184 | 164 => 196 | 80 => 161 | n => n, fun | n => n⟩
theorem Tryd.l_Lays_n105 : Go.Proofs.Lays.n105 Tryd.prog Tryd.l_Lays_n105_ren := {
  mixed := by kernel_rfl
  f99 := Tryd.func73.trans (congrArg some (by kernel_rfl))
  f105 := Tryd.func100.trans (congrArg some (by kernel_rfl))
  f165 := Tryd.func129.trans (congrArg some (by kernel_rfl))
  f166 := Tryd.func130.trans (congrArg some (by kernel_rfl))
  f169 := Tryd.func131.trans (congrArg some (by kernel_rfl))
  f170 := Tryd.func135.trans (congrArg some (by kernel_rfl))
  f206 := Tryd.func114.trans (congrArg some (by kernel_rfl))
  f212 := Tryd.func134.trans (congrArg some (by kernel_rfl))
  f240 := Tryd.func155.trans (congrArg some (by kernel_rfl))
  f241 := Tryd.func156.trans (congrArg some (by kernel_rfl))
  f263 := Tryd.func162.trans (congrArg some (by kernel_rfl))
  f264 := Tryd.func163.trans (congrArg some (by kernel_rfl))
  f276 := Tryd.func179.trans (congrArg some (by kernel_rfl))
  f277 := Tryd.func180.trans (congrArg some (by kernel_rfl))
  t0 := Tryd.underlying0
  a0 := Tryd.isAgg0
  z0 := Tryd.sizeOf0
  v0 := Tryd.zeroValue0
  t3 := Tryd.underlying3
  a3 := Tryd.isAgg3
  z3 := Tryd.sizeOf3
  v3 := Tryd.zeroValue3
  t4 := Tryd.underlying4
  a4 := Tryd.isAgg4
  z4 := Tryd.sizeOf4
  v4 := Tryd.zeroValue4
  t5 := Tryd.underlying5
  a5 := Tryd.isAgg5
  z5 := Tryd.sizeOf5
  v5 := Tryd.zeroValue5
  t9 := Tryd.underlying9
  a9 := Tryd.isAgg9
  z9 := Tryd.sizeOf9
  v9 := Tryd.zeroValue9
  t20 := Tryd.underlying20
  a20 := Tryd.isAgg20
  z20 := Tryd.sizeOf20
  v20 := Tryd.zeroValue20
  t37 := Tryd.underlying57
  a37 := Tryd.isAgg57
  z37 := Tryd.sizeOf57
  v37 := Tryd.zeroValue57
  t46 := Tryd.underlying87
  a46 := Tryd.isAgg87
  z46 := Tryd.sizeOf87
  v46 := Tryd.zeroValue87
  t51 := Tryd.underlying59
  a51 := Tryd.isAgg59
  z51 := Tryd.sizeOf59
  v51 := Tryd.zeroValue59
  t53 := Tryd.underlying39
  a53 := Tryd.isAgg39
  z53 := Tryd.sizeOf39
  v53 := Tryd.zeroValue39
  t70 := Tryd.underlying153
  a70 := Tryd.isAgg153
  z70 := Tryd.sizeOf153
  v70 := Tryd.zeroValue153
  t72 := Tryd.underlying155
  a72 := Tryd.isAgg155
  z72 := Tryd.sizeOf155
  v72 := Tryd.zeroValue155
  t75 := Tryd.underlying158
  a75 := Tryd.isAgg158
  z75 := Tryd.sizeOf158
  v75 := Tryd.zeroValue158
  t76 := Tryd.underlying159
  a76 := Tryd.isAgg159
  z76 := Tryd.sizeOf159
  v76 := Tryd.zeroValue159
  t109 := Tryd.underlying163
  a109 := Tryd.isAgg163
  z109 := Tryd.sizeOf163
  v109 := Tryd.zeroValue163
  t127 := Tryd.underlying184
  a127 := Tryd.isAgg184
  z127 := Tryd.sizeOf184
  v127 := Tryd.zeroValue184
  t146 := Tryd.underlying188
  a146 := Tryd.isAgg188
  z146 := Tryd.sizeOf188
  v146 := Tryd.zeroValue188
  t148 := Tryd.underlying170
  a148 := Tryd.isAgg170
  z148 := Tryd.sizeOf170
  v148 := Tryd.zeroValue170
  t164 := Tryd.underlying196
  a164 := Tryd.isAgg196
  z164 := Tryd.sizeOf196
  v164 := Tryd.zeroValue196 }
theorem X105 : Builder.Extra Tryd.prog Tryd.l_Lays_n105_ren := {
  sizeBuilder := by kernel_rfl
  liesBuilder := by kernel_rfl
  t5 := Tryd.underlying5
  a5 := Tryd.isAgg5
  z5 := Tryd.sizeOf5
  v5 := Tryd.zeroValue5
  infoByte := by kernel_rfl
  cellsByte := by kernel_rfl
  sizeByte := by kernel_rfl
  neB5 := by decide }
theorem rept_ok (s : ByteArray) (n : Int) (hp : 0 ≤ n ∧ n ≤ 1000000 ∧ s.size * n.toNat ≤ 140737488355328) : FnOk cfg 100 ([vS s, vI n].map SV.den) (vS (tx (Lib.repeatL s.data.toList n.toNat)) : SV).den :=
  fnOk_shelf (rv := Value.string (tx (Lib.repeatL s.data.toList n.toNat))) ⟨_, Tryd.func100, rfl, rfl⟩ rfl (fun M wf => by obtain ⟨c, rfl⟩ := Int.eq_ofNat_of_zero_le hp.1; exact Any.strings_Repeat Tryd.l_Lays_n105 X105 s c M.w (by have := hp.2.1; omega) (by have := hp.2.2; rw [Int.toNat_natCast] at this; exact this)) (fun _ _ => RepI.lit _)
noncomputable def c_rept : SpecF := fun args _ K => match args with
  | [.one (.c (.str s)), .one (.c (.int .i64 n))] => bif decide (0 ≤ n ∧ n ≤ 1000000 ∧ s.size * n.toNat ≤ 140737488355328) then K (vS (tx (Lib.repeatL s.data.toList n.toNat))) [] else none
  | _ => none
theorem c_rept_ok : SpecOk cfg 100 c_rept := by
  intro args bx K out h
  unfold c_rept at h
  split at h
  · obtain ⟨hp, h⟩ := bif_some h
    exact ⟨_, _, h, .inl (rept_ok _ _ (of_decide_eq_true hp) _), by simp [isTupS]⟩
  · cases h
theorem ascii_all {p : ByteArray} (h : (p.data.toList.all fun b => decide (b.toNat < 128)) = true) : ∀ (j : Nat) b, p.data.toList[j]? = some b → b.toNat < 128 := fun j b e => by
  rw [List.all_eq_true] at h
  exact of_decide_eq_true (h b (List.mem_of_getElem? e))
def Tryd.l_Lays_n103_ren : Go.Shelf.Ren := ⟨fun | 103 => 59 | 210 => 102 | 206 => 114 | n => n, fun | 9 => 9 | 4 => 4 | 24 => 88 | 3 => 3 | n => n, fun | n => n⟩
theorem Tryd.l_Lays_n103 : Go.Proofs.Lays.n103 Tryd.prog Tryd.l_Lays_n103_ren := {
  mixed := by kernel_rfl
  f103 := Tryd.func59.trans (congrArg some (by kernel_rfl))
  f206 := Tryd.func114.trans (congrArg some (by kernel_rfl))
  f210 := Tryd.func102.trans (congrArg some (by kernel_rfl))
  t3 := Tryd.underlying3
  a3 := Tryd.isAgg3
  z3 := Tryd.sizeOf3
  v3 := Tryd.zeroValue3
  t4 := Tryd.underlying4
  a4 := Tryd.isAgg4
  z4 := Tryd.sizeOf4
  v4 := Tryd.zeroValue4
  t9 := Tryd.underlying9
  a9 := Tryd.isAgg9
  z9 := Tryd.sizeOf9
  v9 := Tryd.zeroValue9
  t24 := Tryd.underlying88
  a24 := Tryd.isAgg88
  z24 := Tryd.sizeOf88
  v24 := Tryd.zeroValue88 }
theorem cutp_ok (s : ByteArray) (p : ByteArray) : FnOk cfg 59 ([vS s, vS p].map SV.den) (.tup [tS (tx (Lib.trimPrefix s.data.toList p.data.toList)), tB (Lib.hasPrefix s.data.toList p.data.toList)] : SV).den :=
  fnOk_shelf (rv := Value.tuple #[.string (tx (Lib.trimPrefix s.data.toList p.data.toList)), .bool (Lib.hasPrefix s.data.toList p.data.toList)]) ⟨_, Tryd.func59, rfl, rfl⟩ rfl (fun M wf => (Any.strings_CutPrefix Tryd.l_Lays_n103 s p M.w).mono fun e w' h => ⟨h.1, h.2 ▸ Below.refl _ _⟩) (fun _ _ => repT _ (by intro x hx; simp at hx; rcases hx with rfl | rfl <;> rfl))
noncomputable def c_cutp : SpecF := fun args _ K => match args with
  | [.one (.c (.str s)), .one (.c (.str p))] => K (.tup [tS (tx (Lib.trimPrefix s.data.toList p.data.toList)), tB (Lib.hasPrefix s.data.toList p.data.toList)]) []
  | _ => none
theorem c_cutp_ok : SpecOk cfg 59 c_cutp := by
  intro args bx K out h
  unfold c_cutp at h
  split at h
  · exact ⟨_, _, h, .inl (cutp_ok _ _ _), by simp [isTupS]⟩
  · cases h
def Tryd.l_Lays_n104_ren : Go.Shelf.Ren := ⟨fun | 104 => 120 | 211 => 148 | 207 => 174 | n => n, fun | 9 => 9 | 4 => 4 | 24 => 88 | 3 => 3 | n => n, fun | n => n⟩
theorem Tryd.l_Lays_n104 : Go.Proofs.Lays.n104 Tryd.prog Tryd.l_Lays_n104_ren := {
  mixed := by kernel_rfl
  f104 := Tryd.func120.trans (congrArg some (by kernel_rfl))
  f207 := Tryd.func174.trans (congrArg some (by kernel_rfl))
  f211 := Tryd.func148.trans (congrArg some (by kernel_rfl))
  t3 := Tryd.underlying3
  a3 := Tryd.isAgg3
  z3 := Tryd.sizeOf3
  v3 := Tryd.zeroValue3
  t4 := Tryd.underlying4
  a4 := Tryd.isAgg4
  z4 := Tryd.sizeOf4
  v4 := Tryd.zeroValue4
  t9 := Tryd.underlying9
  a9 := Tryd.isAgg9
  z9 := Tryd.sizeOf9
  v9 := Tryd.zeroValue9
  t24 := Tryd.underlying88
  a24 := Tryd.isAgg88
  z24 := Tryd.sizeOf88
  v24 := Tryd.zeroValue88 }
theorem cuts_ok (s : ByteArray) (p : ByteArray) (hp : s.size ≤ 9223372036854775807) : FnOk cfg 120 ([vS s, vS p].map SV.den) (.tup [tS (tx (Lib.trimSuffix s.data.toList p.data.toList)), tB (Lib.hasSuffix s.data.toList p.data.toList)] : SV).den :=
  fnOk_shelf (rv := Value.tuple #[.string (tx (Lib.trimSuffix s.data.toList p.data.toList)), .bool (Lib.hasSuffix s.data.toList p.data.toList)]) ⟨_, Tryd.func120, rfl, rfl⟩ rfl (fun M wf => (Any.strings_CutSuffix Tryd.l_Lays_n104 s p M.w hp).mono fun e w' h => ⟨h.1, h.2 ▸ Below.refl _ _⟩) (fun _ _ => repT _ (by intro x hx; simp at hx; rcases hx with rfl | rfl <;> rfl))
noncomputable def c_cuts : SpecF := fun args _ K => match args with
  | [.one (.c (.str s)), .one (.c (.str p))] => bif decide (s.size ≤ 9223372036854775807) then K (.tup [tS (tx (Lib.trimSuffix s.data.toList p.data.toList)), tB (Lib.hasSuffix s.data.toList p.data.toList)]) [] else none
  | _ => none
theorem c_cuts_ok : SpecOk cfg 120 c_cuts := by
  intro args bx K out h
  unfold c_cuts at h
  split at h
  · obtain ⟨hp, h⟩ := bif_some h
    exact ⟨_, _, h, .inl (cuts_ok _ _ (of_decide_eq_true hp) _), by simp [isTupS]⟩
  · cases h
def Tryd.l_Lays_n137_ren : Go.Shelf.Ren := ⟨fun | 137 => 121 | 217 => 149 | 266 => 175 | n => n, fun | 9 => 9 | 5 => 5 | 3 => 3 | n => n, fun | n => n⟩
theorem Tryd.l_Lays_n137 : Go.Proofs.Lays.n137 Tryd.prog Tryd.l_Lays_n137_ren := {
  mixed := by kernel_rfl
  f137 := Tryd.func121.trans (congrArg some (by kernel_rfl))
  f217 := Tryd.func149.trans (congrArg some (by kernel_rfl))
  f266 := Tryd.func175.trans (congrArg some (by kernel_rfl))
  t3 := Tryd.underlying3
  a3 := Tryd.isAgg3
  z3 := Tryd.sizeOf3
  v3 := Tryd.zeroValue3
  t5 := Tryd.underlying5
  a5 := Tryd.isAgg5
  z5 := Tryd.sizeOf5
  v5 := Tryd.zeroValue5
  t9 := Tryd.underlying9
  a9 := Tryd.isAgg9
  z9 := Tryd.sizeOf9
  v9 := Tryd.zeroValue9 }
theorem ixb_ok (s : ByteArray) (c : Int) : FnOk cfg 121 ([vS s, c1 (.int .u8 c)].map SV.den) (vI (Lib.indexByte s.data.toList c.toNat.toUInt8) : SV).den :=
  fnOk_shelf (rv := Value.int .i64 (Lib.indexByte s.data.toList c.toNat.toUInt8)) ⟨_, Tryd.func121, rfl, rfl⟩ rfl (fun M wf => (Any.strings_IndexByte Tryd.l_Lays_n137 s c M.w).mono fun e w' h => ⟨h.1, h.2 ▸ Below.refl _ _⟩) (fun _ _ => RepI.lit _)
noncomputable def c_ixb : SpecF := fun args _ K => match args with
  | [.one (.c (.str s)), .one (.c (.int .u8 c))] => K (vI (Lib.indexByte s.data.toList c.toNat.toUInt8)) []
  | _ => none
theorem c_ixb_ok : SpecOk cfg 121 c_ixb := by
  intro args bx K out h
  unfold c_ixb at h
  split at h
  · exact ⟨_, _, h, .inl (ixb_ok _ _ _), by simp [isTupS]⟩
  · cases h
def Tryd.l_Lays_n161_ren : Go.Shelf.Ren := ⟨fun | 161 => 141 | 231 => 165 | 227 => 152 | 233 => 166 | 235 => 167 | 228 => 176 | 197 => 188 | 151 => 178 | 260 => 205 | 152 => 198 | 137 => 121 | 119 => 208 | 224 => 172 | 225 => 171 | 217 => 149 | 266 => 175 | n => n, fun | 9 => 9 | 4 => 4 | 3 => 3 | 5 => 5 | 117 => 180 | 116 => 179 | 0 => 0 | 124 => 183 | 105 => 193 | 21 => 21 | 119 => 226 | 46 => 87 | 139 => 229 | 138 => 228 | n => n, fun | 3 => 7 | 4 => 8 | n => n⟩
theorem Tryd.l_Lays_n161 : Go.Proofs.Lays.n161 Tryd.prog Tryd.l_Lays_n161_ren := {
  mixed := by kernel_rfl
  f119 := Tryd.func208.trans (congrArg some (by kernel_rfl))
  f137 := Tryd.func121.trans (congrArg some (by kernel_rfl))
  f151 := Tryd.func178.trans (congrArg some (by kernel_rfl))
  f152 := Tryd.func198.trans (congrArg some (by kernel_rfl))
  f161 := Tryd.func141.trans (congrArg some (by kernel_rfl))
  f197 := Tryd.func188.trans (congrArg some (by kernel_rfl))
  f217 := Tryd.func149.trans (congrArg some (by kernel_rfl))
  f224 := Tryd.func172.trans (congrArg some (by kernel_rfl))
  f225 := Tryd.func171.trans (congrArg some (by kernel_rfl))
  f227 := Tryd.func152.trans (congrArg some (by kernel_rfl))
  f228 := Tryd.func176.trans (congrArg some (by kernel_rfl))
  f231 := Tryd.func165.trans (congrArg some (by kernel_rfl))
  f233 := Tryd.func166.trans (congrArg some (by kernel_rfl))
  f235 := Tryd.func167.trans (congrArg some (by kernel_rfl))
  f260 := Tryd.func205.trans (congrArg some (by kernel_rfl))
  f266 := Tryd.func175.trans (congrArg some (by kernel_rfl))
  t0 := Tryd.underlying0
  a0 := Tryd.isAgg0
  z0 := Tryd.sizeOf0
  v0 := Tryd.zeroValue0
  t3 := Tryd.underlying3
  a3 := Tryd.isAgg3
  z3 := Tryd.sizeOf3
  v3 := Tryd.zeroValue3
  t4 := Tryd.underlying4
  a4 := Tryd.isAgg4
  z4 := Tryd.sizeOf4
  v4 := Tryd.zeroValue4
  t5 := Tryd.underlying5
  a5 := Tryd.isAgg5
  z5 := Tryd.sizeOf5
  v5 := Tryd.zeroValue5
  t9 := Tryd.underlying9
  a9 := Tryd.isAgg9
  z9 := Tryd.sizeOf9
  v9 := Tryd.zeroValue9
  t21 := Tryd.underlying21
  a21 := Tryd.isAgg21
  z21 := Tryd.sizeOf21
  v21 := Tryd.zeroValue21
  t46 := Tryd.underlying87
  a46 := Tryd.isAgg87
  z46 := Tryd.sizeOf87
  v46 := Tryd.zeroValue87
  t105 := Tryd.underlying193
  a105 := Tryd.isAgg193
  z105 := Tryd.sizeOf193
  v105 := Tryd.zeroValue193
  t116 := Tryd.underlying179
  a116 := Tryd.isAgg179
  z116 := Tryd.sizeOf179
  t117 := Tryd.underlying180
  a117 := Tryd.isAgg180
  z117 := Tryd.sizeOf180
  v117 := Tryd.zeroValue180
  t119 := Tryd.underlying226
  a119 := Tryd.isAgg226
  z119 := Tryd.sizeOf226
  t124 := Tryd.underlying183
  a124 := Tryd.isAgg183
  z124 := Tryd.sizeOf183
  v124 := Tryd.zeroValue183
  t138 := Tryd.underlying228
  a138 := Tryd.isAgg228
  z138 := Tryd.sizeOf228
  v138 := Tryd.zeroValue228
  t139 := Tryd.underlying229
  a139 := Tryd.isAgg229
  z139 := Tryd.sizeOf229
  v139 := Tryd.zeroValue229
  g3 := by kernel_rfl
  g4 := by kernel_rfl }
theorem triml_ok (s : ByteArray) (p : ByteArray) (hp : (p.data.toList.all fun b => decide (b.toNat < 128)) = true ∧ p.size ≤ 100) : FnOk cfg 141 ([vS s, vS p].map SV.den) (vS (tx (Lib.trimLeftS s.data.toList p.data.toList)) : SV).den :=
  fnOk_shelf (rv := Value.string (tx (Lib.trimLeftS s.data.toList p.data.toList))) ⟨_, Tryd.func141, rfl, rfl⟩ rfl (fun M wf => Any.strings_TrimLeft_laid Tryd.l_Lays_n161 (by kernel_rfl) s p M.w (by have := hp.2; omega) (ascii_all hp.1)) (fun _ _ => RepI.lit _)
noncomputable def c_triml : SpecF := fun args _ K => match args with
  | [.one (.c (.str s)), .one (.c (.str p))] => bif decide ((p.data.toList.all fun b => decide (b.toNat < 128)) = true ∧ p.size ≤ 100) then K (vS (tx (Lib.trimLeftS s.data.toList p.data.toList))) [] else none
  | _ => none
theorem c_triml_ok : SpecOk cfg 141 c_triml := by
  intro args bx K out h
  unfold c_triml at h
  split at h
  · obtain ⟨hp, h⟩ := bif_some h
    exact ⟨_, _, h, .inl (triml_ok _ _ (of_decide_eq_true hp) _), by simp [isTupS]⟩
  · cases h
def Tryd.l_Lays_n162_ren : Go.Shelf.Ren := ⟨fun | 162 => 128 | 232 => 151 | 227 => 152 | 234 => 153 | 236 => 154 | 228 => 176 | 271 => 177 | 151 => 178 | 120 => 197 | 197 => 188 | 152 => 198 | 260 => 205 | 137 => 121 | 119 => 208 | 224 => 172 | 225 => 171 | 217 => 149 | 266 => 175 | n => n, fun | 9 => 9 | 4 => 4 | 3 => 3 | 5 => 5 | 117 => 180 | 116 => 179 | 0 => 0 | 124 => 183 | 21 => 21 | 105 => 193 | 46 => 87 | 119 => 226 | 139 => 229 | 138 => 228 | n => n, fun | 3 => 7 | 4 => 8 | n => n⟩
theorem Tryd.l_Lays_n162 : Go.Proofs.Lays.n162 Tryd.prog Tryd.l_Lays_n162_ren := {
  mixed := by kernel_rfl
  f119 := Tryd.func208.trans (congrArg some (by kernel_rfl))
  f120 := Tryd.func197.trans (congrArg some (by kernel_rfl))
  f137 := Tryd.func121.trans (congrArg some (by kernel_rfl))
  f151 := Tryd.func178.trans (congrArg some (by kernel_rfl))
  f152 := Tryd.func198.trans (congrArg some (by kernel_rfl))
  f162 := Tryd.func128.trans (congrArg some (by kernel_rfl))
  f197 := Tryd.func188.trans (congrArg some (by kernel_rfl))
  f217 := Tryd.func149.trans (congrArg some (by kernel_rfl))
  f224 := Tryd.func172.trans (congrArg some (by kernel_rfl))
  f225 := Tryd.func171.trans (congrArg some (by kernel_rfl))
  f227 := Tryd.func152.trans (congrArg some (by kernel_rfl))
  f228 := Tryd.func176.trans (congrArg some (by kernel_rfl))
  f232 := Tryd.func151.trans (congrArg some (by kernel_rfl))
  f234 := Tryd.func153.trans (congrArg some (by kernel_rfl))
  f236 := Tryd.func154.trans (congrArg some (by kernel_rfl))
  f260 := Tryd.func205.trans (congrArg some (by kernel_rfl))
  f266 := Tryd.func175.trans (congrArg some (by kernel_rfl))
  f271 := Tryd.func177.trans (congrArg some (by kernel_rfl))
  t0 := Tryd.underlying0
  a0 := Tryd.isAgg0
  z0 := Tryd.sizeOf0
  v0 := Tryd.zeroValue0
  t3 := Tryd.underlying3
  a3 := Tryd.isAgg3
  z3 := Tryd.sizeOf3
  v3 := Tryd.zeroValue3
  t4 := Tryd.underlying4
  a4 := Tryd.isAgg4
  z4 := Tryd.sizeOf4
  v4 := Tryd.zeroValue4
  t5 := Tryd.underlying5
  a5 := Tryd.isAgg5
  z5 := Tryd.sizeOf5
  v5 := Tryd.zeroValue5
  t9 := Tryd.underlying9
  a9 := Tryd.isAgg9
  z9 := Tryd.sizeOf9
  v9 := Tryd.zeroValue9
  t21 := Tryd.underlying21
  a21 := Tryd.isAgg21
  z21 := Tryd.sizeOf21
  v21 := Tryd.zeroValue21
  t46 := Tryd.underlying87
  a46 := Tryd.isAgg87
  z46 := Tryd.sizeOf87
  v46 := Tryd.zeroValue87
  t105 := Tryd.underlying193
  a105 := Tryd.isAgg193
  z105 := Tryd.sizeOf193
  v105 := Tryd.zeroValue193
  t116 := Tryd.underlying179
  a116 := Tryd.isAgg179
  z116 := Tryd.sizeOf179
  t117 := Tryd.underlying180
  a117 := Tryd.isAgg180
  z117 := Tryd.sizeOf180
  v117 := Tryd.zeroValue180
  t119 := Tryd.underlying226
  a119 := Tryd.isAgg226
  z119 := Tryd.sizeOf226
  t124 := Tryd.underlying183
  a124 := Tryd.isAgg183
  z124 := Tryd.sizeOf183
  v124 := Tryd.zeroValue183
  t138 := Tryd.underlying228
  a138 := Tryd.isAgg228
  z138 := Tryd.sizeOf228
  v138 := Tryd.zeroValue228
  t139 := Tryd.underlying229
  a139 := Tryd.isAgg229
  z139 := Tryd.sizeOf229
  v139 := Tryd.zeroValue229
  g3 := by kernel_rfl
  g4 := by kernel_rfl }
theorem trimr_ok (s : ByteArray) (p : ByteArray) (hp : s.size ≤ 9223372036854775807 ∧ (p.data.toList.all fun b => decide (b.toNat < 128)) = true ∧ p.size ≤ 100) : FnOk cfg 128 ([vS s, vS p].map SV.den) (vS (tx (Lib.trimRightS s.data.toList p.data.toList)) : SV).den :=
  fnOk_shelf (rv := Value.string (tx (Lib.trimRightS s.data.toList p.data.toList))) ⟨_, Tryd.func128, rfl, rfl⟩ rfl (fun M wf => Any.strings_TrimRight_laid Tryd.l_Lays_n162 (by kernel_rfl) s p M.w hp.1 (by have := hp.2.2; omega) (ascii_all hp.2.1)) (fun _ _ => RepI.lit _)
noncomputable def c_trimr : SpecF := fun args _ K => match args with
  | [.one (.c (.str s)), .one (.c (.str p))] => bif decide (s.size ≤ 9223372036854775807 ∧ (p.data.toList.all fun b => decide (b.toNat < 128)) = true ∧ p.size ≤ 100) then K (vS (tx (Lib.trimRightS s.data.toList p.data.toList))) [] else none
  | _ => none
theorem c_trimr_ok : SpecOk cfg 128 c_trimr := by
  intro args bx K out h
  unfold c_trimr at h
  split at h
  · obtain ⟨hp, h⟩ := bif_some h
    exact ⟨_, _, h, .inl (trimr_ok _ _ (of_decide_eq_true hp) _), by simp [isTupS]⟩
  · cases h
def Tryd.l_Lays_n172_ren : Go.Shelf.Ren := ⟨fun | 172 => 144 | 244 => 168 | 245 => 169 | 247 => 189 | 279 => 190 | 280 => 191 | 281 => 192 | 282 => 193 | 287 => 170 | 316 => 206 | 171 => 99 | 205 => 207 | 321 => 194 | 322 => 195 | 243 => 133 | 246 => 161 | 283 => 184 | 284 => 185 | 285 => 186 | 286 => 187 | 129 => 201 | 317 => 200 | 318 => 202 | 319 => 203 | 320 => 204 | 337 => 210 | 338 => 211 | n => n, fun | 9 => 9 | 3 => 3 | 75 => 158 | 76 => 159 | 4 => 4 | 5 => 5 | 167 => 207 | 37 => 57 | 0 => 0 | 85 => 208 | 2 => 2 | 168 => 210 | 53 => 39 | 175 => 173 | 46 => 87 | 210 => 222 | 127 => 184 | 145 => 232 | 143 => 230 | 21 => 21 | 171 => 202 | 173 => 205 | 212 => 217 | 51 => 59 | 20 => 20 | 213 => 218 | 232 => 233 | 233 => 234 | 80 => 161 | n => n, fun | 15 => 3 | 16 => 4 | 17 => 2 | 18 => 9 | 19 => 10 | n => n⟩
theorem Tryd.l_Lays_n172 : Go.Proofs.Lays.n172 Tryd.prog Tryd.l_Lays_n172_ren := {
  mixed := by kernel_rfl
  f129 := Tryd.func201.trans (congrArg some (by kernel_rfl))
  f171 := Tryd.func99.trans (congrArg some (by kernel_rfl))
  f172 := Tryd.func144.trans (congrArg some (by kernel_rfl))
  f205 := Tryd.func207.trans (congrArg some (by kernel_rfl))
  f243 := Tryd.func133.trans (congrArg some (by kernel_rfl))
  f244 := Tryd.func168.trans (congrArg some (by kernel_rfl))
  f245 := Tryd.func169.trans (congrArg some (by kernel_rfl))
  f246 := Tryd.func161.trans (congrArg some (by kernel_rfl))
  f247 := Tryd.func189.trans (congrArg some (by kernel_rfl))
  f279 := Tryd.func190.trans (congrArg some (by kernel_rfl))
  f280 := Tryd.func191.trans (congrArg some (by kernel_rfl))
  f281 := Tryd.func192.trans (congrArg some (by kernel_rfl))
  f282 := Tryd.func193.trans (congrArg some (by kernel_rfl))
  f283 := Tryd.func184.trans (congrArg some (by kernel_rfl))
  f284 := Tryd.func185.trans (congrArg some (by kernel_rfl))
  f285 := Tryd.func186.trans (congrArg some (by kernel_rfl))
  f286 := Tryd.func187.trans (congrArg some (by kernel_rfl))
  f287 := Tryd.func170.trans (congrArg some (by kernel_rfl))
  f316 := Tryd.func206.trans (congrArg some (by kernel_rfl))
  f317 := Tryd.func200.trans (congrArg some (by kernel_rfl))
  f318 := Tryd.func202.trans (congrArg some (by kernel_rfl))
  f319 := Tryd.func203.trans (congrArg some (by kernel_rfl))
  f320 := Tryd.func204.trans (congrArg some (by kernel_rfl))
  f321 := Tryd.func194.trans (congrArg some (by kernel_rfl))
  f322 := Tryd.func195.trans (congrArg some (by kernel_rfl))
  f337 := Tryd.func210.trans (congrArg some (by kernel_rfl))
  f338 := Tryd.func211.trans (congrArg some (by kernel_rfl))
  t0 := Tryd.underlying0
  a0 := Tryd.isAgg0
  z0 := Tryd.sizeOf0
  v0 := Tryd.zeroValue0
  t2 := Tryd.underlying2
  a2 := Tryd.isAgg2
  z2 := Tryd.sizeOf2
  v2 := Tryd.zeroValue2
  t3 := Tryd.underlying3
  a3 := Tryd.isAgg3
  z3 := Tryd.sizeOf3
  v3 := Tryd.zeroValue3
  t4 := Tryd.underlying4
  a4 := Tryd.isAgg4
  z4 := Tryd.sizeOf4
  v4 := Tryd.zeroValue4
  t5 := Tryd.underlying5
  a5 := Tryd.isAgg5
  z5 := Tryd.sizeOf5
  v5 := Tryd.zeroValue5
  t9 := Tryd.underlying9
  a9 := Tryd.isAgg9
  z9 := Tryd.sizeOf9
  v9 := Tryd.zeroValue9
  t20 := Tryd.underlying20
  a20 := Tryd.isAgg20
  z20 := Tryd.sizeOf20
  v20 := Tryd.zeroValue20
  t21 := Tryd.underlying21
  a21 := Tryd.isAgg21
  z21 := Tryd.sizeOf21
  v21 := Tryd.zeroValue21
  t37 := Tryd.underlying57
  a37 := Tryd.isAgg57
  z37 := Tryd.sizeOf57
  v37 := Tryd.zeroValue57
  t46 := Tryd.underlying87
  a46 := Tryd.isAgg87
  z46 := Tryd.sizeOf87
  v46 := Tryd.zeroValue87
  t51 := Tryd.underlying59
  a51 := Tryd.isAgg59
  z51 := Tryd.sizeOf59
  v51 := Tryd.zeroValue59
  t53 := Tryd.underlying39
  a53 := Tryd.isAgg39
  z53 := Tryd.sizeOf39
  v53 := Tryd.zeroValue39
  t75 := Tryd.underlying158
  a75 := Tryd.isAgg158
  z75 := Tryd.sizeOf158
  v75 := Tryd.zeroValue158
  t76 := Tryd.underlying159
  a76 := Tryd.isAgg159
  z76 := Tryd.sizeOf159
  v76 := Tryd.zeroValue159
  t85 := Tryd.underlying208
  a85 := Tryd.isAgg208
  z85 := Tryd.sizeOf208
  v85 := Tryd.zeroValue208
  t127 := Tryd.underlying184
  a127 := Tryd.isAgg184
  z127 := Tryd.sizeOf184
  v127 := Tryd.zeroValue184
  t143 := Tryd.underlying230
  a143 := Tryd.isAgg230
  z143 := Tryd.sizeOf230
  v143 := Tryd.zeroValue230
  t145 := Tryd.underlying232
  a145 := Tryd.isAgg232
  z145 := Tryd.sizeOf232
  v145 := Tryd.zeroValue232
  t167 := Tryd.underlying207
  a167 := Tryd.isAgg207
  z167 := Tryd.sizeOf207
  v167 := Tryd.zeroValue207
  t168 := Tryd.underlying210
  a168 := Tryd.isAgg210
  z168 := Tryd.sizeOf210
  v168 := Tryd.zeroValue210
  t171 := Tryd.underlying202
  a171 := Tryd.isAgg202
  z171 := Tryd.sizeOf202
  v171 := Tryd.zeroValue202
  t173 := Tryd.underlying205
  a173 := Tryd.isAgg205
  z173 := Tryd.sizeOf205
  v173 := Tryd.zeroValue205
  t175 := Tryd.underlying173
  a175 := Tryd.isAgg173
  z175 := Tryd.sizeOf173
  v175 := Tryd.zeroValue173
  t210 := Tryd.underlying222
  a210 := Tryd.isAgg222
  z210 := Tryd.sizeOf222
  v210 := Tryd.zeroValue222
  t212 := Tryd.underlying217
  a212 := Tryd.isAgg217
  z212 := Tryd.sizeOf217
  v212 := Tryd.zeroValue217
  t213 := Tryd.underlying218
  a213 := Tryd.isAgg218
  z213 := Tryd.sizeOf218
  t232 := Tryd.underlying233
  a232 := Tryd.isAgg233
  z232 := Tryd.sizeOf233
  v232 := Tryd.zeroValue233
  t233 := Tryd.underlying234
  a233 := Tryd.isAgg234
  z233 := Tryd.sizeOf234
  v233 := Tryd.zeroValue234
  g15 := by kernel_rfl
  g16 := by kernel_rfl
  g17 := by kernel_rfl
  g18 := by kernel_rfl
  g19 := by kernel_rfl }
theorem atoi_ok (s : ByteArray) (hp : s.size ≤ 18 ∧ (Lib.atoi s.data.toList).isSome = true) : FnOk cfg 144 ([vS s].map SV.den) (.tup [tI ((Lib.atoi s.data.toList).getD 0), .c (.val .nilIface)] : SV).den :=
  fnOk_shelf (rv := Value.tuple #[.int .i64 ((Lib.atoi s.data.toList).getD 0), .nilIface]) ⟨_, Tryd.func144, rfl, rfl⟩ rfl (fun M wf => by
    obtain ⟨n, hn⟩ := Option.isSome_iff_exists.1 hp.2
    have := Any.strconv_Atoi Tryd.l_Lays_n172 s n hp.1 hn M.w
    rw [hn]
    exact this.mono fun e w' ⟨h, t, hw⟩ => ⟨h, hw ▸ Lib.bytesWorld_below _ _ _⟩) (fun _ _ => ⟨_, rfl, rfl, fun i h1 h2 => by
      match i, h1 with
      | 0, _ => exact RepI.lit _
      | 1, _ => exact RepI.lit _⟩)
noncomputable def c_atoi : SpecF := fun args _ K => match args with
  | [.one (.c (.str s))] => bif decide (s.size ≤ 18 ∧ (Lib.atoi s.data.toList).isSome = true) then K (.tup [tI ((Lib.atoi s.data.toList).getD 0), .c (.val .nilIface)]) [] else none
  | _ => none
theorem c_atoi_ok : SpecOk cfg 144 c_atoi := by
  intro args bx K out h
  unfold c_atoi at h
  split at h
  · obtain ⟨hp, h⟩ := bif_some h
    exact ⟨_, _, h, .inl (atoi_ok _ (of_decide_eq_true hp) _), by simp [isTupS]⟩
  · cases h
def Tryd.l_Lays_n156_ren : Go.Shelf.Ren := ⟨fun | 156 => 91 | 165 => 129 | 166 => 130 | 169 => 131 | 240 => 155 | 241 => 156 | 276 => 179 | 277 => 180 | n => n, fun | 31 => 69 | 9 => 9 | 3 => 3 | 4 => 4 | 0 => 0 | 20 => 20 | 72 => 155 | 76 => 159 | 70 => 153 | 37 => 57 | 75 => 158 | 127 => 184 | 164 => 196 | 5 => 5 | 80 => 161 | n => n, fun | n => n⟩
theorem Tryd.l_Lays_n156 : Go.Proofs.Lays.n156 Tryd.prog Tryd.l_Lays_n156_ren := {
  mixed := by kernel_rfl
  f156 := Tryd.func91.trans (congrArg some (by kernel_rfl))
  f165 := Tryd.func129.trans (congrArg some (by kernel_rfl))
  f166 := Tryd.func130.trans (congrArg some (by kernel_rfl))
  f169 := Tryd.func131.trans (congrArg some (by kernel_rfl))
  f240 := Tryd.func155.trans (congrArg some (by kernel_rfl))
  f241 := Tryd.func156.trans (congrArg some (by kernel_rfl))
  f276 := Tryd.func179.trans (congrArg some (by kernel_rfl))
  f277 := Tryd.func180.trans (congrArg some (by kernel_rfl))
  t0 := Tryd.underlying0
  a0 := Tryd.isAgg0
  z0 := Tryd.sizeOf0
  v0 := Tryd.zeroValue0
  t3 := Tryd.underlying3
  a3 := Tryd.isAgg3
  z3 := Tryd.sizeOf3
  v3 := Tryd.zeroValue3
  t4 := Tryd.underlying4
  a4 := Tryd.isAgg4
  z4 := Tryd.sizeOf4
  v4 := Tryd.zeroValue4
  t9 := Tryd.underlying9
  a9 := Tryd.isAgg9
  z9 := Tryd.sizeOf9
  v9 := Tryd.zeroValue9
  t20 := Tryd.underlying20
  a20 := Tryd.isAgg20
  z20 := Tryd.sizeOf20
  v20 := Tryd.zeroValue20
  t31 := Tryd.underlying69
  a31 := Tryd.isAgg69
  z31 := Tryd.sizeOf69
  v31 := Tryd.zeroValue69
  t37 := Tryd.underlying57
  a37 := Tryd.isAgg57
  z37 := Tryd.sizeOf57
  v37 := Tryd.zeroValue57
  t70 := Tryd.underlying153
  a70 := Tryd.isAgg153
  z70 := Tryd.sizeOf153
  v70 := Tryd.zeroValue153
  t72 := Tryd.underlying155
  a72 := Tryd.isAgg155
  z72 := Tryd.sizeOf155
  v72 := Tryd.zeroValue155
  t75 := Tryd.underlying158
  a75 := Tryd.isAgg158
  z75 := Tryd.sizeOf158
  v75 := Tryd.zeroValue158
  t76 := Tryd.underlying159
  a76 := Tryd.isAgg159
  z76 := Tryd.sizeOf159
  v76 := Tryd.zeroValue159
  t127 := Tryd.underlying184
  a127 := Tryd.isAgg184
  z127 := Tryd.sizeOf184
  v127 := Tryd.zeroValue184
  t164 := Tryd.underlying196
  a164 := Tryd.isAgg196
  z164 := Tryd.sizeOf196
  v164 := Tryd.zeroValue196 }
theorem X156 : Builder.Extra Tryd.prog Tryd.l_Lays_n156_ren := {
  sizeBuilder := by kernel_rfl
  liesBuilder := by kernel_rfl
  t5 := Tryd.underlying5
  a5 := Tryd.isAgg5
  z5 := Tryd.sizeOf5
  v5 := Tryd.zeroValue5
  infoByte := by kernel_rfl
  cellsByte := by kernel_rfl
  sizeByte := by kernel_rfl
  neB5 := by decide }
theorem join_ok (L : List (List D)) (p : ByteArray) (hp : L.length ≤ 140737488355328 ∧ (joinD L p).length ≤ 140737488355328) : FnOk cfg 91 ([c1 (.rows [.str] L), vS p].map SV.den) (vS (tx (joinD L p))).den :=
  fnOk_join ⟨_, Tryd.func91, rfl, rfl⟩ fun M wf a cap hcap hne hc => by
    cases L with
    | nil => exact (Any.strings_Join_none Tryd.l_Lays_n156 X156 a cap p M.w).mono fun e w' h => ⟨h.1, h.2 ▸ Below.refl _ _⟩
    | cons r L =>
      obtain ⟨blk, off, rfl⟩ := hne (by simp)
      obtain ⟨h1, h2⟩ := hc blk off (by simp) rfl
      have := Any.strings_Join Tryd.l_Lays_n156 X156 blk off cap ((r :: L).map rowS) p M.w h2 h1 (by rw [List.length_map]; exact hp.1) (by rw [List.length_map]; exact hcap) (by rw [List.map_map]; exact hp.2)
      rw [List.length_map, List.map_map] at this
      exact this
noncomputable def c_join : SpecF := fun args _ K => match args with
  | [.one (.c (.rows [.str] L)), .one (.c (.str p))] => bif decide (L.length ≤ 140737488355328 ∧ (joinD L p).length ≤ 140737488355328) then K (vS (tx (joinD L p))) [] else none
  | _ => none
theorem c_join_ok : SpecOk cfg 91 c_join := by
  intro args bx K out h
  unfold c_join at h
  split at h
  · obtain ⟨hp, h⟩ := bif_some h
    exact ⟨_, _, h, .inl (join_ok _ _ (of_decide_eq_true hp) _), by simp [isTupS]⟩
  · cases h
theorem dig_out {c : UInt8} (h : c.toNat < 48 ∨ 57 < c.toNat) : isDig c = false := by
  unfold isDig
  rcases h with h | h
  · rw [decide_eq_false (by omega)]; rfl
  · rw [decide_eq_false (p := c.toNat ≤ 57) (by omega), Bool.and_false]
theorem dig_in3 {c : UInt8} (h : 48 ≤ c.toNat ∧ c.toNat ≤ 57) : isDig c = true := by
  unfold isDig
  rw [decide_eq_true h.1, decide_eq_true h.2]; rfl
theorem digs_no {l : List UInt8} {i : Nat} (hi : i < l.length) (h : isDig (l.getD i 0) = false) : digsB l = false := by
  unfold digsB
  rw [Bool.and_eq_false_iff]
  refine .inr ?_
  rw [List.all_eq_false]
  refine ⟨l[i], List.getElem_mem hi, ?_⟩
  rw [List.getD_eq_getElem?_getD, List.getElem?_eq_getElem hi] at h
  simpa using h
theorem digs_more {l : List UInt8} {i : Nat} (hi : i < l.length) (h : (l.take i).all isDig = true) (h2 : isDig (l.getD i 0) = true) : (l.take (i + 1)).all isDig = true := by
  rw [List.take_succ_eq_append_getElem hi, List.all_append, h]
  rw [List.getD_eq_getElem?_getD, List.getElem?_eq_getElem hi] at h2
  simpa using h2
theorem digits_calls (s : ByteArray) (w : World) : Calls Tryd.prog 150 #[.string s] w fun e w' => e = .returned (.bool (digsB s.data.toList)) ∧ Below w.heap.size w w' := by
  have hlen : s.data.toList.length = s.size := Array.length_toList
  have hat : ∀ pos (hp : pos < s.size), s.data.toList.getD pos 0 = s[pos]'hp := fun pos hp => by
    rw [List.getD_eq_getElem?_getD, List.getElem?_eq_getElem (by omega)]; rfl
  go_enter Tryd.func150, Tryd.ntmps150
  go_wp2
  go_loopw [4] (fun _ wr => ∃ pos : Nat, wr = w.iter s pos ∧ pos ≤ s.size ∧ (s.data.toList.take pos).all isDig = true) (fun _ wr => s.size - wr.iterPos w.heap.size)
  case atStart => exact ⟨0, rfl, Nat.zero_le _, rfl⟩
  case round =>
    obtain ⟨pos, rfl, hps, hd⟩ := hrel
    have hb : Below w.heap.size w (w.iter s pos) := (Below.refl _ w).alloc (Nat.le_refl _) _
    by_cases hp : pos < s.size
    · have hnx : ∀ ty, (Instr.next (.pointer (some ⟨w.heap.size, 0, none⟩)) true ty).run Tryd.prog (w.iter s pos) = _ := fun ty => run_next_any w s pos ty hp
      by_cases ha : (s[pos]'hp).toNat < 128
      · rw [decode_ascii s pos hp ha] at hnx
        go_wp2
        all_goals first
          | (go_ret; refine ⟨?_, (Below.refl _ w).alloc (Nat.le_refl _) _⟩; rw [digs_no (i := pos) (by omega) (by rw [hat pos hp]; exact dig_out (by omega))]; rfl)
          | (refine ⟨⟨pos + 1, rfl, by omega, ?_⟩, by simp; omega⟩; exact digs_more (by omega) hd (by rw [hat pos hp]; exact dig_in3 (by omega)))
      · have hh := decode_high s pos hp (by omega)
        go_wp2
        all_goals first
          | (exfalso; omega)
          | (go_ret; refine ⟨?_, (Below.refl _ w).alloc (Nat.le_refl _) _⟩; rw [digs_no (i := pos) (by omega) (by rw [hat pos hp]; exact dig_out (by omega))]; rfl)
    · have hnx : ∀ ty, (Instr.next (.pointer (some ⟨w.heap.size, 0, none⟩)) true ty).run Tryd.prog (w.iter s pos) = _ := fun ty => run_next_end w s pos ty hp
      go_wp2
      all_goals (go_ret; refine ⟨?_, (Below.refl _ w).alloc (Nat.le_refl _) _⟩)
      have hd2 : s.data.toList.all isDig = true := by rwa [List.take_of_length_le (by omega)] at hd
      unfold digsB
      rw [hd2, Bool.and_true]
      refine congrArg (fun b => Ending.returned (Value.bool b)) (?_ : _ = _)
      rw [Lib.toList_data]
      cases s.data.toList <;> rfl
theorem digits_ok (s : ByteArray) : FnOk cfg 150 ([vS s].map SV.den) (vB (digsB s.data.toList)).den :=
  fnOk_shelf (rv := Value.bool (digsB s.data.toList)) ⟨_, Tryd.func150, rfl, rfl⟩ rfl (fun M wf => digits_calls s M.w) (fun _ _ => RepI.lit _)
noncomputable def c_digits : SpecF := fun args _ K => match args with
  | [.one (.c (.str s))] => K (vB (digsB s.data.toList)) []
  | _ => none
theorem c_digits_ok : SpecOk cfg 150 c_digits := by
  intro args bx K out h
  unfold c_digits at h
  split at h
  · exact ⟨_, _, h, .inl (digits_ok _ _), by simp [isTupS]⟩
  · cases h
end Go.Proofs.YtldofkogmkfpjaaDoor
