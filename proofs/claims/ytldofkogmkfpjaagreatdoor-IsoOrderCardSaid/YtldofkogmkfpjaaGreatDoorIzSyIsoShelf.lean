/-
  The contracts of Go's library that layer 25 uses, off the kit's shelf.
-/
import Derived.Test.YtldofkogmkfpjaaGreatDoorIzSyTy
import Derived.Test.YtldofkogmkfpjaaGreatDoorPIsoLaw
import Derived.Test.YtldofkogmkfpjaaGreatDoorSyJoin
import Derived.Shelf.Small.Wraps
import Derived.Shelf.Small.Strs
import Derived.Shelf.Strings.Prefix
import Derived.Shelf.Strings.SlTrimAscii
import Derived.Shelf.Strings.Repeat
import Derived.Shelf.Strings.OnBuilder
import Derived.Shelf.Strconv.Atoi
import Derived.Shelf.Strconv.Itoa3
import Derived.Lib.AtoiErrMem
import Derived.WalkKit
import Derived.Laws.RangeAny
import Derived.LoopTactic
namespace Go.Proofs.YtldofkogmkfpjaaGreatDoor
open Go Go.Ev Go.Sy
set_option linter.unusedSimpArgs false
set_option linter.unusedVariables false
set_option maxRecDepth 10000
set_option maxHeartbeats 4000000
open Go.Shelf Go.RowKit Go.Sort
theorem belowG (w : World) (k : Nat) (os : Array Obj) : Below w.heap.size w (grow (w.drewN k) os) :=
  ⟨rfl, rfl, rfl, by show w.heap.size ≤ (w.heap ++ os).size; rw [Array.size_append]; omega, fun j hj => Array.getElem?_append_left hj⟩
def Tryz.l_LaysM_n171_ren : Go.Shelf.Ren := ⟨fun | 171 => 96 | 243 => 138 | 246 => 177 | 283 => 196 | 284 => 197 | 285 => 198 | 286 => 199 | 129 => 225 | 317 => 224 | 318 => 226 | 319 => 227 | 320 => 228 | 337 => 249 | 338 => 250 | n => n, fun | 3 => 3 | 9 => 9 | 2 => 2 | 4 => 4 | 171 => 225 | 0 => 0 | 53 => 59 | 37 => 48 | 5 => 5 | 173 => 228 | 212 => 246 | 51 => 104 | 20 => 20 | 213 => 247 | 46 => 117 | 232 => 285 | 233 => 286 | n => n, fun | 17 => 2 | 18 => 7 | 19 => 8 | n => n⟩
theorem Tryz.l_LaysM_n171 : Go.Proofs.LaysM.n171 Tryz.prog Tryz.l_LaysM_n171_ren := {
  mixed := by kernel_rfl
  f129 := Tryz.func225.trans (congrArg some (by kernel_rfl))
  f171 := Tryz.func96.trans (congrArg some (by kernel_rfl))
  f243 := Tryz.func138.trans (congrArg some (by kernel_rfl))
  f246 := Tryz.func177.trans (congrArg some (by kernel_rfl))
  f283 := Tryz.func196.trans (congrArg some (by kernel_rfl))
  f284 := Tryz.func197.trans (congrArg some (by kernel_rfl))
  f285 := Tryz.func198.trans (congrArg some (by kernel_rfl))
  f286 := Tryz.func199.trans (congrArg some (by kernel_rfl))
  f317 := Tryz.func224.trans (congrArg some (by kernel_rfl))
  f318 := Tryz.func226.trans (congrArg some (by kernel_rfl))
  f319 := Tryz.func227.trans (congrArg some (by kernel_rfl))
  f320 := Tryz.func228.trans (congrArg some (by kernel_rfl))
  f337 := Tryz.func249.trans (congrArg some (by kernel_rfl))
  f338 := Tryz.func250.trans (congrArg some (by kernel_rfl))
  t0 := Tryz.underlying0
  a0 := Tryz.isAgg0
  z0 := Tryz.sizeOf0
  v0 := Tryz.zeroValue0
  t2 := Tryz.underlying2
  a2 := Tryz.isAgg2
  z2 := Tryz.sizeOf2
  v2 := Tryz.zeroValue2
  t3 := Tryz.underlying3
  a3 := Tryz.isAgg3
  z3 := Tryz.sizeOf3
  v3 := Tryz.zeroValue3
  t4 := Tryz.underlying4
  a4 := Tryz.isAgg4
  z4 := Tryz.sizeOf4
  v4 := Tryz.zeroValue4
  t5 := Tryz.underlying5
  a5 := Tryz.isAgg5
  z5 := Tryz.sizeOf5
  v5 := Tryz.zeroValue5
  t9 := Tryz.underlying9
  a9 := Tryz.isAgg9
  z9 := Tryz.sizeOf9
  v9 := Tryz.zeroValue9
  t20 := Tryz.underlying20
  a20 := Tryz.isAgg20
  z20 := Tryz.sizeOf20
  v20 := Tryz.zeroValue20
  t37 := Tryz.underlying48
  a37 := Tryz.isAgg48
  z37 := Tryz.sizeOf48
  v37 := Tryz.zeroValue48
  t46 := Tryz.underlying117
  a46 := Tryz.isAgg117
  z46 := Tryz.sizeOf117
  v46 := Tryz.zeroValue117
  t51 := Tryz.underlying104
  a51 := Tryz.isAgg104
  z51 := Tryz.sizeOf104
  v51 := Tryz.zeroValue104
  t53 := Tryz.underlying59
  a53 := Tryz.isAgg59
  z53 := Tryz.sizeOf59
  v53 := Tryz.zeroValue59
  t171 := Tryz.underlying225
  a171 := Tryz.isAgg225
  z171 := Tryz.sizeOf225
  v171 := Tryz.zeroValue225
  t173 := Tryz.underlying228
  a173 := Tryz.isAgg228
  z173 := Tryz.sizeOf228
  v173 := Tryz.zeroValue228
  t212 := Tryz.underlying246
  a212 := Tryz.isAgg246
  z212 := Tryz.sizeOf246
  v212 := Tryz.zeroValue246
  t213 := Tryz.underlying247
  a213 := Tryz.isAgg247
  z213 := Tryz.sizeOf247
  t232 := Tryz.underlying285
  a232 := Tryz.isAgg285
  z232 := Tryz.sizeOf285
  v232 := Tryz.zeroValue285
  t233 := Tryz.underlying286
  a233 := Tryz.isAgg286
  z233 := Tryz.sizeOf286
  v233 := Tryz.zeroValue286
  g17 := by kernel_rfl
  g18 := by kernel_rfl
  g19 := by kernel_rfl
  i0 := by kernel_rfl
  i2 := by kernel_rfl
  i3 := by kernel_rfl
  i4 := by kernel_rfl
  i5 := by kernel_rfl
  i9 := by kernel_rfl
  i20 := by kernel_rfl
  i37 := by kernel_rfl
  i46 := by kernel_rfl
  i51 := by kernel_rfl
  i53 := by kernel_rfl
  i171 := by kernel_rfl
  i173 := by kernel_rfl
  i212 := by kernel_rfl
  i232 := by kernel_rfl
  i233 := by kernel_rfl
  m17 := by kernel_rfl
  m18 := by kernel_rfl
  m19 := by kernel_rfl }
theorem itoa_ok (n : Int) (hp : isH n) : FnOk cfg 96 ([vI n].map SV.den) (vS (tx (Lib.itoa n)) : SV).den :=
  fnOk_shelf (rv := Value.string (tx (Lib.itoa n))) ⟨_, Tryz.func96, rfl, rfl⟩ rfl (fun M wf => (Any.strconv_Itoa Tryz.l_LaysM_n171 n hp.1 (by have := hp.2; omega) M.w (fix_var wf (g := 2) rfl (by kernel_rfl) (by decide))).mono fun e w' ⟨h, k, os, hw⟩ => ⟨h, hw ▸ belowG _ _ _⟩) (fun _ _ => RepI.lit _)
noncomputable def c_itoa : SpecF := fun args _ K => match args with
  | [.one (.c (.int .i64 n))] => bif decide (isH n) then K (vS (tx (Lib.itoa n))) [] else none
  | _ => none
theorem c_itoa_ok : SpecOk cfg 96 c_itoa := by
  intro args bx K out h
  unfold c_itoa at h
  split at h
  · obtain ⟨hp, h⟩ := bif_some h
    exact ⟨_, _, h, .inl (itoa_ok _ (of_decide_eq_true hp) _), by simp [isTupS]⟩
  · cases h
def Tryz.l_Lays_n105_ren : Go.Shelf.Ren := ⟨fun | 105 => 97 | 212 => 139 | 99 => 140 | 165 => 99 | 166 => 72 | 170 => 141 | 169 => 76 | 263 => 178 | 264 => 179 | 206 => 180 | 240 => 109 | 241 => 146 | 276 => 153 | 277 => 184 | n => n, fun | 9 => 9 | 3 => 3 | 4 => 4 | 20 => 20 | 0 => 0 | 46 => 117 | 109 => 176 | 5 => 5 | 72 => 98 | 76 => 101 | 51 => 104 | 146 => 210 | 53 => 59 | 148 => 212 | 70 => 96 | 37 => 48 | 75 => 100 | 127 => 151 | 164 => 187 | 80 => 108 | n => n, fun | n => n⟩
theorem Tryz.l_Lays_n105 : Go.Proofs.Lays.n105 Tryz.prog Tryz.l_Lays_n105_ren := {
  mixed := by kernel_rfl
  f99 := Tryz.func140.trans (congrArg some (by kernel_rfl))
  f105 := Tryz.func97.trans (congrArg some (by kernel_rfl))
  f165 := Tryz.func99.trans (congrArg some (by kernel_rfl))
  f166 := Tryz.func72.trans (congrArg some (by kernel_rfl))
  f169 := Tryz.func76.trans (congrArg some (by kernel_rfl))
  f170 := Tryz.func141.trans (congrArg some (by kernel_rfl))
  f206 := Tryz.func180.trans (congrArg some (by kernel_rfl))
  f212 := Tryz.func139.trans (congrArg some (by kernel_rfl))
  f240 := Tryz.func109.trans (congrArg some (by kernel_rfl))
  f241 := Tryz.func146.trans (congrArg some (by kernel_rfl))
  f263 := Tryz.func178.trans (congrArg some (by kernel_rfl))
  f264 := Tryz.func179.trans (congrArg some (by kernel_rfl))
  f276 := Tryz.func153.trans (congrArg some (by kernel_rfl))
  f277 := Tryz.func184.trans (congrArg some (by kernel_rfl))
  t0 := Tryz.underlying0
  a0 := Tryz.isAgg0
  z0 := Tryz.sizeOf0
  v0 := Tryz.zeroValue0
  t3 := Tryz.underlying3
  a3 := Tryz.isAgg3
  z3 := Tryz.sizeOf3
  v3 := Tryz.zeroValue3
  t4 := Tryz.underlying4
  a4 := Tryz.isAgg4
  z4 := Tryz.sizeOf4
  v4 := Tryz.zeroValue4
  t5 := Tryz.underlying5
  a5 := Tryz.isAgg5
  z5 := Tryz.sizeOf5
  v5 := Tryz.zeroValue5
  t9 := Tryz.underlying9
  a9 := Tryz.isAgg9
  z9 := Tryz.sizeOf9
  v9 := Tryz.zeroValue9
  t20 := Tryz.underlying20
  a20 := Tryz.isAgg20
  z20 := Tryz.sizeOf20
  v20 := Tryz.zeroValue20
  t37 := Tryz.underlying48
  a37 := Tryz.isAgg48
  z37 := Tryz.sizeOf48
  v37 := Tryz.zeroValue48
  t46 := Tryz.underlying117
  a46 := Tryz.isAgg117
  z46 := Tryz.sizeOf117
  v46 := Tryz.zeroValue117
  t51 := Tryz.underlying104
  a51 := Tryz.isAgg104
  z51 := Tryz.sizeOf104
  v51 := Tryz.zeroValue104
  t53 := Tryz.underlying59
  a53 := Tryz.isAgg59
  z53 := Tryz.sizeOf59
  v53 := Tryz.zeroValue59
  t70 := Tryz.underlying96
  a70 := Tryz.isAgg96
  z70 := Tryz.sizeOf96
  v70 := Tryz.zeroValue96
  t72 := Tryz.underlying98
  a72 := Tryz.isAgg98
  z72 := Tryz.sizeOf98
  v72 := Tryz.zeroValue98
  t75 := Tryz.underlying100
  a75 := Tryz.isAgg100
  z75 := Tryz.sizeOf100
  v75 := Tryz.zeroValue100
  t76 := Tryz.underlying101
  a76 := Tryz.isAgg101
  z76 := Tryz.sizeOf101
  v76 := Tryz.zeroValue101
  t109 := Tryz.underlying176
  a109 := Tryz.isAgg176
  z109 := Tryz.sizeOf176
  v109 := Tryz.zeroValue176
  t127 := Tryz.underlying151
  a127 := Tryz.isAgg151
  z127 := Tryz.sizeOf151
  v127 := Tryz.zeroValue151
  t146 := Tryz.underlying210
  a146 := Tryz.isAgg210
  z146 := Tryz.sizeOf210
  v146 := Tryz.zeroValue210
  t148 := Tryz.underlying212
  a148 := Tryz.isAgg212
  z148 := Tryz.sizeOf212
  v148 := Tryz.zeroValue212
  t164 := Tryz.underlying187
  a164 := Tryz.isAgg187
  z164 := Tryz.sizeOf187
  v164 := Tryz.zeroValue187 }
theorem X105 : Builder.Extra Tryz.prog Tryz.l_Lays_n105_ren := {
  sizeBuilder := by kernel_rfl
  liesBuilder := by kernel_rfl
  t5 := Tryz.underlying5
  a5 := Tryz.isAgg5
  z5 := Tryz.sizeOf5
  v5 := Tryz.zeroValue5
  infoByte := by kernel_rfl
  cellsByte := by kernel_rfl
  sizeByte := by kernel_rfl
  neB5 := by decide }
theorem rept_ok (s : ByteArray) (n : Int) (hp : 0 ≤ n ∧ n ≤ 1000000 ∧ s.size * n.toNat ≤ 140737488355328) : FnOk cfg 97 ([vS s, vI n].map SV.den) (vS (tx (Lib.repeatL s.data.toList n.toNat)) : SV).den :=
  fnOk_shelf (rv := Value.string (tx (Lib.repeatL s.data.toList n.toNat))) ⟨_, Tryz.func97, rfl, rfl⟩ rfl (fun M wf => by obtain ⟨c, rfl⟩ := Int.eq_ofNat_of_zero_le hp.1; exact Any.strings_Repeat Tryz.l_Lays_n105 X105 s c M.w (by have := hp.2.1; omega) (by have := hp.2.2; rw [Int.toNat_natCast] at this; exact this)) (fun _ _ => RepI.lit _)
noncomputable def c_rept : SpecF := fun args _ K => match args with
  | [.one (.c (.str s)), .one (.c (.int .i64 n))] => bif decide (0 ≤ n ∧ n ≤ 1000000 ∧ s.size * n.toNat ≤ 140737488355328) then K (vS (tx (Lib.repeatL s.data.toList n.toNat))) [] else none
  | _ => none
theorem c_rept_ok : SpecOk cfg 97 c_rept := by
  intro args bx K out h
  unfold c_rept at h
  split at h
  · obtain ⟨hp, h⟩ := bif_some h
    exact ⟨_, _, h, .inl (rept_ok _ _ (of_decide_eq_true hp) _), by simp [isTupS]⟩
  · cases h
theorem ascii_all {p : ByteArray} (h : (p.data.toList.all fun b => decide (b.toNat < 128)) = true) : ∀ (j : Nat) b, p.data.toList[j]? = some b → b.toNat < 128 := fun j b e => by
  rw [List.all_eq_true] at h
  exact of_decide_eq_true (h b (List.mem_of_getElem? e))
def Tryz.l_Lays_n103_ren : Go.Shelf.Ren := ⟨fun | 103 => 123 | 210 => 169 | 206 => 180 | n => n, fun | 9 => 9 | 4 => 4 | 24 => 142 | 3 => 3 | n => n, fun | n => n⟩
theorem Tryz.l_Lays_n103 : Go.Proofs.Lays.n103 Tryz.prog Tryz.l_Lays_n103_ren := {
  mixed := by kernel_rfl
  f103 := Tryz.func123.trans (congrArg some (by kernel_rfl))
  f206 := Tryz.func180.trans (congrArg some (by kernel_rfl))
  f210 := Tryz.func169.trans (congrArg some (by kernel_rfl))
  t3 := Tryz.underlying3
  a3 := Tryz.isAgg3
  z3 := Tryz.sizeOf3
  v3 := Tryz.zeroValue3
  t4 := Tryz.underlying4
  a4 := Tryz.isAgg4
  z4 := Tryz.sizeOf4
  v4 := Tryz.zeroValue4
  t9 := Tryz.underlying9
  a9 := Tryz.isAgg9
  z9 := Tryz.sizeOf9
  v9 := Tryz.zeroValue9
  t24 := Tryz.underlying142
  a24 := Tryz.isAgg142
  z24 := Tryz.sizeOf142
  v24 := Tryz.zeroValue142 }
theorem cutp_ok (s : ByteArray) (p : ByteArray) : FnOk cfg 123 ([vS s, vS p].map SV.den) (.tup [tS (tx (Lib.trimPrefix s.data.toList p.data.toList)), tB (Lib.hasPrefix s.data.toList p.data.toList)] : SV).den :=
  fnOk_shelf (rv := Value.tuple #[.string (tx (Lib.trimPrefix s.data.toList p.data.toList)), .bool (Lib.hasPrefix s.data.toList p.data.toList)]) ⟨_, Tryz.func123, rfl, rfl⟩ rfl (fun M wf => (Any.strings_CutPrefix Tryz.l_Lays_n103 s p M.w).mono fun e w' h => ⟨h.1, h.2 ▸ Below.refl _ _⟩) (fun _ _ => repT _ (by intro x hx; simp at hx; rcases hx with rfl | rfl <;> rfl))
noncomputable def c_cutp : SpecF := fun args _ K => match args with
  | [.one (.c (.str s)), .one (.c (.str p))] => K (.tup [tS (tx (Lib.trimPrefix s.data.toList p.data.toList)), tB (Lib.hasPrefix s.data.toList p.data.toList)]) []
  | _ => none
theorem c_cutp_ok : SpecOk cfg 123 c_cutp := by
  intro args bx K out h
  unfold c_cutp at h
  split at h
  · exact ⟨_, _, h, .inl (cutp_ok _ _ _), by simp [isTupS]⟩
  · cases h
def Tryz.l_Lays_n104_ren : Go.Shelf.Ren := ⟨fun | 104 => 100 | 211 => 147 | 207 => 185 | n => n, fun | 9 => 9 | 4 => 4 | 24 => 142 | 3 => 3 | n => n, fun | n => n⟩
theorem Tryz.l_Lays_n104 : Go.Proofs.Lays.n104 Tryz.prog Tryz.l_Lays_n104_ren := {
  mixed := by kernel_rfl
  f104 := Tryz.func100.trans (congrArg some (by kernel_rfl))
  f207 := Tryz.func185.trans (congrArg some (by kernel_rfl))
  f211 := Tryz.func147.trans (congrArg some (by kernel_rfl))
  t3 := Tryz.underlying3
  a3 := Tryz.isAgg3
  z3 := Tryz.sizeOf3
  v3 := Tryz.zeroValue3
  t4 := Tryz.underlying4
  a4 := Tryz.isAgg4
  z4 := Tryz.sizeOf4
  v4 := Tryz.zeroValue4
  t9 := Tryz.underlying9
  a9 := Tryz.isAgg9
  z9 := Tryz.sizeOf9
  v9 := Tryz.zeroValue9
  t24 := Tryz.underlying142
  a24 := Tryz.isAgg142
  z24 := Tryz.sizeOf142
  v24 := Tryz.zeroValue142 }
theorem cuts_ok (s : ByteArray) (p : ByteArray) (hp : s.size ≤ 9223372036854775807) : FnOk cfg 100 ([vS s, vS p].map SV.den) (.tup [tS (tx (Lib.trimSuffix s.data.toList p.data.toList)), tB (Lib.hasSuffix s.data.toList p.data.toList)] : SV).den :=
  fnOk_shelf (rv := Value.tuple #[.string (tx (Lib.trimSuffix s.data.toList p.data.toList)), .bool (Lib.hasSuffix s.data.toList p.data.toList)]) ⟨_, Tryz.func100, rfl, rfl⟩ rfl (fun M wf => (Any.strings_CutSuffix Tryz.l_Lays_n104 s p M.w hp).mono fun e w' h => ⟨h.1, h.2 ▸ Below.refl _ _⟩) (fun _ _ => repT _ (by intro x hx; simp at hx; rcases hx with rfl | rfl <;> rfl))
noncomputable def c_cuts : SpecF := fun args _ K => match args with
  | [.one (.c (.str s)), .one (.c (.str p))] => bif decide (s.size ≤ 9223372036854775807) then K (.tup [tS (tx (Lib.trimSuffix s.data.toList p.data.toList)), tB (Lib.hasSuffix s.data.toList p.data.toList)]) [] else none
  | _ => none
theorem c_cuts_ok : SpecOk cfg 100 c_cuts := by
  intro args bx K out h
  unfold c_cuts at h
  split at h
  · obtain ⟨hp, h⟩ := bif_some h
    exact ⟨_, _, h, .inl (cuts_ok _ _ (of_decide_eq_true hp) _), by simp [isTupS]⟩
  · cases h
def Tryz.l_Lays_n137_ren : Go.Shelf.Ren := ⟨fun | 137 => 101 | 217 => 148 | 266 => 186 | n => n, fun | 9 => 9 | 5 => 5 | 3 => 3 | n => n, fun | n => n⟩
theorem Tryz.l_Lays_n137 : Go.Proofs.Lays.n137 Tryz.prog Tryz.l_Lays_n137_ren := {
  mixed := by kernel_rfl
  f137 := Tryz.func101.trans (congrArg some (by kernel_rfl))
  f217 := Tryz.func148.trans (congrArg some (by kernel_rfl))
  f266 := Tryz.func186.trans (congrArg some (by kernel_rfl))
  t3 := Tryz.underlying3
  a3 := Tryz.isAgg3
  z3 := Tryz.sizeOf3
  v3 := Tryz.zeroValue3
  t5 := Tryz.underlying5
  a5 := Tryz.isAgg5
  z5 := Tryz.sizeOf5
  v5 := Tryz.zeroValue5
  t9 := Tryz.underlying9
  a9 := Tryz.isAgg9
  z9 := Tryz.sizeOf9
  v9 := Tryz.zeroValue9 }
theorem ixb_ok (s : ByteArray) (c : Int) : FnOk cfg 101 ([vS s, c1 (.int .u8 c)].map SV.den) (vI (Lib.indexByte s.data.toList c.toNat.toUInt8) : SV).den :=
  fnOk_shelf (rv := Value.int .i64 (Lib.indexByte s.data.toList c.toNat.toUInt8)) ⟨_, Tryz.func101, rfl, rfl⟩ rfl (fun M wf => (Any.strings_IndexByte Tryz.l_Lays_n137 s c M.w).mono fun e w' h => ⟨h.1, h.2 ▸ Below.refl _ _⟩) (fun _ _ => RepI.lit _)
noncomputable def c_ixb : SpecF := fun args _ K => match args with
  | [.one (.c (.str s)), .one (.c (.int .u8 c))] => K (vI (Lib.indexByte s.data.toList c.toNat.toUInt8)) []
  | _ => none
theorem c_ixb_ok : SpecOk cfg 101 c_ixb := by
  intro args bx K out h
  unfold c_ixb at h
  split at h
  · exact ⟨_, _, h, .inl (ixb_ok _ _ _), by simp [isTupS]⟩
  · cases h
def Tryz.l_Lays_n161_ren : Go.Shelf.Ren := ⟨fun | 161 => 149 | 231 => 187 | 227 => 143 | 233 => 188 | 235 => 189 | 228 => 181 | 197 => 217 | 151 => 183 | 260 => 244 | 152 => 218 | 137 => 101 | 119 => 245 | 224 => 208 | 225 => 207 | 217 => 148 | 266 => 186 | n => n, fun | 9 => 9 | 4 => 4 | 3 => 3 | 5 => 5 | 117 => 182 | 116 => 181 | 0 => 0 | 124 => 185 | 105 => 214 | 21 => 21 | 119 => 277 | 46 => 117 | 139 => 280 | 138 => 279 | n => n, fun | 3 => 5 | 4 => 6 | n => n⟩
theorem Tryz.l_Lays_n161 : Go.Proofs.Lays.n161 Tryz.prog Tryz.l_Lays_n161_ren := {
  mixed := by kernel_rfl
  f119 := Tryz.func245.trans (congrArg some (by kernel_rfl))
  f137 := Tryz.func101.trans (congrArg some (by kernel_rfl))
  f151 := Tryz.func183.trans (congrArg some (by kernel_rfl))
  f152 := Tryz.func218.trans (congrArg some (by kernel_rfl))
  f161 := Tryz.func149.trans (congrArg some (by kernel_rfl))
  f197 := Tryz.func217.trans (congrArg some (by kernel_rfl))
  f217 := Tryz.func148.trans (congrArg some (by kernel_rfl))
  f224 := Tryz.func208.trans (congrArg some (by kernel_rfl))
  f225 := Tryz.func207.trans (congrArg some (by kernel_rfl))
  f227 := Tryz.func143.trans (congrArg some (by kernel_rfl))
  f228 := Tryz.func181.trans (congrArg some (by kernel_rfl))
  f231 := Tryz.func187.trans (congrArg some (by kernel_rfl))
  f233 := Tryz.func188.trans (congrArg some (by kernel_rfl))
  f235 := Tryz.func189.trans (congrArg some (by kernel_rfl))
  f260 := Tryz.func244.trans (congrArg some (by kernel_rfl))
  f266 := Tryz.func186.trans (congrArg some (by kernel_rfl))
  t0 := Tryz.underlying0
  a0 := Tryz.isAgg0
  z0 := Tryz.sizeOf0
  v0 := Tryz.zeroValue0
  t3 := Tryz.underlying3
  a3 := Tryz.isAgg3
  z3 := Tryz.sizeOf3
  v3 := Tryz.zeroValue3
  t4 := Tryz.underlying4
  a4 := Tryz.isAgg4
  z4 := Tryz.sizeOf4
  v4 := Tryz.zeroValue4
  t5 := Tryz.underlying5
  a5 := Tryz.isAgg5
  z5 := Tryz.sizeOf5
  v5 := Tryz.zeroValue5
  t9 := Tryz.underlying9
  a9 := Tryz.isAgg9
  z9 := Tryz.sizeOf9
  v9 := Tryz.zeroValue9
  t21 := Tryz.underlying21
  a21 := Tryz.isAgg21
  z21 := Tryz.sizeOf21
  v21 := Tryz.zeroValue21
  t46 := Tryz.underlying117
  a46 := Tryz.isAgg117
  z46 := Tryz.sizeOf117
  v46 := Tryz.zeroValue117
  t105 := Tryz.underlying214
  a105 := Tryz.isAgg214
  z105 := Tryz.sizeOf214
  v105 := Tryz.zeroValue214
  t116 := Tryz.underlying181
  a116 := Tryz.isAgg181
  z116 := Tryz.sizeOf181
  t117 := Tryz.underlying182
  a117 := Tryz.isAgg182
  z117 := Tryz.sizeOf182
  v117 := Tryz.zeroValue182
  t119 := Tryz.underlying277
  a119 := Tryz.isAgg277
  z119 := Tryz.sizeOf277
  t124 := Tryz.underlying185
  a124 := Tryz.isAgg185
  z124 := Tryz.sizeOf185
  v124 := Tryz.zeroValue185
  t138 := Tryz.underlying279
  a138 := Tryz.isAgg279
  z138 := Tryz.sizeOf279
  v138 := Tryz.zeroValue279
  t139 := Tryz.underlying280
  a139 := Tryz.isAgg280
  z139 := Tryz.sizeOf280
  v139 := Tryz.zeroValue280
  g3 := by kernel_rfl
  g4 := by kernel_rfl }
theorem triml_ok (s : ByteArray) (p : ByteArray) (hp : (p.data.toList.all fun b => decide (b.toNat < 128)) = true ∧ p.size ≤ 100) : FnOk cfg 149 ([vS s, vS p].map SV.den) (vS (tx (Lib.trimLeftS s.data.toList p.data.toList)) : SV).den :=
  fnOk_shelf (rv := Value.string (tx (Lib.trimLeftS s.data.toList p.data.toList))) ⟨_, Tryz.func149, rfl, rfl⟩ rfl (fun M wf => Any.strings_TrimLeft_laid Tryz.l_Lays_n161 (by kernel_rfl) s p M.w (by have := hp.2; omega) (ascii_all hp.1)) (fun _ _ => RepI.lit _)
noncomputable def c_triml : SpecF := fun args _ K => match args with
  | [.one (.c (.str s)), .one (.c (.str p))] => bif decide ((p.data.toList.all fun b => decide (b.toNat < 128)) = true ∧ p.size ≤ 100) then K (vS (tx (Lib.trimLeftS s.data.toList p.data.toList))) [] else none
  | _ => none
theorem c_triml_ok : SpecOk cfg 149 c_triml := by
  intro args bx K out h
  unfold c_triml at h
  split at h
  · obtain ⟨hp, h⟩ := bif_some h
    exact ⟨_, _, h, .inl (triml_ok _ _ (of_decide_eq_true hp) _), by simp [isTupS]⟩
  · cases h
def Tryz.l_Lays_n162_ren : Go.Shelf.Ren := ⟨fun | 162 => 98 | 232 => 142 | 227 => 143 | 234 => 144 | 236 => 145 | 228 => 181 | 271 => 182 | 151 => 183 | 120 => 216 | 197 => 217 | 152 => 218 | 260 => 244 | 137 => 101 | 119 => 245 | 224 => 208 | 225 => 207 | 217 => 148 | 266 => 186 | n => n, fun | 9 => 9 | 4 => 4 | 3 => 3 | 5 => 5 | 117 => 182 | 116 => 181 | 0 => 0 | 124 => 185 | 21 => 21 | 105 => 214 | 46 => 117 | 119 => 277 | 139 => 280 | 138 => 279 | n => n, fun | 3 => 5 | 4 => 6 | n => n⟩
theorem Tryz.l_Lays_n162 : Go.Proofs.Lays.n162 Tryz.prog Tryz.l_Lays_n162_ren := {
  mixed := by kernel_rfl
  f119 := Tryz.func245.trans (congrArg some (by kernel_rfl))
  f120 := Tryz.func216.trans (congrArg some (by kernel_rfl))
  f137 := Tryz.func101.trans (congrArg some (by kernel_rfl))
  f151 := Tryz.func183.trans (congrArg some (by kernel_rfl))
  f152 := Tryz.func218.trans (congrArg some (by kernel_rfl))
  f162 := Tryz.func98.trans (congrArg some (by kernel_rfl))
  f197 := Tryz.func217.trans (congrArg some (by kernel_rfl))
  f217 := Tryz.func148.trans (congrArg some (by kernel_rfl))
  f224 := Tryz.func208.trans (congrArg some (by kernel_rfl))
  f225 := Tryz.func207.trans (congrArg some (by kernel_rfl))
  f227 := Tryz.func143.trans (congrArg some (by kernel_rfl))
  f228 := Tryz.func181.trans (congrArg some (by kernel_rfl))
  f232 := Tryz.func142.trans (congrArg some (by kernel_rfl))
  f234 := Tryz.func144.trans (congrArg some (by kernel_rfl))
  f236 := Tryz.func145.trans (congrArg some (by kernel_rfl))
  f260 := Tryz.func244.trans (congrArg some (by kernel_rfl))
  f266 := Tryz.func186.trans (congrArg some (by kernel_rfl))
  f271 := Tryz.func182.trans (congrArg some (by kernel_rfl))
  t0 := Tryz.underlying0
  a0 := Tryz.isAgg0
  z0 := Tryz.sizeOf0
  v0 := Tryz.zeroValue0
  t3 := Tryz.underlying3
  a3 := Tryz.isAgg3
  z3 := Tryz.sizeOf3
  v3 := Tryz.zeroValue3
  t4 := Tryz.underlying4
  a4 := Tryz.isAgg4
  z4 := Tryz.sizeOf4
  v4 := Tryz.zeroValue4
  t5 := Tryz.underlying5
  a5 := Tryz.isAgg5
  z5 := Tryz.sizeOf5
  v5 := Tryz.zeroValue5
  t9 := Tryz.underlying9
  a9 := Tryz.isAgg9
  z9 := Tryz.sizeOf9
  v9 := Tryz.zeroValue9
  t21 := Tryz.underlying21
  a21 := Tryz.isAgg21
  z21 := Tryz.sizeOf21
  v21 := Tryz.zeroValue21
  t46 := Tryz.underlying117
  a46 := Tryz.isAgg117
  z46 := Tryz.sizeOf117
  v46 := Tryz.zeroValue117
  t105 := Tryz.underlying214
  a105 := Tryz.isAgg214
  z105 := Tryz.sizeOf214
  v105 := Tryz.zeroValue214
  t116 := Tryz.underlying181
  a116 := Tryz.isAgg181
  z116 := Tryz.sizeOf181
  t117 := Tryz.underlying182
  a117 := Tryz.isAgg182
  z117 := Tryz.sizeOf182
  v117 := Tryz.zeroValue182
  t119 := Tryz.underlying277
  a119 := Tryz.isAgg277
  z119 := Tryz.sizeOf277
  t124 := Tryz.underlying185
  a124 := Tryz.isAgg185
  z124 := Tryz.sizeOf185
  v124 := Tryz.zeroValue185
  t138 := Tryz.underlying279
  a138 := Tryz.isAgg279
  z138 := Tryz.sizeOf279
  v138 := Tryz.zeroValue279
  t139 := Tryz.underlying280
  a139 := Tryz.isAgg280
  z139 := Tryz.sizeOf280
  v139 := Tryz.zeroValue280
  g3 := by kernel_rfl
  g4 := by kernel_rfl }
theorem trimr_ok (s : ByteArray) (p : ByteArray) (hp : s.size ≤ 9223372036854775807 ∧ (p.data.toList.all fun b => decide (b.toNat < 128)) = true ∧ p.size ≤ 100) : FnOk cfg 98 ([vS s, vS p].map SV.den) (vS (tx (Lib.trimRightS s.data.toList p.data.toList)) : SV).den :=
  fnOk_shelf (rv := Value.string (tx (Lib.trimRightS s.data.toList p.data.toList))) ⟨_, Tryz.func98, rfl, rfl⟩ rfl (fun M wf => Any.strings_TrimRight_laid Tryz.l_Lays_n162 (by kernel_rfl) s p M.w hp.1 (by have := hp.2.2; omega) (ascii_all hp.2.1)) (fun _ _ => RepI.lit _)
noncomputable def c_trimr : SpecF := fun args _ K => match args with
  | [.one (.c (.str s)), .one (.c (.str p))] => bif decide (s.size ≤ 9223372036854775807 ∧ (p.data.toList.all fun b => decide (b.toNat < 128)) = true ∧ p.size ≤ 100) then K (vS (tx (Lib.trimRightS s.data.toList p.data.toList))) [] else none
  | _ => none
theorem c_trimr_ok : SpecOk cfg 98 c_trimr := by
  intro args bx K out h
  unfold c_trimr at h
  split at h
  · obtain ⟨hp, h⟩ := bif_some h
    exact ⟨_, _, h, .inl (trimr_ok _ _ (of_decide_eq_true hp) _), by simp [isTupS]⟩
  · cases h
def Tryz.l_Lays_n172_ren : Go.Shelf.Ren := ⟨fun | 172 => 151 | 244 => 190 | 245 => 191 | 247 => 219 | 279 => 220 | 280 => 221 | 281 => 222 | 282 => 223 | 287 => 246 | 316 => 247 | 171 => 96 | 205 => 248 | 321 => 260 | 322 => 261 | 243 => 138 | 246 => 177 | 283 => 196 | 284 => 197 | 285 => 198 | 286 => 199 | 129 => 225 | 317 => 224 | 318 => 226 | 319 => 227 | 320 => 228 | 337 => 249 | 338 => 250 | n => n, fun | 9 => 9 | 3 => 3 | 75 => 100 | 76 => 101 | 4 => 4 | 5 => 5 | 167 => 240 | 37 => 48 | 0 => 0 | 85 => 241 | 2 => 2 | 168 => 243 | 53 => 59 | 175 => 250 | 46 => 117 | 210 => 266 | 127 => 151 | 145 => 284 | 143 => 282 | 21 => 21 | 171 => 225 | 173 => 228 | 212 => 246 | 51 => 104 | 20 => 20 | 213 => 247 | 232 => 285 | 233 => 286 | 80 => 108 | n => n, fun | 15 => 3 | 16 => 4 | 17 => 2 | 18 => 7 | 19 => 8 | n => n⟩
theorem Tryz.l_Lays_n172 : Go.Proofs.Lays.n172 Tryz.prog Tryz.l_Lays_n172_ren := {
  mixed := by kernel_rfl
  f129 := Tryz.func225.trans (congrArg some (by kernel_rfl))
  f171 := Tryz.func96.trans (congrArg some (by kernel_rfl))
  f172 := Tryz.func151.trans (congrArg some (by kernel_rfl))
  f205 := Tryz.func248.trans (congrArg some (by kernel_rfl))
  f243 := Tryz.func138.trans (congrArg some (by kernel_rfl))
  f244 := Tryz.func190.trans (congrArg some (by kernel_rfl))
  f245 := Tryz.func191.trans (congrArg some (by kernel_rfl))
  f246 := Tryz.func177.trans (congrArg some (by kernel_rfl))
  f247 := Tryz.func219.trans (congrArg some (by kernel_rfl))
  f279 := Tryz.func220.trans (congrArg some (by kernel_rfl))
  f280 := Tryz.func221.trans (congrArg some (by kernel_rfl))
  f281 := Tryz.func222.trans (congrArg some (by kernel_rfl))
  f282 := Tryz.func223.trans (congrArg some (by kernel_rfl))
  f283 := Tryz.func196.trans (congrArg some (by kernel_rfl))
  f284 := Tryz.func197.trans (congrArg some (by kernel_rfl))
  f285 := Tryz.func198.trans (congrArg some (by kernel_rfl))
  f286 := Tryz.func199.trans (congrArg some (by kernel_rfl))
  f287 := Tryz.func246.trans (congrArg some (by kernel_rfl))
  f316 := Tryz.func247.trans (congrArg some (by kernel_rfl))
  f317 := Tryz.func224.trans (congrArg some (by kernel_rfl))
  f318 := Tryz.func226.trans (congrArg some (by kernel_rfl))
  f319 := Tryz.func227.trans (congrArg some (by kernel_rfl))
  f320 := Tryz.func228.trans (congrArg some (by kernel_rfl))
  f321 := Tryz.func260.trans (congrArg some (by kernel_rfl))
  f322 := Tryz.func261.trans (congrArg some (by kernel_rfl))
  f337 := Tryz.func249.trans (congrArg some (by kernel_rfl))
  f338 := Tryz.func250.trans (congrArg some (by kernel_rfl))
  t0 := Tryz.underlying0
  a0 := Tryz.isAgg0
  z0 := Tryz.sizeOf0
  v0 := Tryz.zeroValue0
  t2 := Tryz.underlying2
  a2 := Tryz.isAgg2
  z2 := Tryz.sizeOf2
  v2 := Tryz.zeroValue2
  t3 := Tryz.underlying3
  a3 := Tryz.isAgg3
  z3 := Tryz.sizeOf3
  v3 := Tryz.zeroValue3
  t4 := Tryz.underlying4
  a4 := Tryz.isAgg4
  z4 := Tryz.sizeOf4
  v4 := Tryz.zeroValue4
  t5 := Tryz.underlying5
  a5 := Tryz.isAgg5
  z5 := Tryz.sizeOf5
  v5 := Tryz.zeroValue5
  t9 := Tryz.underlying9
  a9 := Tryz.isAgg9
  z9 := Tryz.sizeOf9
  v9 := Tryz.zeroValue9
  t20 := Tryz.underlying20
  a20 := Tryz.isAgg20
  z20 := Tryz.sizeOf20
  v20 := Tryz.zeroValue20
  t21 := Tryz.underlying21
  a21 := Tryz.isAgg21
  z21 := Tryz.sizeOf21
  v21 := Tryz.zeroValue21
  t37 := Tryz.underlying48
  a37 := Tryz.isAgg48
  z37 := Tryz.sizeOf48
  v37 := Tryz.zeroValue48
  t46 := Tryz.underlying117
  a46 := Tryz.isAgg117
  z46 := Tryz.sizeOf117
  v46 := Tryz.zeroValue117
  t51 := Tryz.underlying104
  a51 := Tryz.isAgg104
  z51 := Tryz.sizeOf104
  v51 := Tryz.zeroValue104
  t53 := Tryz.underlying59
  a53 := Tryz.isAgg59
  z53 := Tryz.sizeOf59
  v53 := Tryz.zeroValue59
  t75 := Tryz.underlying100
  a75 := Tryz.isAgg100
  z75 := Tryz.sizeOf100
  v75 := Tryz.zeroValue100
  t76 := Tryz.underlying101
  a76 := Tryz.isAgg101
  z76 := Tryz.sizeOf101
  v76 := Tryz.zeroValue101
  t85 := Tryz.underlying241
  a85 := Tryz.isAgg241
  z85 := Tryz.sizeOf241
  v85 := Tryz.zeroValue241
  t127 := Tryz.underlying151
  a127 := Tryz.isAgg151
  z127 := Tryz.sizeOf151
  v127 := Tryz.zeroValue151
  t143 := Tryz.underlying282
  a143 := Tryz.isAgg282
  z143 := Tryz.sizeOf282
  v143 := Tryz.zeroValue282
  t145 := Tryz.underlying284
  a145 := Tryz.isAgg284
  z145 := Tryz.sizeOf284
  v145 := Tryz.zeroValue284
  t167 := Tryz.underlying240
  a167 := Tryz.isAgg240
  z167 := Tryz.sizeOf240
  v167 := Tryz.zeroValue240
  t168 := Tryz.underlying243
  a168 := Tryz.isAgg243
  z168 := Tryz.sizeOf243
  v168 := Tryz.zeroValue243
  t171 := Tryz.underlying225
  a171 := Tryz.isAgg225
  z171 := Tryz.sizeOf225
  v171 := Tryz.zeroValue225
  t173 := Tryz.underlying228
  a173 := Tryz.isAgg228
  z173 := Tryz.sizeOf228
  v173 := Tryz.zeroValue228
  t175 := Tryz.underlying250
  a175 := Tryz.isAgg250
  z175 := Tryz.sizeOf250
  v175 := Tryz.zeroValue250
  t210 := Tryz.underlying266
  a210 := Tryz.isAgg266
  z210 := Tryz.sizeOf266
  v210 := Tryz.zeroValue266
  t212 := Tryz.underlying246
  a212 := Tryz.isAgg246
  z212 := Tryz.sizeOf246
  v212 := Tryz.zeroValue246
  t213 := Tryz.underlying247
  a213 := Tryz.isAgg247
  z213 := Tryz.sizeOf247
  t232 := Tryz.underlying285
  a232 := Tryz.isAgg285
  z232 := Tryz.sizeOf285
  v232 := Tryz.zeroValue285
  t233 := Tryz.underlying286
  a233 := Tryz.isAgg286
  z233 := Tryz.sizeOf286
  v233 := Tryz.zeroValue286
  g15 := by kernel_rfl
  g16 := by kernel_rfl
  g17 := by kernel_rfl
  g18 := by kernel_rfl
  g19 := by kernel_rfl }
theorem atoi_ok (s : ByteArray) (hp : s.size ≤ 18 ∧ (Lib.atoi s.data.toList).isSome = true) : FnOk cfg 151 ([vS s].map SV.den) (.tup [tI ((Lib.atoi s.data.toList).getD 0), .c (.val .nilIface)] : SV).den :=
  fnOk_shelf (rv := Value.tuple #[.int .i64 ((Lib.atoi s.data.toList).getD 0), .nilIface]) ⟨_, Tryz.func151, rfl, rfl⟩ rfl (fun M wf => by
    obtain ⟨n, hn⟩ := Option.isSome_iff_exists.1 hp.2
    have := Any.strconv_Atoi Tryz.l_Lays_n172 s n hp.1 hn M.w
    rw [hn]
    exact this.mono fun e w' ⟨h, t, hw⟩ => ⟨h, hw ▸ Lib.bytesWorld_below _ _ _⟩) (fun _ _ => ⟨_, rfl, rfl, fun i h1 h2 => by
      match i, h1 with
      | 0, _ => exact RepI.lit _
      | 1, _ => exact RepI.lit _⟩)
noncomputable def c_atoi : SpecF := fun args _ K => match args with
  | [.one (.c (.str s))] => bif decide (s.size ≤ 18 ∧ (Lib.atoi s.data.toList).isSome = true) then K (.tup [tI ((Lib.atoi s.data.toList).getD 0), .c (.val .nilIface)]) [] else none
  | _ => none
theorem c_atoi_ok : SpecOk cfg 151 c_atoi := by
  intro args bx K out h
  unfold c_atoi at h
  split at h
  · obtain ⟨hp, h⟩ := bif_some h
    exact ⟨_, _, h, .inl (atoi_ok _ (of_decide_eq_true hp) _), by simp [isTupS]⟩
  · cases h
def Tryz.l_Lays_n156_ren : Go.Shelf.Ren := ⟨fun | 156 => 48 | 165 => 99 | 166 => 72 | 169 => 76 | 240 => 109 | 241 => 146 | 276 => 153 | 277 => 184 | n => n, fun | 31 => 50 | 9 => 9 | 3 => 3 | 4 => 4 | 0 => 0 | 20 => 20 | 72 => 98 | 76 => 101 | 70 => 96 | 37 => 48 | 75 => 100 | 127 => 151 | 164 => 187 | 5 => 5 | 80 => 108 | n => n, fun | n => n⟩
theorem Tryz.l_Lays_n156 : Go.Proofs.Lays.n156 Tryz.prog Tryz.l_Lays_n156_ren := {
  mixed := by kernel_rfl
  f156 := Tryz.func48.trans (congrArg some (by kernel_rfl))
  f165 := Tryz.func99.trans (congrArg some (by kernel_rfl))
  f166 := Tryz.func72.trans (congrArg some (by kernel_rfl))
  f169 := Tryz.func76.trans (congrArg some (by kernel_rfl))
  f240 := Tryz.func109.trans (congrArg some (by kernel_rfl))
  f241 := Tryz.func146.trans (congrArg some (by kernel_rfl))
  f276 := Tryz.func153.trans (congrArg some (by kernel_rfl))
  f277 := Tryz.func184.trans (congrArg some (by kernel_rfl))
  t0 := Tryz.underlying0
  a0 := Tryz.isAgg0
  z0 := Tryz.sizeOf0
  v0 := Tryz.zeroValue0
  t3 := Tryz.underlying3
  a3 := Tryz.isAgg3
  z3 := Tryz.sizeOf3
  v3 := Tryz.zeroValue3
  t4 := Tryz.underlying4
  a4 := Tryz.isAgg4
  z4 := Tryz.sizeOf4
  v4 := Tryz.zeroValue4
  t9 := Tryz.underlying9
  a9 := Tryz.isAgg9
  z9 := Tryz.sizeOf9
  v9 := Tryz.zeroValue9
  t20 := Tryz.underlying20
  a20 := Tryz.isAgg20
  z20 := Tryz.sizeOf20
  v20 := Tryz.zeroValue20
  t31 := Tryz.underlying50
  a31 := Tryz.isAgg50
  z31 := Tryz.sizeOf50
  v31 := Tryz.zeroValue50
  t37 := Tryz.underlying48
  a37 := Tryz.isAgg48
  z37 := Tryz.sizeOf48
  v37 := Tryz.zeroValue48
  t70 := Tryz.underlying96
  a70 := Tryz.isAgg96
  z70 := Tryz.sizeOf96
  v70 := Tryz.zeroValue96
  t72 := Tryz.underlying98
  a72 := Tryz.isAgg98
  z72 := Tryz.sizeOf98
  v72 := Tryz.zeroValue98
  t75 := Tryz.underlying100
  a75 := Tryz.isAgg100
  z75 := Tryz.sizeOf100
  v75 := Tryz.zeroValue100
  t76 := Tryz.underlying101
  a76 := Tryz.isAgg101
  z76 := Tryz.sizeOf101
  v76 := Tryz.zeroValue101
  t127 := Tryz.underlying151
  a127 := Tryz.isAgg151
  z127 := Tryz.sizeOf151
  v127 := Tryz.zeroValue151
  t164 := Tryz.underlying187
  a164 := Tryz.isAgg187
  z164 := Tryz.sizeOf187
  v164 := Tryz.zeroValue187 }
theorem X156 : Builder.Extra Tryz.prog Tryz.l_Lays_n156_ren := {
  sizeBuilder := by kernel_rfl
  liesBuilder := by kernel_rfl
  t5 := Tryz.underlying5
  a5 := Tryz.isAgg5
  z5 := Tryz.sizeOf5
  v5 := Tryz.zeroValue5
  infoByte := by kernel_rfl
  cellsByte := by kernel_rfl
  sizeByte := by kernel_rfl
  neB5 := by decide }
theorem join_ok (L : List (List D)) (p : ByteArray) (hp : L.length ≤ 140737488355328 ∧ (joinD L p).length ≤ 140737488355328) : FnOk cfg 48 ([c1 (.rows [.str] L), vS p].map SV.den) (vS (tx (joinD L p))).den :=
  fnOk_join ⟨_, Tryz.func48, rfl, rfl⟩ fun M wf a cap hcap hne hc => by
    cases L with
    | nil => exact (Any.strings_Join_none Tryz.l_Lays_n156 X156 a cap p M.w).mono fun e w' h => ⟨h.1, h.2 ▸ Below.refl _ _⟩
    | cons r L =>
      obtain ⟨blk, off, rfl⟩ := hne (by simp)
      obtain ⟨h1, h2⟩ := hc blk off (by simp) rfl
      have := Any.strings_Join Tryz.l_Lays_n156 X156 blk off cap ((r :: L).map rowS) p M.w h2 h1 (by rw [List.length_map]; exact hp.1) (by rw [List.length_map]; exact hcap) (by rw [List.map_map]; exact hp.2)
      rw [List.length_map, List.map_map] at this
      exact this
noncomputable def c_join : SpecF := fun args _ K => match args with
  | [.one (.c (.rows [.str] L)), .one (.c (.str p))] => bif decide (L.length ≤ 140737488355328 ∧ (joinD L p).length ≤ 140737488355328) then K (vS (tx (joinD L p))) [] else none
  | _ => none
theorem c_join_ok : SpecOk cfg 48 c_join := by
  intro args bx K out h
  unfold c_join at h
  split at h
  · obtain ⟨hp, h⟩ := bif_some h
    exact ⟨_, _, h, .inl (join_ok _ _ (of_decide_eq_true hp) _), by simp [isTupS]⟩
  · cases h
theorem dig_out {c : UInt8} (h : c.toNat < 48 ∨ 57 < c.toNat) : isDig c = false := by
  unfold isDig
  rcases h with h | h
  · rw [decide_eq_false (by omega)]; rfl
  · rw [decide_eq_false (p := c.toNat ≤ 57) (by omega), Bool.and_false]
theorem dig_in3 {c : UInt8} (h : 48 ≤ c.toNat ∧ c.toNat ≤ 57) : isDig c = true := by
  unfold isDig
  rw [decide_eq_true h.1, decide_eq_true h.2]; rfl
theorem digs_no {l : List UInt8} {i : Nat} (hi : i < l.length) (h : isDig (l.getD i 0) = false) : digsB l = false := by
  unfold digsB
  rw [Bool.and_eq_false_iff]
  refine .inr ?_
  rw [List.all_eq_false]
  refine ⟨l[i], List.getElem_mem hi, ?_⟩
  rw [List.getD_eq_getElem?_getD, List.getElem?_eq_getElem hi] at h
  simpa using h
theorem digs_more {l : List UInt8} {i : Nat} (hi : i < l.length) (h : (l.take i).all isDig = true) (h2 : isDig (l.getD i 0) = true) : (l.take (i + 1)).all isDig = true := by
  rw [List.take_succ_eq_append_getElem hi, List.all_append, h]
  rw [List.getD_eq_getElem?_getD, List.getElem?_eq_getElem hi] at h2
  simpa using h2
theorem digits_calls (s : ByteArray) (w : World) : Calls Tryz.prog 150 #[.string s] w fun e w' => e = .returned (.bool (digsB s.data.toList)) ∧ Below w.heap.size w w' := by
  have hlen : s.data.toList.length = s.size := Array.length_toList
  have hat : ∀ pos (hp : pos < s.size), s.data.toList.getD pos 0 = s[pos]'hp := fun pos hp => by
    rw [List.getD_eq_getElem?_getD, List.getElem?_eq_getElem (by omega)]; rfl
  go_enter Tryz.func150, Tryz.ntmps150
  go_wp2
  go_loopw [4] (fun _ wr => ∃ pos : Nat, wr = w.iter s pos ∧ pos ≤ s.size ∧ (s.data.toList.take pos).all isDig = true) (fun _ wr => s.size - wr.iterPos w.heap.size)
  case atStart => exact ⟨0, rfl, Nat.zero_le _, rfl⟩
  case round =>
    obtain ⟨pos, rfl, hps, hd⟩ := hrel
    have hb : Below w.heap.size w (w.iter s pos) := (Below.refl _ w).alloc (Nat.le_refl _) _
    by_cases hp : pos < s.size
    · have hnx : ∀ ty, (Instr.next (.pointer (some ⟨w.heap.size, 0, none⟩)) true ty).run Tryz.prog (w.iter s pos) = _ := fun ty => run_next_any w s pos ty hp
      by_cases ha : (s[pos]'hp).toNat < 128
      · rw [decode_ascii s pos hp ha] at hnx
        go_wp2
        all_goals first
          | (go_ret; refine ⟨?_, (Below.refl _ w).alloc (Nat.le_refl _) _⟩; rw [digs_no (i := pos) (by omega) (by rw [hat pos hp]; exact dig_out (by omega))]; rfl)
          | (refine ⟨⟨pos + 1, rfl, by omega, ?_⟩, by simp; omega⟩; exact digs_more (by omega) hd (by rw [hat pos hp]; exact dig_in3 (by omega)))
      · have hh := decode_high s pos hp (by omega)
        go_wp2
        all_goals first
          | (exfalso; omega)
          | (go_ret; refine ⟨?_, (Below.refl _ w).alloc (Nat.le_refl _) _⟩; rw [digs_no (i := pos) (by omega) (by rw [hat pos hp]; exact dig_out (by omega))]; rfl)
    · have hnx : ∀ ty, (Instr.next (.pointer (some ⟨w.heap.size, 0, none⟩)) true ty).run Tryz.prog (w.iter s pos) = _ := fun ty => run_next_end w s pos ty hp
      go_wp2
      all_goals (go_ret; refine ⟨?_, (Below.refl _ w).alloc (Nat.le_refl _) _⟩)
      have hd2 : s.data.toList.all isDig = true := by rwa [List.take_of_length_le (by omega)] at hd
      unfold digsB
      rw [hd2, Bool.and_true]
      refine congrArg (fun b => Ending.returned (Value.bool b)) (?_ : _ = _)
      rw [Lib.toList_data]
      cases s.data.toList <;> rfl
theorem digits_ok (s : ByteArray) : FnOk cfg 150 ([vS s].map SV.den) (vB (digsB s.data.toList)).den :=
  fnOk_shelf (rv := Value.bool (digsB s.data.toList)) ⟨_, Tryz.func150, rfl, rfl⟩ rfl (fun M wf => digits_calls s M.w) (fun _ _ => RepI.lit _)
noncomputable def c_digits : SpecF := fun args _ K => match args with
  | [.one (.c (.str s))] => K (vB (digsB s.data.toList)) []
  | _ => none
theorem c_digits_ok : SpecOk cfg 150 c_digits := by
  intro args bx K out h
  unfold c_digits at h
  split at h
  · exact ⟨_, _, h, .inl (digits_ok _ _), by simp [isTupS]⟩
  · cases h
end Go.Proofs.YtldofkogmkfpjaaGreatDoor
