/-
  The contracts of Go's library that layer 29 uses, off the kit's shelf.
-/
import Derived.Test.YtldofkogmkfpjaaGreatDoorWZzSyRef01b
import Derived.Test.YtldofkogmkfpjaaGreatDoorWPScrD
import Derived.Test.YtldofkogmkfpjaaGreatDoorWSySplit
import Derived.Shelf.Small.Wraps
import Derived.Shelf.Small.Strs
import Derived.Shelf.Strings.OnBuilder
import Derived.Shelf.Strings.Search2
import Derived.Shelf.Strings.Split
import Derived.Shelf.Strconv.AtoiAll
import Derived.Lib.AtoiErrMem
namespace Go.Proofs.YtldofkogmkfpjaaGreatDoor
open Go Go.Ev Go.Sy
set_option linter.unusedSimpArgs false
set_option linter.unusedVariables false
set_option maxRecDepth 10000
set_option maxHeartbeats 4000000
open Go.Shelf Go.RowKit Go.Sort
def Tryz.l_Lays_n156_ren : Go.Shelf.Ren := ⟨fun | 156 => 48 | 165 => 99 | 166 => 72 | 169 => 76 | 240 => 109 | 241 => 146 | 276 => 153 | 277 => 184 | n => n, fun | 31 => 50 | 9 => 9 | 3 => 3 | 4 => 4 | 0 => 0 | 20 => 20 | 72 => 98 | 76 => 101 | 70 => 96 | 37 => 48 | 75 => 100 | 127 => 151 | 164 => 187 | 5 => 5 | 80 => 108 | n => n, fun | n => n⟩
theorem Tryz.l_Lays_n156 : Go.Proofs.Lays.n156 Tryz.prog Tryz.l_Lays_n156_ren := {
  mixed := by kernel_rfl
  f156 := Tryz.func48.trans (congrArg some (by kernel_rfl))
  f165 := Tryz.func99.trans (congrArg some (by kernel_rfl))
  f166 := Tryz.func72.trans (congrArg some (by kernel_rfl))
  f169 := Tryz.func76.trans (congrArg some (by kernel_rfl))
  f240 := Tryz.func109.trans (congrArg some (by kernel_rfl))
  f241 := Tryz.func146.trans (congrArg some (by kernel_rfl))
  f276 := Tryz.func153.trans (congrArg some (by kernel_rfl))
  f277 := Tryz.func184.trans (congrArg some (by kernel_rfl))
  t0 := Tryz.underlying0
  a0 := Tryz.isAgg0
  z0 := Tryz.sizeOf0
  v0 := Tryz.zeroValue0
  t3 := Tryz.underlying3
  a3 := Tryz.isAgg3
  z3 := Tryz.sizeOf3
  v3 := Tryz.zeroValue3
  t4 := Tryz.underlying4
  a4 := Tryz.isAgg4
  z4 := Tryz.sizeOf4
  v4 := Tryz.zeroValue4
  t9 := Tryz.underlying9
  a9 := Tryz.isAgg9
  z9 := Tryz.sizeOf9
  v9 := Tryz.zeroValue9
  t20 := Tryz.underlying20
  a20 := Tryz.isAgg20
  z20 := Tryz.sizeOf20
  v20 := Tryz.zeroValue20
  t31 := Tryz.underlying50
  a31 := Tryz.isAgg50
  z31 := Tryz.sizeOf50
  v31 := Tryz.zeroValue50
  t37 := Tryz.underlying48
  a37 := Tryz.isAgg48
  z37 := Tryz.sizeOf48
  v37 := Tryz.zeroValue48
  t70 := Tryz.underlying96
  a70 := Tryz.isAgg96
  z70 := Tryz.sizeOf96
  v70 := Tryz.zeroValue96
  t72 := Tryz.underlying98
  a72 := Tryz.isAgg98
  z72 := Tryz.sizeOf98
  v72 := Tryz.zeroValue98
  t75 := Tryz.underlying100
  a75 := Tryz.isAgg100
  z75 := Tryz.sizeOf100
  v75 := Tryz.zeroValue100
  t76 := Tryz.underlying101
  a76 := Tryz.isAgg101
  z76 := Tryz.sizeOf101
  v76 := Tryz.zeroValue101
  t127 := Tryz.underlying151
  a127 := Tryz.isAgg151
  z127 := Tryz.sizeOf151
  v127 := Tryz.zeroValue151
  t164 := Tryz.underlying187
  a164 := Tryz.isAgg187
  z164 := Tryz.sizeOf187
  v164 := Tryz.zeroValue187 }
theorem X156 : Builder.Extra Tryz.prog Tryz.l_Lays_n156_ren := {
  sizeBuilder := by kernel_rfl
  liesBuilder := by kernel_rfl
  t5 := Tryz.underlying5
  a5 := Tryz.isAgg5
  z5 := Tryz.sizeOf5
  v5 := Tryz.zeroValue5
  infoByte := by kernel_rfl
  cellsByte := by kernel_rfl
  sizeByte := by kernel_rfl
  neB5 := by decide }
theorem join_ok (L : List (List D)) (p : ByteArray) (hp : L.length ≤ 140737488355328 ∧ (joinD L p).length ≤ 140737488355328) : FnOk cfg 48 ([c1 (.rows [.str] L), vS p].map SV.den) (vS (tx (joinD L p))).den :=
  fnOk_join ⟨_, Tryz.func48, rfl, rfl⟩ fun M wf a cap hcap hne hc => by
    cases L with
    | nil => exact (Any.strings_Join_none Tryz.l_Lays_n156 X156 a cap p M.w).mono fun e w' h => ⟨h.1, h.2 ▸ Below.refl _ _⟩
    | cons r L =>
      obtain ⟨blk, off, rfl⟩ := hne (by simp)
      obtain ⟨h1, h2⟩ := hc blk off (by simp) rfl
      have := Any.strings_Join Tryz.l_Lays_n156 X156 blk off cap ((r :: L).map rowS) p M.w h2 h1 (by rw [List.length_map]; exact hp.1) (by rw [List.length_map]; exact hcap) (by rw [List.map_map]; exact hp.2)
      rw [List.length_map, List.map_map] at this
      exact this
noncomputable def c_join : SpecF := fun args _ K => match args with
  | [.one (.c (.rows [.str] L)), .one (.c (.str p))] => bif decide (L.length ≤ 140737488355328 ∧ (joinD L p).length ≤ 140737488355328) then K (vS (tx (joinD L p))) [] else none
  | _ => none
theorem c_join_ok : SpecOk cfg 48 c_join := by
  intro args bx K out h
  unfold c_join at h
  split at h
  · obtain ⟨hp, h⟩ := bif_some h
    exact ⟨_, _, h, .inl (join_ok _ _ (of_decide_eq_true hp) _), by simp [isTupS]⟩
  · cases h
theorem one_byte {p : ByteArray} (h : p.size = 1) : p = ⟨#[p.data.toList.getD 0 0]⟩ := by
  obtain ⟨⟨l⟩⟩ := p
  match l, h with
  | [c], _ => rfl
def Tryz.l_Lays_n219_ren : Go.Shelf.Ren := ⟨fun | 219 => 166 | 217 => 148 | 225 => 207 | 224 => 208 | 267 => 209 | 266 => 186 | 314 => 239 | n => n, fun | 9 => 9 | 3 => 3 | 4 => 4 | 5 => 5 | 46 => 117 | 146 => 210 | 51 => 104 | n => n, fun | 1 => 1 | n => n⟩
theorem Tryz.l_Lays_n219 : Go.Proofs.Lays.n219 Tryz.prog Tryz.l_Lays_n219_ren := {
  mixed := by kernel_rfl
  f217 := Tryz.func148.trans (congrArg some (by kernel_rfl))
  f219 := Tryz.func166.trans (congrArg some (by kernel_rfl))
  f224 := Tryz.func208.trans (congrArg some (by kernel_rfl))
  f225 := Tryz.func207.trans (congrArg some (by kernel_rfl))
  f266 := Tryz.func186.trans (congrArg some (by kernel_rfl))
  f267 := Tryz.func209.trans (congrArg some (by kernel_rfl))
  f314 := Tryz.func239.trans (congrArg some (by kernel_rfl))
  t3 := Tryz.underlying3
  a3 := Tryz.isAgg3
  z3 := Tryz.sizeOf3
  v3 := Tryz.zeroValue3
  t4 := Tryz.underlying4
  a4 := Tryz.isAgg4
  z4 := Tryz.sizeOf4
  v4 := Tryz.zeroValue4
  t5 := Tryz.underlying5
  a5 := Tryz.isAgg5
  z5 := Tryz.sizeOf5
  v5 := Tryz.zeroValue5
  t9 := Tryz.underlying9
  a9 := Tryz.isAgg9
  z9 := Tryz.sizeOf9
  v9 := Tryz.zeroValue9
  t46 := Tryz.underlying117
  a46 := Tryz.isAgg117
  z46 := Tryz.sizeOf117
  v46 := Tryz.zeroValue117
  t51 := Tryz.underlying104
  a51 := Tryz.isAgg104
  z51 := Tryz.sizeOf104
  v51 := Tryz.zeroValue104
  t146 := Tryz.underlying210
  a146 := Tryz.isAgg210
  z146 := Tryz.sizeOf210
  v146 := Tryz.zeroValue210
  g1 := by kernel_rfl }
theorem idx1_ok (s : ByteArray) (p : ByteArray) (hp : p.size = 1) : FnOk cfg 166 ([vS s, vS p].map SV.den) (vI (Lib.indexByte s.data.toList (p.data.toList.getD 0 0)) : SV).den :=
  fnOk_shelf (rv := Value.int .i64 (Lib.indexByte s.data.toList (p.data.toList.getD 0 0))) ⟨_, Tryz.func166, rfl, rfl⟩ rfl (fun M wf => by
    have := Any.stringslite_Index_one Tryz.l_Lays_n219 s (p.data.toList.getD 0 0) M.w
    rw [← one_byte hp] at this
    exact this.mono fun e w' h => ⟨h.1, h.2 ▸ Below.refl _ _⟩) (fun _ _ => RepI.lit _)
noncomputable def c_idx1 : SpecF := fun args _ K => match args with
  | [.one (.c (.str s)), .one (.c (.str p))] => bif decide (p.size = 1) then K (vI (Lib.indexByte s.data.toList (p.data.toList.getD 0 0))) [] else none
  | _ => none
theorem c_idx1_ok : SpecOk cfg 166 c_idx1 := by
  intro args bx K out h
  unfold c_idx1 at h
  split at h
  · obtain ⟨hp, h⟩ := bif_some h
    exact ⟨_, _, h, .inl (idx1_ok _ _ (of_decide_eq_true hp) _), by simp [isTupS]⟩
  · cases h
def Tryz.l_Lays_n137_ren : Go.Shelf.Ren := ⟨fun | 137 => 101 | 217 => 148 | 266 => 186 | n => n, fun | 9 => 9 | 5 => 5 | 3 => 3 | n => n, fun | n => n⟩
theorem Tryz.l_Lays_n137 : Go.Proofs.Lays.n137 Tryz.prog Tryz.l_Lays_n137_ren := {
  mixed := by kernel_rfl
  f137 := Tryz.func101.trans (congrArg some (by kernel_rfl))
  f217 := Tryz.func148.trans (congrArg some (by kernel_rfl))
  f266 := Tryz.func186.trans (congrArg some (by kernel_rfl))
  t3 := Tryz.underlying3
  a3 := Tryz.isAgg3
  z3 := Tryz.sizeOf3
  v3 := Tryz.zeroValue3
  t5 := Tryz.underlying5
  a5 := Tryz.isAgg5
  z5 := Tryz.sizeOf5
  v5 := Tryz.zeroValue5
  t9 := Tryz.underlying9
  a9 := Tryz.isAgg9
  z9 := Tryz.sizeOf9
  v9 := Tryz.zeroValue9 }
theorem ixb_ok (s : ByteArray) (c : Int) : FnOk cfg 101 ([vS s, c1 (.int .u8 c)].map SV.den) (vI (Lib.indexByte s.data.toList c.toNat.toUInt8) : SV).den :=
  fnOk_shelf (rv := Value.int .i64 (Lib.indexByte s.data.toList c.toNat.toUInt8)) ⟨_, Tryz.func101, rfl, rfl⟩ rfl (fun M wf => (Any.strings_IndexByte Tryz.l_Lays_n137 s c M.w).mono fun e w' h => ⟨h.1, h.2 ▸ Below.refl _ _⟩) (fun _ _ => RepI.lit _)
noncomputable def c_ixb : SpecF := fun args _ K => match args with
  | [.one (.c (.str s)), .one (.c (.int .u8 c))] => K (vI (Lib.indexByte s.data.toList c.toNat.toUInt8)) []
  | _ => none
theorem c_ixb_ok : SpecOk cfg 101 c_ixb := by
  intro args bx K out h
  unfold c_ixb at h
  split at h
  · exact ⟨_, _, h, .inl (ixb_ok _ _ _), by simp [isTupS]⟩
  · cases h
def Tryz.l_LaysC_n172_ren : Go.Shelf.Ren := ⟨fun | 172 => 151 | 244 => 190 | 245 => 191 | 247 => 219 | 279 => 220 | 280 => 221 | 281 => 222 | 282 => 223 | 287 => 246 | 316 => 247 | 171 => 96 | 205 => 248 | 321 => 260 | 322 => 261 | 243 => 138 | 246 => 177 | 283 => 196 | 284 => 197 | 285 => 198 | 286 => 199 | 129 => 225 | 317 => 224 | 318 => 226 | 319 => 227 | 320 => 228 | 337 => 249 | 338 => 250 | n => n, fun | 9 => 9 | 3 => 3 | 75 => 100 | 76 => 101 | 4 => 4 | 5 => 5 | 167 => 240 | 37 => 48 | 0 => 0 | 85 => 241 | 2 => 2 | 168 => 243 | 53 => 59 | 175 => 250 | 46 => 117 | 210 => 266 | 127 => 151 | 145 => 284 | 143 => 282 | 21 => 21 | 171 => 225 | 173 => 228 | 212 => 246 | 51 => 104 | 20 => 20 | 213 => 247 | 232 => 285 | 233 => 286 | 80 => 108 | n => n, fun | 15 => 3 | 16 => 4 | 17 => 2 | 18 => 7 | 19 => 8 | n => n⟩
theorem Tryz.l_LaysC_n172 : Go.Proofs.LaysC.n172 Tryz.prog Tryz.l_LaysC_n172_ren := {
  mixed := by kernel_rfl
  f129 := Tryz.func225.trans (congrArg some (by kernel_rfl))
  f171 := Tryz.func96.trans (congrArg some (by kernel_rfl))
  f172 := Tryz.func151.trans (congrArg some (by kernel_rfl))
  f205 := Tryz.func248.trans (congrArg some (by kernel_rfl))
  f243 := Tryz.func138.trans (congrArg some (by kernel_rfl))
  f244 := Tryz.func190.trans (congrArg some (by kernel_rfl))
  f245 := Tryz.func191.trans (congrArg some (by kernel_rfl))
  f246 := Tryz.func177.trans (congrArg some (by kernel_rfl))
  f247 := Tryz.func219.trans (congrArg some (by kernel_rfl))
  f279 := Tryz.func220.trans (congrArg some (by kernel_rfl))
  f280 := Tryz.func221.trans (congrArg some (by kernel_rfl))
  f281 := Tryz.func222.trans (congrArg some (by kernel_rfl))
  f282 := Tryz.func223.trans (congrArg some (by kernel_rfl))
  f283 := Tryz.func196.trans (congrArg some (by kernel_rfl))
  f284 := Tryz.func197.trans (congrArg some (by kernel_rfl))
  f285 := Tryz.func198.trans (congrArg some (by kernel_rfl))
  f286 := Tryz.func199.trans (congrArg some (by kernel_rfl))
  f287 := Tryz.func246.trans (congrArg some (by kernel_rfl))
  f316 := Tryz.func247.trans (congrArg some (by kernel_rfl))
  f317 := Tryz.func224.trans (congrArg some (by kernel_rfl))
  f318 := Tryz.func226.trans (congrArg some (by kernel_rfl))
  f319 := Tryz.func227.trans (congrArg some (by kernel_rfl))
  f320 := Tryz.func228.trans (congrArg some (by kernel_rfl))
  f321 := Tryz.func260.trans (congrArg some (by kernel_rfl))
  f322 := Tryz.func261.trans (congrArg some (by kernel_rfl))
  f337 := Tryz.func249.trans (congrArg some (by kernel_rfl))
  f338 := Tryz.func250.trans (congrArg some (by kernel_rfl))
  t0 := Tryz.underlying0
  a0 := Tryz.isAgg0
  z0 := Tryz.sizeOf0
  v0 := Tryz.zeroValue0
  t2 := Tryz.underlying2
  a2 := Tryz.isAgg2
  z2 := Tryz.sizeOf2
  v2 := Tryz.zeroValue2
  t3 := Tryz.underlying3
  a3 := Tryz.isAgg3
  z3 := Tryz.sizeOf3
  v3 := Tryz.zeroValue3
  t4 := Tryz.underlying4
  a4 := Tryz.isAgg4
  z4 := Tryz.sizeOf4
  v4 := Tryz.zeroValue4
  t5 := Tryz.underlying5
  a5 := Tryz.isAgg5
  z5 := Tryz.sizeOf5
  v5 := Tryz.zeroValue5
  t9 := Tryz.underlying9
  a9 := Tryz.isAgg9
  z9 := Tryz.sizeOf9
  v9 := Tryz.zeroValue9
  t20 := Tryz.underlying20
  a20 := Tryz.isAgg20
  z20 := Tryz.sizeOf20
  v20 := Tryz.zeroValue20
  t21 := Tryz.underlying21
  a21 := Tryz.isAgg21
  z21 := Tryz.sizeOf21
  v21 := Tryz.zeroValue21
  t37 := Tryz.underlying48
  a37 := Tryz.isAgg48
  z37 := Tryz.sizeOf48
  v37 := Tryz.zeroValue48
  t46 := Tryz.underlying117
  a46 := Tryz.isAgg117
  z46 := Tryz.sizeOf117
  v46 := Tryz.zeroValue117
  t51 := Tryz.underlying104
  a51 := Tryz.isAgg104
  z51 := Tryz.sizeOf104
  v51 := Tryz.zeroValue104
  t53 := Tryz.underlying59
  a53 := Tryz.isAgg59
  z53 := Tryz.sizeOf59
  v53 := Tryz.zeroValue59
  t75 := Tryz.underlying100
  a75 := Tryz.isAgg100
  z75 := Tryz.sizeOf100
  v75 := Tryz.zeroValue100
  t76 := Tryz.underlying101
  a76 := Tryz.isAgg101
  z76 := Tryz.sizeOf101
  v76 := Tryz.zeroValue101
  t85 := Tryz.underlying241
  a85 := Tryz.isAgg241
  z85 := Tryz.sizeOf241
  v85 := Tryz.zeroValue241
  t127 := Tryz.underlying151
  a127 := Tryz.isAgg151
  z127 := Tryz.sizeOf151
  v127 := Tryz.zeroValue151
  t143 := Tryz.underlying282
  a143 := Tryz.isAgg282
  z143 := Tryz.sizeOf282
  v143 := Tryz.zeroValue282
  t145 := Tryz.underlying284
  a145 := Tryz.isAgg284
  z145 := Tryz.sizeOf284
  v145 := Tryz.zeroValue284
  t167 := Tryz.underlying240
  a167 := Tryz.isAgg240
  z167 := Tryz.sizeOf240
  v167 := Tryz.zeroValue240
  t168 := Tryz.underlying243
  a168 := Tryz.isAgg243
  z168 := Tryz.sizeOf243
  v168 := Tryz.zeroValue243
  t171 := Tryz.underlying225
  a171 := Tryz.isAgg225
  z171 := Tryz.sizeOf225
  v171 := Tryz.zeroValue225
  t173 := Tryz.underlying228
  a173 := Tryz.isAgg228
  z173 := Tryz.sizeOf228
  v173 := Tryz.zeroValue228
  t175 := Tryz.underlying250
  a175 := Tryz.isAgg250
  z175 := Tryz.sizeOf250
  v175 := Tryz.zeroValue250
  t210 := Tryz.underlying266
  a210 := Tryz.isAgg266
  z210 := Tryz.sizeOf266
  v210 := Tryz.zeroValue266
  t212 := Tryz.underlying246
  a212 := Tryz.isAgg246
  z212 := Tryz.sizeOf246
  v212 := Tryz.zeroValue246
  t213 := Tryz.underlying247
  a213 := Tryz.isAgg247
  z213 := Tryz.sizeOf247
  t232 := Tryz.underlying285
  a232 := Tryz.isAgg285
  z232 := Tryz.sizeOf285
  v232 := Tryz.zeroValue285
  t233 := Tryz.underlying286
  a233 := Tryz.isAgg286
  z233 := Tryz.sizeOf286
  v233 := Tryz.zeroValue286
  g15 := by kernel_rfl
  g16 := by kernel_rfl
  g17 := by kernel_rfl
  g18 := by kernel_rfl
  g19 := by kernel_rfl
  t80 := Tryz.underlying108
  a80 := Tryz.isAgg108
  z80 := Tryz.sizeOf108
  v80 := Tryz.zeroValue108
  i0 := by kernel_rfl
  i2 := by kernel_rfl
  i3 := by kernel_rfl
  i4 := by kernel_rfl
  i5 := by kernel_rfl
  i9 := by kernel_rfl
  i20 := by kernel_rfl
  i21 := by kernel_rfl
  i37 := by kernel_rfl
  i46 := by kernel_rfl
  i51 := by kernel_rfl
  i53 := by kernel_rfl
  i75 := by kernel_rfl
  i76 := by kernel_rfl
  i80 := by kernel_rfl
  i85 := by kernel_rfl
  i127 := by kernel_rfl
  i143 := by kernel_rfl
  i145 := by kernel_rfl
  i167 := by kernel_rfl
  i168 := by kernel_rfl
  i171 := by kernel_rfl
  i173 := by kernel_rfl
  i175 := by kernel_rfl
  i210 := by kernel_rfl
  i212 := by kernel_rfl
  i232 := by kernel_rfl
  i233 := by kernel_rfl
  m15 := by kernel_rfl
  m16 := by kernel_rfl
  m17 := by kernel_rfl
  m18 := by kernel_rfl
  m19 := by kernel_rfl
  c0 := by kernel_rfl
  c2 := by kernel_rfl
  c3 := by kernel_rfl
  c4 := by kernel_rfl
  c5 := by kernel_rfl
  c9 := by kernel_rfl
  c20 := by kernel_rfl
  c21 := by kernel_rfl
  c37 := by kernel_rfl
  c46 := by kernel_rfl
  c51 := by kernel_rfl
  c53 := by kernel_rfl
  c75 := by kernel_rfl
  c76 := by kernel_rfl
  c80 := by kernel_rfl
  c85 := by kernel_rfl
  c127 := by kernel_rfl
  c143 := by kernel_rfl
  c145 := by kernel_rfl
  c167 := by kernel_rfl
  c168 := by kernel_rfl
  c171 := by kernel_rfl
  c173 := by kernel_rfl
  c175 := by kernel_rfl
  c210 := by kernel_rfl
  c212 := by kernel_rfl
  c213 := by kernel_rfl
  c232 := by kernel_rfl
  c233 := by kernel_rfl }
theorem atoi_ok (s : ByteArray) (v : Int) (hp : s.size ≤ 1000000000) (h : Lib.atoiAll s.data.toList = .ok v) : FnOk cfg 151 ([vS s].map SV.den) (SV.tup [tI v, .c (.val .nilIface)]).den :=
  fnOk_any ⟨_, Tryz.func151, rfl, rfl⟩ rfl fun M wf => (Any.strconv_Atoi_ok Tryz.l_LaysC_n172 s (by omega) v h M.w).mono fun e w' ⟨he, hw⟩ => ⟨_, he, by
    rcases hw with rfl | ⟨t, rfl⟩
    · exact Below.refl _ _
    · exact Lib.bytesWorld_below _ _ _, fun μ => ⟨_, rfl, rfl, fun i h1 h2 => by
      match i, h1 with
      | 0, _ => exact RepC.of_I (μ := μ) (.lit _)
      | 1, _ => exact RepC.of_I (μ := μ) (.lit _)⟩⟩
theorem atoi_no (s : ByteArray) (hp : s.size ≤ 1000000000) (v : Int) (h : isNoN (Lib.atoiAll s.data.toList) ∧ v = 0 ∨ Lib.atoiAll s.data.toList = .range ∧ v = Lib.atoiSat s.data.toList) : FnOk cfg 151 ([vS s].map SV.den) (SV.tup [tI v, .c .err]).den :=
  fnOk_any ⟨_, Tryz.func151, rfl, rfl⟩ rfl fun M wf => by
    rcases h with ⟨h, rfl⟩ | ⟨h, rfl⟩
    · obtain ⟨ev, h1, h2⟩ := glob_err wf (g := 3) rfl
      cases hx : Lib.atoiAll s.data.toList with
      | ok v => rw [hx] at h; exact False.elim h
      | range => rw [hx] at h; exact False.elim h
      | _ => exact (Any.strconv_Atoi_syntax Tryz.l_LaysC_n172 s (by omega) hx ev M.w h1 h2).mono fun e w' ⟨N, he, _, _, hb⟩ => ⟨_, he, hb, fun μ => rep_nerr _ ⟨_, _, rfl⟩⟩
    · obtain ⟨ev, h1, h2⟩ := glob_err wf (g := 4) rfl
      exact (Any.strconv_Atoi_range Tryz.l_LaysC_n172 s (by omega) h ev M.w h1 h2).mono fun e w' ⟨N, he, _, _, hb⟩ => ⟨_, he, hb, fun μ => rep_nerr _ ⟨_, _, rfl⟩⟩
noncomputable def c_atoi : SpecF := fun args _ K => match args with
  | [.one (.c (.str s))] => bif decide (s.size ≤ 1000000000) then (bif atoiB s.data.toList then K (.tup [tI (atoiV s.data.toList), .c (.val .nilIface)]) [] else K (.tup [tI (atoiV s.data.toList), .c .err]) []) else none
  | _ => none
theorem c_atoi_ok : SpecOk cfg 151 c_atoi := by
  intro args bx K out h
  unfold c_atoi at h
  split at h
  · rename_i s
    obtain ⟨hp, h⟩ := bif_some h
    have hp := of_decide_eq_true hp
    rcases atoi_cases s.data.toList with ⟨hb, hv⟩ | ⟨hb, hv⟩
    · rw [hb] at h
      exact ⟨_, _, h, .inl (atoi_ok s _ hp hv _), by simp [isTupS]⟩
    · rw [hb] at h
      exact ⟨_, _, h, .inl (atoi_no s hp _ hv _), by simp [isTupS]⟩
  · cases h
def Tryz.l_Lays_n146_ren : Go.Shelf.Ren := ⟨fun | 146 => 120 | 221 => 167 | 268 => 210 | 138 => 211 | 143 => 212 | 195 => 240 | 197 => 217 | 218 => 241 | 219 => 166 | 260 => 244 | 217 => 148 | 225 => 207 | 224 => 208 | 267 => 209 | 266 => 186 | 314 => 239 | n => n, fun | 9 => 9 | 31 => 50 | 3 => 3 | 4 => 4 | 0 => 0 | 105 => 214 | 21 => 21 | 5 => 5 | 46 => 117 | 119 => 277 | 139 => 280 | 138 => 279 | 146 => 210 | 51 => 104 | n => n, fun | 1 => 1 | 3 => 5 | 4 => 6 | n => n⟩
theorem Tryz.l_Lays_n146 : Go.Proofs.Lays.n146 Tryz.prog Tryz.l_Lays_n146_ren := {
  mixed := by kernel_rfl
  f138 := Tryz.func211.trans (congrArg some (by kernel_rfl))
  f143 := Tryz.func212.trans (congrArg some (by kernel_rfl))
  f146 := Tryz.func120.trans (congrArg some (by kernel_rfl))
  f195 := Tryz.func240.trans (congrArg some (by kernel_rfl))
  f197 := Tryz.func217.trans (congrArg some (by kernel_rfl))
  f217 := Tryz.func148.trans (congrArg some (by kernel_rfl))
  f218 := Tryz.func241.trans (congrArg some (by kernel_rfl))
  f219 := Tryz.func166.trans (congrArg some (by kernel_rfl))
  f221 := Tryz.func167.trans (congrArg some (by kernel_rfl))
  f224 := Tryz.func208.trans (congrArg some (by kernel_rfl))
  f225 := Tryz.func207.trans (congrArg some (by kernel_rfl))
  f260 := Tryz.func244.trans (congrArg some (by kernel_rfl))
  f266 := Tryz.func186.trans (congrArg some (by kernel_rfl))
  f267 := Tryz.func209.trans (congrArg some (by kernel_rfl))
  f268 := Tryz.func210.trans (congrArg some (by kernel_rfl))
  f314 := Tryz.func239.trans (congrArg some (by kernel_rfl))
  t0 := Tryz.underlying0
  a0 := Tryz.isAgg0
  z0 := Tryz.sizeOf0
  v0 := Tryz.zeroValue0
  t3 := Tryz.underlying3
  a3 := Tryz.isAgg3
  z3 := Tryz.sizeOf3
  v3 := Tryz.zeroValue3
  t4 := Tryz.underlying4
  a4 := Tryz.isAgg4
  z4 := Tryz.sizeOf4
  v4 := Tryz.zeroValue4
  t5 := Tryz.underlying5
  a5 := Tryz.isAgg5
  z5 := Tryz.sizeOf5
  v5 := Tryz.zeroValue5
  t9 := Tryz.underlying9
  a9 := Tryz.isAgg9
  z9 := Tryz.sizeOf9
  v9 := Tryz.zeroValue9
  t21 := Tryz.underlying21
  a21 := Tryz.isAgg21
  z21 := Tryz.sizeOf21
  v21 := Tryz.zeroValue21
  t31 := Tryz.underlying50
  a31 := Tryz.isAgg50
  z31 := Tryz.sizeOf50
  v31 := Tryz.zeroValue50
  t46 := Tryz.underlying117
  a46 := Tryz.isAgg117
  z46 := Tryz.sizeOf117
  v46 := Tryz.zeroValue117
  t51 := Tryz.underlying104
  a51 := Tryz.isAgg104
  z51 := Tryz.sizeOf104
  v51 := Tryz.zeroValue104
  t105 := Tryz.underlying214
  a105 := Tryz.isAgg214
  z105 := Tryz.sizeOf214
  v105 := Tryz.zeroValue214
  t119 := Tryz.underlying277
  a119 := Tryz.isAgg277
  z119 := Tryz.sizeOf277
  t138 := Tryz.underlying279
  a138 := Tryz.isAgg279
  z138 := Tryz.sizeOf279
  v138 := Tryz.zeroValue279
  t139 := Tryz.underlying280
  a139 := Tryz.isAgg280
  z139 := Tryz.sizeOf280
  v139 := Tryz.zeroValue280
  t146 := Tryz.underlying210
  a146 := Tryz.isAgg210
  z146 := Tryz.sizeOf210
  v146 := Tryz.zeroValue210
  g1 := by kernel_rfl
  g3 := by kernel_rfl
  g4 := by kernel_rfl }
set_option maxHeartbeats 1000000 in
theorem Split_one {P : Program} {ρ : Ren} (L : Lays.n146 P ρ) (hi9 : (P.info? (ρ.t 9)).map (fun i => (i.zero, i.size, i.bytes)) = some (some (.string ByteArray.empty), 1, 16)) (s : ByteArray) (b : UInt8) (w : World) (hs : s.size < 4294967281) :
    Calls P (ρ.f 146) #[.string s, .string ⟨#[b]⟩] w fun e w' =>
      e = .returned (.slice (some ⟨w.heap.size, 0, none⟩) (Lib.countB s ⟨#[b]⟩ + 1) (Lib.countB s ⟨#[b]⟩ + 1)) ∧ w' = w.alloc (.cells ((Lib.splitB ⟨#[b]⟩ 0 (Lib.countB s ⟨#[b]⟩) s).map Value.string).toArray (ρ.t 9)) := by
  have h1 : 1 ≤ (⟨#[b]⟩ : ByteArray).size := Nat.le_refl 1
  have hlen := Lib.splitB_all ⟨#[b]⟩ h1 0 _ s rfl
  have hC : Calls P (ρ.f 138) #[.string s, .string ⟨#[b]⟩] w fun e w' => e = .returned (.int .i64 (Lib.countB s ⟨#[b]⟩)) ∧ w' = w := by
    refine (Any.strings_Count_one { L with } s b w).mono fun e w' ⟨he, hw⟩ => ⟨?_, hw⟩
    rw [he]
    show _ = Ending.returned (Value.int .i64 ((Lib.count s.data.toList [b] : Nat) : Int))
    rw [Lib.count_one]
    rfl
  have c := Any.strings_genSplit_core { L with } hi9 s ⟨#[b]⟩ 0 (-1) (Lib.countB s ⟨#[b]⟩ + 1) w hs h1 (Nat.zero_le _)
    (fun x cc hx => (Any.strings_Index_one { L with } x b _).mono fun e w' ⟨he, hw⟩ => ⟨by rw [he, ← Lib.index_one], hw⟩) hC (by decide) (by decide) (by
      rw [if_pos (by decide)]
      have hle := Lib.countB_le ⟨#[b]⟩ h1 s.size s (Nat.le_refl _)
      omega)
  rw [Nat.add_sub_cancel, hlen] at c
  have e2 : Lib.cellsOf (Lib.splitB ⟨#[b]⟩ 0 (Lib.countB s ⟨#[b]⟩) s) (Lib.countB s ⟨#[b]⟩ + 1) = ((Lib.splitB ⟨#[b]⟩ 0 (Lib.countB s ⟨#[b]⟩) s).map Value.string).toArray := by rw [← hlen]; exact Lib.cellsOf_full _
  rw [e2] at c
  have t3 := L.t3; have t9 := L.t9; have t31 := L.t31
  have a3 := L.a3; have a9 := L.a9; have a31 := L.a31
  have z3 := L.z3; have v3 := L.v3; have z9 := L.z9; have v9 := L.v9; have z31 := L.z31; have v31 := L.v31
  have e221 : ∀ args w, (callFunc (ρ.f 221) args).run P w = .ok (.enter (ρ.f 221) args) w := enters_of L.f221 (by kernel_rfl) rfl
  go_enter L.f146, Body.n146_ntmps ρ
  go_wp2_with (go_at_fn (ρ.f 221); refine c.mono ?_; rintro e w' ⟨rfl, hw⟩; rw [hw])
  go_ret
  exact ⟨rfl, rfl⟩
theorem strs_rows (L : List ByteArray) : (L.map fun s => [D.s s]) = (L.map fun s => s.data.toList).map fun l => [D.s (tx l)] := by
  rw [List.map_map]
  rfl
theorem zsplit_ok (s p : ByteArray) (hp : p = tx [32] ∧ s.size ≤ 1000000000) : FnOk cfg 120 ([vS s, vS p].map SV.den) (c1 (.rows [.str] ((splitW s.data.toList).map fun l => [.s (tx l)]))).den := by
  obtain ⟨rfl, hs⟩ := hp
  have h := fnOk_strs (C := cfg) (k := 120) (vas := [vS s, vS (tx [32])]) (L := Lib.splitB ⟨#[32]⟩ 0 (Lib.countB s ⟨#[32]⟩) s) ⟨_, Tryz.func120, rfl, rfl⟩ rfl fun M wf => (Split_one Tryz.l_Lays_n146 (by kernel_rfl) s 32 M.w (by omega)).mono fun e w' ⟨he, hw⟩ => ⟨by rw [he, Lib.splitB_all ⟨#[32]⟩ (Nat.le_refl 1) 0 _ s rfl], hw⟩
  rw [strs_rows, splitB_W] at h
  exact h
noncomputable def c_zsplit : SpecF := fun args _ K => match args with
  | [.one (.c (.str s)), .one (.c (.str p))] => bif decide (p = tx [32] ∧ s.size ≤ 1000000000) then K (c1 (.rows [.str] ((splitW s.data.toList).map fun l => [.s (tx l)]))) [] else none
  | _ => none
theorem c_zsplit_ok : SpecOk cfg 120 c_zsplit := by
  intro args bx K out h
  unfold c_zsplit at h
  split at h
  · obtain ⟨hp, h⟩ := bif_some h
    exact ⟨_, _, h, .inl (zsplit_ok _ _ (of_decide_eq_true hp) _), by simp [isTupS]⟩
  · cases h
/-! ### internal/stringslite.Cut -/
noncomputable def scut0_e : Ev' := ⟨Tryz.prog, glob, Γof [(166, c_idx1)]⟩
theorem scut0_g : Gd cfg scut0_e := gd (env_cons c_idx1_ok (env_nil _))
noncomputable def scut0_f : FnD := ⟨119, Tryz.f119, noSh, Tryz.f119.resultTypes.toList, 0⟩
theorem scut0_ent (h : Hd) (s : ByteArray) (p : ByteArray) : scut0_f.ent scut0_e [] h [vS s, vS p] [] = let v1 : Int := IntKind.i64.wrap (Lib.indexByte s.data.toList (p.data.toList.getD (0 : Nat) (0 : UInt8)) + (↑p.size : Int)); bif decide (p.size = (1 : Nat)) then bif decide ((0 : Int) ≤ Lib.indexByte s.data.toList (p.data.toList.getD (0 : Nat) (0 : UInt8))) then bif slB (0 : Int) (Lib.indexByte s.data.toList (p.data.toList.getD (0 : Nat) (0 : UInt8))) s.size then bif slB v1 (↑s.size : Int) s.size then ret (SV.tup [S1.c (Cl.str (s.extract (0 : Nat) (Lib.indexByte s.data.toList (p.data.toList.getD (0 : Nat) (0 : UInt8))).toNat)), S1.c (Cl.str (s.extract v1.toNat (↑s.size : Int).toNat)), S1.c (Cl.bool true)]) else none else none else ret (SV.tup [S1.c (Cl.str s), S1.c (Cl.str (tx [])), S1.c (Cl.bool false)]) else none := by kernel_rfl

theorem index_lt (c : UInt8) : ∀ l : List UInt8, -1 ≤ Lib.indexByte l c ∧ (0 ≤ Lib.indexByte l c → (Lib.indexByte l c).toNat < l.length)
  | [] => ⟨by simp [Lib.indexByte], fun h => absurd h (by simp [Lib.indexByte])⟩
  | b :: l => by
    obtain ⟨h1, h2⟩ := index_lt c l
    rw [Lib.indexByte]
    split
    · exact ⟨by omega, fun _ => by simp⟩
    · split
      · exact ⟨by omega, fun h => absurd h (by omega)⟩
      · rename_i hne
        have : Lib.indexByte l c ≠ -1 := fun e => hne (by rw [e]; rfl)
        exact ⟨by omega, fun _ => by have := h2 (by omega); rw [List.length_cons]; omega⟩
theorem cutR {a b a' b' : ByteArray} {t t' : Bool} (h1 : a = a') (h2 : b = b') (h3 : t = t') : (ret (.tup [.c (.str a), .c (.str b), .c (.bool t)])) = some ⟨.tup [tS a', tS b', tB t'], []⟩ := by rw [h1, h2, h3]
theorem scut0_run (s : ByteArray) (p : ByteArray) (hp : p.size = 1 ∧ s.size ≤ 9223372036854775807) : ∃ fu, scut0_f.run scut0_e [] fu [vS s, vS p] [] = some ⟨.tup [tS (if 0 ≤ Lib.indexByte s.data.toList (p.data.toList.getD 0 0) then tx (s.data.toList.take (Lib.indexByte s.data.toList (p.data.toList.getD 0 0)).toNat) else s), tS (if 0 ≤ Lib.indexByte s.data.toList (p.data.toList.getD 0 0) then tx (s.data.toList.drop ((Lib.indexByte s.data.toList (p.data.toList.getD 0 0)).toNat + 1)) else tx []), tB (decide (0 ≤ Lib.indexByte s.data.toList (p.data.toList.getD 0 0)))], []⟩ := by
  refine ⟨0, ?_⟩
  rw [FnD.run, scut0_ent]
  obtain ⟨l, rfl, hl⟩ := tx_get s
  obtain ⟨h1, h2⟩ := hp
  rw [tx_size] at h2
  dsimp only
  simp only [tx_toList, tx_size]
  obtain ⟨b1, b2⟩ := index_lt (p.data.toList.getD 0 0) l
  generalize Lib.indexByte l (p.data.toList.getD 0 0) = i at *
  refine condT h1 ?_
  by_cases h : 0 ≤ i
  · have := b2 h
    have w : IntKind.i64.wrap (i + (p.size : Nat)) = i + 1 := by rw [h1, IntWalk.i64_in _ (by omega)]; rfl
    rw [w, if_pos h, if_pos h]
    refine condT h (condB (by unfold slB; simp; omega) (condB (by unfold slB; simp; omega) (cutR ?_ ?_ (decide_eq_true h).symm)))
    · rw [tx_extract, List.drop_zero, Nat.sub_zero]
    · rw [tx_extract, Int.toNat_natCast, show (i + 1).toNat = i.toNat + 1 by omega, List.take_of_length_le (by rw [List.length_drop]; omega)]
  · rw [if_neg h, if_neg h]
    exact condF h (cutR rfl rfl (decide_eq_false h).symm)
theorem scut0_ok (s : ByteArray) (p : ByteArray) (hp : p.size = 1 ∧ s.size ≤ 9223372036854775807) : FnOk cfg 119 ([vS s, vS p].map SV.den) (.tup [tS (if 0 ≤ Lib.indexByte s.data.toList (p.data.toList.getD 0 0) then tx (s.data.toList.take (Lib.indexByte s.data.toList (p.data.toList.getD 0 0)).toNat) else s), tS (if 0 ≤ Lib.indexByte s.data.toList (p.data.toList.getD 0 0) then tx (s.data.toList.drop ((Lib.indexByte s.data.toList (p.data.toList.getD 0 0)).toNat + 1)) else tx []), tB (decide (0 ≤ Lib.indexByte s.data.toList (p.data.toList.getD 0 0)))] : SV).den := by
  obtain ⟨nn, h⟩ := scut0_run s p hp
  exact FnD.ok scut0_g scut0_f mixed Tryz.func119 rfl rfl rfl rfl rfl rfl h
noncomputable def c_scut0 : SpecF := fun args _ K => match args with
  | [.one (.c (.str s)), .one (.c (.str p))] => bif decide (p.size = 1 ∧ s.size ≤ 9223372036854775807) then K (.tup [tS (if 0 ≤ Lib.indexByte s.data.toList (p.data.toList.getD 0 0) then tx (s.data.toList.take (Lib.indexByte s.data.toList (p.data.toList.getD 0 0)).toNat) else s), tS (if 0 ≤ Lib.indexByte s.data.toList (p.data.toList.getD 0 0) then tx (s.data.toList.drop ((Lib.indexByte s.data.toList (p.data.toList.getD 0 0)).toNat + 1)) else tx []), tB (decide (0 ≤ Lib.indexByte s.data.toList (p.data.toList.getD 0 0)))]) [] else none
  | _ => none
theorem c_scut0_ok : SpecOk cfg 119 c_scut0 := by
  intro args bx K out h
  unfold c_scut0 at h
  split at h
  · obtain ⟨hp, h⟩ := bif_some h
    exact ⟨_, _, h, .inl (scut0_ok _ _ (of_decide_eq_true hp) _), by simp [isTupS]⟩
  · cases h
/-! ### strings.Cut -/
noncomputable def scut_e : Ev' := ⟨Tryz.prog, glob, Γof [(119, c_scut0)]⟩
theorem scut_g : Gd cfg scut_e := gd (env_cons c_scut0_ok (env_nil _))
noncomputable def scut_f : FnD := ⟨83, Tryz.f83, noSh, Tryz.f83.resultTypes.toList, 0⟩
theorem scut_ent (h : Hd) (s : ByteArray) (p : ByteArray) : scut_f.ent scut_e [] h [vS s, vS p] [] = bif decide (p.size = (1 : Nat) ∧ s.size ≤ (9223372036854775807 : Nat)) then ret (SV.tup [S1.c (Cl.str (if (0 : Int) ≤ Lib.indexByte s.data.toList (p.data.toList.getD (0 : Nat) (0 : UInt8)) then tx (List.take (Lib.indexByte s.data.toList (p.data.toList.getD (0 : Nat) (0 : UInt8))).toNat s.data.toList) else s)), S1.c (Cl.str (if (0 : Int) ≤ Lib.indexByte s.data.toList (p.data.toList.getD (0 : Nat) (0 : UInt8)) then tx (List.drop ((Lib.indexByte s.data.toList (p.data.toList.getD (0 : Nat) (0 : UInt8))).toNat + (1 : Nat)) s.data.toList) else tx [])), S1.c (Cl.bool (decide ((0 : Int) ≤ Lib.indexByte s.data.toList (p.data.toList.getD (0 : Nat) (0 : UInt8)))))]) else none := by kernel_rfl
theorem scut_run (s : ByteArray) (p : ByteArray) (hp : p.size = 1 ∧ s.size ≤ 9223372036854775807) : ∃ fu, scut_f.run scut_e [] fu [vS s, vS p] [] = some ⟨.tup [tS (if 0 ≤ Lib.indexByte s.data.toList (p.data.toList.getD 0 0) then tx (s.data.toList.take (Lib.indexByte s.data.toList (p.data.toList.getD 0 0)).toNat) else s), tS (if 0 ≤ Lib.indexByte s.data.toList (p.data.toList.getD 0 0) then tx (s.data.toList.drop ((Lib.indexByte s.data.toList (p.data.toList.getD 0 0)).toNat + 1)) else tx []), tB (decide (0 ≤ Lib.indexByte s.data.toList (p.data.toList.getD 0 0)))], []⟩ := by
  refine ⟨0, ?_⟩
  rw [FnD.run, scut_ent]
  exact condT hp rfl
theorem scut_ok (s : ByteArray) (p : ByteArray) (hp : p.size = 1 ∧ s.size ≤ 9223372036854775807) : FnOk cfg 83 ([vS s, vS p].map SV.den) (.tup [tS (if 0 ≤ Lib.indexByte s.data.toList (p.data.toList.getD 0 0) then tx (s.data.toList.take (Lib.indexByte s.data.toList (p.data.toList.getD 0 0)).toNat) else s), tS (if 0 ≤ Lib.indexByte s.data.toList (p.data.toList.getD 0 0) then tx (s.data.toList.drop ((Lib.indexByte s.data.toList (p.data.toList.getD 0 0)).toNat + 1)) else tx []), tB (decide (0 ≤ Lib.indexByte s.data.toList (p.data.toList.getD 0 0)))] : SV).den := by
  obtain ⟨nn, h⟩ := scut_run s p hp
  exact FnD.ok scut_g scut_f mixed Tryz.func83 rfl rfl rfl rfl rfl rfl h
noncomputable def c_scut : SpecF := fun args _ K => match args with
  | [.one (.c (.str s)), .one (.c (.str p))] => bif decide (p.size = 1 ∧ s.size ≤ 9223372036854775807) then K (.tup [tS (if 0 ≤ Lib.indexByte s.data.toList (p.data.toList.getD 0 0) then tx (s.data.toList.take (Lib.indexByte s.data.toList (p.data.toList.getD 0 0)).toNat) else s), tS (if 0 ≤ Lib.indexByte s.data.toList (p.data.toList.getD 0 0) then tx (s.data.toList.drop ((Lib.indexByte s.data.toList (p.data.toList.getD 0 0)).toNat + 1)) else tx []), tB (decide (0 ≤ Lib.indexByte s.data.toList (p.data.toList.getD 0 0)))]) [] else none
  | _ => none
theorem c_scut_ok : SpecOk cfg 83 c_scut := by
  intro args bx K out h
  unfold c_scut at h
  split at h
  · obtain ⟨hp, h⟩ := bif_some h
    exact ⟨_, _, h, .inl (scut_ok _ _ (of_decide_eq_true hp) _), by simp [isTupS]⟩
  · cases h
end Go.Proofs.YtldofkogmkfpjaaGreatDoor
