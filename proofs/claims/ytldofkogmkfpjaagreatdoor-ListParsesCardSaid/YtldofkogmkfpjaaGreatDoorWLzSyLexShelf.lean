/-
  The contracts of Go's library that layer 10 uses, off the kit's shelf.
-/
import Derived.Test.YtldofkogmkfpjaaGreatDoorWLzSyShelf
import Derived.Test.YtldofkogmkfpjaaGreatDoorWPLex
import Derived.Shelf.Small.Wraps
import Derived.Shelf.Strings.Prefix
import Derived.Shelf.Strings.SlTrimAscii
import Derived.Shelf.Strings.Search2
import Derived.Shelf.Strconv.Atoi
import Derived.Lib.AtoiErrMem
namespace Go.Proofs.YtldofkogmkfpjaaGreatDoor
open Go Go.Ev Go.Sy
set_option linter.unusedSimpArgs false
set_option linter.unusedVariables false
set_option maxRecDepth 10000
set_option maxHeartbeats 4000000
open Go.Shelf Go.RowKit Go.Sort
def Tryz.l_Lays_n99_ren : Go.Shelf.Ren := ⟨fun | 99 => 140 | 206 => 180 | n => n, fun | 9 => 9 | 4 => 4 | 3 => 3 | n => n, fun | n => n⟩
theorem Tryz.l_Lays_n99 : Go.Proofs.Lays.n99 Tryz.prog Tryz.l_Lays_n99_ren := {
  mixed := by kernel_rfl
  f99 := Tryz.func140.trans (congrArg some (by kernel_rfl))
  f206 := Tryz.func180.trans (congrArg some (by kernel_rfl))
  t3 := Tryz.underlying3
  a3 := Tryz.isAgg3
  z3 := Tryz.sizeOf3
  v3 := Tryz.zeroValue3
  t4 := Tryz.underlying4
  a4 := Tryz.isAgg4
  z4 := Tryz.sizeOf4
  v4 := Tryz.zeroValue4
  t9 := Tryz.underlying9
  a9 := Tryz.isAgg9
  z9 := Tryz.sizeOf9
  v9 := Tryz.zeroValue9 }
theorem hasp_ok (s : ByteArray) (p : ByteArray) : FnOk cfg 140 ([vS s, vS p].map SV.den) (vB (Lib.hasPrefix s.data.toList p.data.toList) : SV).den :=
  fnOk_shelf (rv := Value.bool (Lib.hasPrefix s.data.toList p.data.toList)) ⟨_, Tryz.func140, rfl, rfl⟩ rfl (fun M wf => (Any.strings_HasPrefix Tryz.l_Lays_n99 s p M.w).mono fun e w' h => ⟨h.1, h.2 ▸ Below.refl _ _⟩) (fun _ _ => RepI.lit _)
noncomputable def c_hasp : SpecF := fun args _ K => match args with
  | [.one (.c (.str s)), .one (.c (.str p))] => K (vB (Lib.hasPrefix s.data.toList p.data.toList)) []
  | _ => none
theorem c_hasp_ok : SpecOk cfg 140 c_hasp := by
  intro args bx K out h
  unfold c_hasp at h
  split at h
  · exact ⟨_, _, h, .inl (hasp_ok _ _ _), by simp [isTupS]⟩
  · cases h
theorem ascii_all {p : ByteArray} (h : (p.data.toList.all fun b => decide (b.toNat < 128)) = true) : ∀ (j : Nat) b, p.data.toList[j]? = some b → b.toNat < 128 := fun j b e => by
  rw [List.all_eq_true] at h
  exact of_decide_eq_true (h b (List.mem_of_getElem? e))
def Tryz.l_Lays_n161_ren : Go.Shelf.Ren := ⟨fun | 161 => 149 | 231 => 187 | 227 => 143 | 233 => 188 | 235 => 189 | 228 => 181 | 197 => 217 | 151 => 183 | 260 => 244 | 152 => 218 | 137 => 101 | 119 => 245 | 224 => 208 | 225 => 207 | 217 => 148 | 266 => 186 | n => n, fun | 9 => 9 | 4 => 4 | 3 => 3 | 5 => 5 | 117 => 182 | 116 => 181 | 0 => 0 | 124 => 185 | 105 => 214 | 21 => 21 | 119 => 277 | 46 => 117 | 139 => 280 | 138 => 279 | n => n, fun | 3 => 5 | 4 => 6 | n => n⟩
theorem Tryz.l_Lays_n161 : Go.Proofs.Lays.n161 Tryz.prog Tryz.l_Lays_n161_ren := {
  mixed := by kernel_rfl
  f119 := Tryz.func245.trans (congrArg some (by kernel_rfl))
  f137 := Tryz.func101.trans (congrArg some (by kernel_rfl))
  f151 := Tryz.func183.trans (congrArg some (by kernel_rfl))
  f152 := Tryz.func218.trans (congrArg some (by kernel_rfl))
  f161 := Tryz.func149.trans (congrArg some (by kernel_rfl))
  f197 := Tryz.func217.trans (congrArg some (by kernel_rfl))
  f217 := Tryz.func148.trans (congrArg some (by kernel_rfl))
  f224 := Tryz.func208.trans (congrArg some (by kernel_rfl))
  f225 := Tryz.func207.trans (congrArg some (by kernel_rfl))
  f227 := Tryz.func143.trans (congrArg some (by kernel_rfl))
  f228 := Tryz.func181.trans (congrArg some (by kernel_rfl))
  f231 := Tryz.func187.trans (congrArg some (by kernel_rfl))
  f233 := Tryz.func188.trans (congrArg some (by kernel_rfl))
  f235 := Tryz.func189.trans (congrArg some (by kernel_rfl))
  f260 := Tryz.func244.trans (congrArg some (by kernel_rfl))
  f266 := Tryz.func186.trans (congrArg some (by kernel_rfl))
  t0 := Tryz.underlying0
  a0 := Tryz.isAgg0
  z0 := Tryz.sizeOf0
  v0 := Tryz.zeroValue0
  t3 := Tryz.underlying3
  a3 := Tryz.isAgg3
  z3 := Tryz.sizeOf3
  v3 := Tryz.zeroValue3
  t4 := Tryz.underlying4
  a4 := Tryz.isAgg4
  z4 := Tryz.sizeOf4
  v4 := Tryz.zeroValue4
  t5 := Tryz.underlying5
  a5 := Tryz.isAgg5
  z5 := Tryz.sizeOf5
  v5 := Tryz.zeroValue5
  t9 := Tryz.underlying9
  a9 := Tryz.isAgg9
  z9 := Tryz.sizeOf9
  v9 := Tryz.zeroValue9
  t21 := Tryz.underlying21
  a21 := Tryz.isAgg21
  z21 := Tryz.sizeOf21
  v21 := Tryz.zeroValue21
  t46 := Tryz.underlying117
  a46 := Tryz.isAgg117
  z46 := Tryz.sizeOf117
  v46 := Tryz.zeroValue117
  t105 := Tryz.underlying214
  a105 := Tryz.isAgg214
  z105 := Tryz.sizeOf214
  v105 := Tryz.zeroValue214
  t116 := Tryz.underlying181
  a116 := Tryz.isAgg181
  z116 := Tryz.sizeOf181
  t117 := Tryz.underlying182
  a117 := Tryz.isAgg182
  z117 := Tryz.sizeOf182
  v117 := Tryz.zeroValue182
  t119 := Tryz.underlying277
  a119 := Tryz.isAgg277
  z119 := Tryz.sizeOf277
  t124 := Tryz.underlying185
  a124 := Tryz.isAgg185
  z124 := Tryz.sizeOf185
  v124 := Tryz.zeroValue185
  t138 := Tryz.underlying279
  a138 := Tryz.isAgg279
  z138 := Tryz.sizeOf279
  v138 := Tryz.zeroValue279
  t139 := Tryz.underlying280
  a139 := Tryz.isAgg280
  z139 := Tryz.sizeOf280
  v139 := Tryz.zeroValue280
  g3 := by kernel_rfl
  g4 := by kernel_rfl }
theorem triml_ok (s : ByteArray) (p : ByteArray) (hp : (p.data.toList.all fun b => decide (b.toNat < 128)) = true ∧ p.size ≤ 100) : FnOk cfg 149 ([vS s, vS p].map SV.den) (vS (tx (Lib.trimLeftS s.data.toList p.data.toList)) : SV).den :=
  fnOk_shelf (rv := Value.string (tx (Lib.trimLeftS s.data.toList p.data.toList))) ⟨_, Tryz.func149, rfl, rfl⟩ rfl (fun M wf => Any.strings_TrimLeft_laid Tryz.l_Lays_n161 (by kernel_rfl) s p M.w (by have := hp.2; omega) (ascii_all hp.1)) (fun _ _ => RepI.lit _)
noncomputable def c_triml : SpecF := fun args _ K => match args with
  | [.one (.c (.str s)), .one (.c (.str p))] => bif decide ((p.data.toList.all fun b => decide (b.toNat < 128)) = true ∧ p.size ≤ 100) then K (vS (tx (Lib.trimLeftS s.data.toList p.data.toList))) [] else none
  | _ => none
theorem c_triml_ok : SpecOk cfg 149 c_triml := by
  intro args bx K out h
  unfold c_triml at h
  split at h
  · obtain ⟨hp, h⟩ := bif_some h
    exact ⟨_, _, h, .inl (triml_ok _ _ (of_decide_eq_true hp) _), by simp [isTupS]⟩
  · cases h
theorem one_byte {p : ByteArray} (h : p.size = 1) : p = ⟨#[p.data.toList.getD 0 0]⟩ := by
  obtain ⟨⟨l⟩⟩ := p
  match l, h with
  | [c], _ => rfl
def Tryz.l_Lays_n219_ren : Go.Shelf.Ren := ⟨fun | 219 => 166 | 217 => 148 | 225 => 207 | 224 => 208 | 267 => 209 | 266 => 186 | 314 => 239 | n => n, fun | 9 => 9 | 3 => 3 | 4 => 4 | 5 => 5 | 46 => 117 | 146 => 210 | 51 => 104 | n => n, fun | 1 => 1 | n => n⟩
theorem Tryz.l_Lays_n219 : Go.Proofs.Lays.n219 Tryz.prog Tryz.l_Lays_n219_ren := {
  mixed := by kernel_rfl
  f217 := Tryz.func148.trans (congrArg some (by kernel_rfl))
  f219 := Tryz.func166.trans (congrArg some (by kernel_rfl))
  f224 := Tryz.func208.trans (congrArg some (by kernel_rfl))
  f225 := Tryz.func207.trans (congrArg some (by kernel_rfl))
  f266 := Tryz.func186.trans (congrArg some (by kernel_rfl))
  f267 := Tryz.func209.trans (congrArg some (by kernel_rfl))
  f314 := Tryz.func239.trans (congrArg some (by kernel_rfl))
  t3 := Tryz.underlying3
  a3 := Tryz.isAgg3
  z3 := Tryz.sizeOf3
  v3 := Tryz.zeroValue3
  t4 := Tryz.underlying4
  a4 := Tryz.isAgg4
  z4 := Tryz.sizeOf4
  v4 := Tryz.zeroValue4
  t5 := Tryz.underlying5
  a5 := Tryz.isAgg5
  z5 := Tryz.sizeOf5
  v5 := Tryz.zeroValue5
  t9 := Tryz.underlying9
  a9 := Tryz.isAgg9
  z9 := Tryz.sizeOf9
  v9 := Tryz.zeroValue9
  t46 := Tryz.underlying117
  a46 := Tryz.isAgg117
  z46 := Tryz.sizeOf117
  v46 := Tryz.zeroValue117
  t51 := Tryz.underlying104
  a51 := Tryz.isAgg104
  z51 := Tryz.sizeOf104
  v51 := Tryz.zeroValue104
  t146 := Tryz.underlying210
  a146 := Tryz.isAgg210
  z146 := Tryz.sizeOf210
  v146 := Tryz.zeroValue210
  g1 := by kernel_rfl }
theorem idx1_ok (s : ByteArray) (p : ByteArray) (hp : p.size = 1) : FnOk cfg 166 ([vS s, vS p].map SV.den) (vI (Lib.indexByte s.data.toList (p.data.toList.getD 0 0)) : SV).den :=
  fnOk_shelf (rv := Value.int .i64 (Lib.indexByte s.data.toList (p.data.toList.getD 0 0))) ⟨_, Tryz.func166, rfl, rfl⟩ rfl (fun M wf => by
    have := Any.stringslite_Index_one Tryz.l_Lays_n219 s (p.data.toList.getD 0 0) M.w
    rw [← one_byte hp] at this
    exact this.mono fun e w' h => ⟨h.1, h.2 ▸ Below.refl _ _⟩) (fun _ _ => RepI.lit _)
noncomputable def c_idx1 : SpecF := fun args _ K => match args with
  | [.one (.c (.str s)), .one (.c (.str p))] => bif decide (p.size = 1) then K (vI (Lib.indexByte s.data.toList (p.data.toList.getD 0 0))) [] else none
  | _ => none
theorem c_idx1_ok : SpecOk cfg 166 c_idx1 := by
  intro args bx K out h
  unfold c_idx1 at h
  split at h
  · obtain ⟨hp, h⟩ := bif_some h
    exact ⟨_, _, h, .inl (idx1_ok _ _ (of_decide_eq_true hp) _), by simp [isTupS]⟩
  · cases h
def Tryz.l_Lays_n172_ren : Go.Shelf.Ren := ⟨fun | 172 => 151 | 244 => 190 | 245 => 191 | 247 => 219 | 279 => 220 | 280 => 221 | 281 => 222 | 282 => 223 | 287 => 246 | 316 => 247 | 171 => 96 | 205 => 248 | 321 => 260 | 322 => 261 | 243 => 138 | 246 => 177 | 283 => 196 | 284 => 197 | 285 => 198 | 286 => 199 | 129 => 225 | 317 => 224 | 318 => 226 | 319 => 227 | 320 => 228 | 337 => 249 | 338 => 250 | n => n, fun | 9 => 9 | 3 => 3 | 75 => 100 | 76 => 101 | 4 => 4 | 5 => 5 | 167 => 240 | 37 => 48 | 0 => 0 | 85 => 241 | 2 => 2 | 168 => 243 | 53 => 59 | 175 => 250 | 46 => 117 | 210 => 266 | 127 => 151 | 145 => 284 | 143 => 282 | 21 => 21 | 171 => 225 | 173 => 228 | 212 => 246 | 51 => 104 | 20 => 20 | 213 => 247 | 232 => 285 | 233 => 286 | 80 => 108 | n => n, fun | 15 => 3 | 16 => 4 | 17 => 2 | 18 => 7 | 19 => 8 | n => n⟩
theorem Tryz.l_Lays_n172 : Go.Proofs.Lays.n172 Tryz.prog Tryz.l_Lays_n172_ren := {
  mixed := by kernel_rfl
  f129 := Tryz.func225.trans (congrArg some (by kernel_rfl))
  f171 := Tryz.func96.trans (congrArg some (by kernel_rfl))
  f172 := Tryz.func151.trans (congrArg some (by kernel_rfl))
  f205 := Tryz.func248.trans (congrArg some (by kernel_rfl))
  f243 := Tryz.func138.trans (congrArg some (by kernel_rfl))
  f244 := Tryz.func190.trans (congrArg some (by kernel_rfl))
  f245 := Tryz.func191.trans (congrArg some (by kernel_rfl))
  f246 := Tryz.func177.trans (congrArg some (by kernel_rfl))
  f247 := Tryz.func219.trans (congrArg some (by kernel_rfl))
  f279 := Tryz.func220.trans (congrArg some (by kernel_rfl))
  f280 := Tryz.func221.trans (congrArg some (by kernel_rfl))
  f281 := Tryz.func222.trans (congrArg some (by kernel_rfl))
  f282 := Tryz.func223.trans (congrArg some (by kernel_rfl))
  f283 := Tryz.func196.trans (congrArg some (by kernel_rfl))
  f284 := Tryz.func197.trans (congrArg some (by kernel_rfl))
  f285 := Tryz.func198.trans (congrArg some (by kernel_rfl))
  f286 := Tryz.func199.trans (congrArg some (by kernel_rfl))
  f287 := Tryz.func246.trans (congrArg some (by kernel_rfl))
  f316 := Tryz.func247.trans (congrArg some (by kernel_rfl))
  f317 := Tryz.func224.trans (congrArg some (by kernel_rfl))
  f318 := Tryz.func226.trans (congrArg some (by kernel_rfl))
  f319 := Tryz.func227.trans (congrArg some (by kernel_rfl))
  f320 := Tryz.func228.trans (congrArg some (by kernel_rfl))
  f321 := Tryz.func260.trans (congrArg some (by kernel_rfl))
  f322 := Tryz.func261.trans (congrArg some (by kernel_rfl))
  f337 := Tryz.func249.trans (congrArg some (by kernel_rfl))
  f338 := Tryz.func250.trans (congrArg some (by kernel_rfl))
  t0 := Tryz.underlying0
  a0 := Tryz.isAgg0
  z0 := Tryz.sizeOf0
  v0 := Tryz.zeroValue0
  t2 := Tryz.underlying2
  a2 := Tryz.isAgg2
  z2 := Tryz.sizeOf2
  v2 := Tryz.zeroValue2
  t3 := Tryz.underlying3
  a3 := Tryz.isAgg3
  z3 := Tryz.sizeOf3
  v3 := Tryz.zeroValue3
  t4 := Tryz.underlying4
  a4 := Tryz.isAgg4
  z4 := Tryz.sizeOf4
  v4 := Tryz.zeroValue4
  t5 := Tryz.underlying5
  a5 := Tryz.isAgg5
  z5 := Tryz.sizeOf5
  v5 := Tryz.zeroValue5
  t9 := Tryz.underlying9
  a9 := Tryz.isAgg9
  z9 := Tryz.sizeOf9
  v9 := Tryz.zeroValue9
  t20 := Tryz.underlying20
  a20 := Tryz.isAgg20
  z20 := Tryz.sizeOf20
  v20 := Tryz.zeroValue20
  t21 := Tryz.underlying21
  a21 := Tryz.isAgg21
  z21 := Tryz.sizeOf21
  v21 := Tryz.zeroValue21
  t37 := Tryz.underlying48
  a37 := Tryz.isAgg48
  z37 := Tryz.sizeOf48
  v37 := Tryz.zeroValue48
  t46 := Tryz.underlying117
  a46 := Tryz.isAgg117
  z46 := Tryz.sizeOf117
  v46 := Tryz.zeroValue117
  t51 := Tryz.underlying104
  a51 := Tryz.isAgg104
  z51 := Tryz.sizeOf104
  v51 := Tryz.zeroValue104
  t53 := Tryz.underlying59
  a53 := Tryz.isAgg59
  z53 := Tryz.sizeOf59
  v53 := Tryz.zeroValue59
  t75 := Tryz.underlying100
  a75 := Tryz.isAgg100
  z75 := Tryz.sizeOf100
  v75 := Tryz.zeroValue100
  t76 := Tryz.underlying101
  a76 := Tryz.isAgg101
  z76 := Tryz.sizeOf101
  v76 := Tryz.zeroValue101
  t85 := Tryz.underlying241
  a85 := Tryz.isAgg241
  z85 := Tryz.sizeOf241
  v85 := Tryz.zeroValue241
  t127 := Tryz.underlying151
  a127 := Tryz.isAgg151
  z127 := Tryz.sizeOf151
  v127 := Tryz.zeroValue151
  t143 := Tryz.underlying282
  a143 := Tryz.isAgg282
  z143 := Tryz.sizeOf282
  v143 := Tryz.zeroValue282
  t145 := Tryz.underlying284
  a145 := Tryz.isAgg284
  z145 := Tryz.sizeOf284
  v145 := Tryz.zeroValue284
  t167 := Tryz.underlying240
  a167 := Tryz.isAgg240
  z167 := Tryz.sizeOf240
  v167 := Tryz.zeroValue240
  t168 := Tryz.underlying243
  a168 := Tryz.isAgg243
  z168 := Tryz.sizeOf243
  v168 := Tryz.zeroValue243
  t171 := Tryz.underlying225
  a171 := Tryz.isAgg225
  z171 := Tryz.sizeOf225
  v171 := Tryz.zeroValue225
  t173 := Tryz.underlying228
  a173 := Tryz.isAgg228
  z173 := Tryz.sizeOf228
  v173 := Tryz.zeroValue228
  t175 := Tryz.underlying250
  a175 := Tryz.isAgg250
  z175 := Tryz.sizeOf250
  v175 := Tryz.zeroValue250
  t210 := Tryz.underlying266
  a210 := Tryz.isAgg266
  z210 := Tryz.sizeOf266
  v210 := Tryz.zeroValue266
  t212 := Tryz.underlying246
  a212 := Tryz.isAgg246
  z212 := Tryz.sizeOf246
  v212 := Tryz.zeroValue246
  t213 := Tryz.underlying247
  a213 := Tryz.isAgg247
  z213 := Tryz.sizeOf247
  t232 := Tryz.underlying285
  a232 := Tryz.isAgg285
  z232 := Tryz.sizeOf285
  v232 := Tryz.zeroValue285
  t233 := Tryz.underlying286
  a233 := Tryz.isAgg286
  z233 := Tryz.sizeOf286
  v233 := Tryz.zeroValue286
  g15 := by kernel_rfl
  g16 := by kernel_rfl
  g17 := by kernel_rfl
  g18 := by kernel_rfl
  g19 := by kernel_rfl }
theorem atoi_ok (s : ByteArray) (hp : s.size ≤ 18 ∧ (Lib.atoi s.data.toList).isSome = true) : FnOk cfg 151 ([vS s].map SV.den) (.tup [tI ((Lib.atoi s.data.toList).getD 0), .c (.val .nilIface)] : SV).den :=
  fnOk_shelf (rv := Value.tuple #[.int .i64 ((Lib.atoi s.data.toList).getD 0), .nilIface]) ⟨_, Tryz.func151, rfl, rfl⟩ rfl (fun M wf => by
    obtain ⟨n, hn⟩ := Option.isSome_iff_exists.1 hp.2
    have := Any.strconv_Atoi Tryz.l_Lays_n172 s n hp.1 hn M.w
    rw [hn]
    exact this.mono fun e w' ⟨h, t, hw⟩ => ⟨h, hw ▸ Lib.bytesWorld_below _ _ _⟩) (fun _ _ => ⟨_, rfl, rfl, fun i h1 h2 => by
      match i, h1 with
      | 0, _ => exact RepI.lit _
      | 1, _ => exact RepI.lit _⟩)
noncomputable def c_atoi : SpecF := fun args _ K => match args with
  | [.one (.c (.str s))] => bif decide (s.size ≤ 18 ∧ (Lib.atoi s.data.toList).isSome = true) then K (.tup [tI ((Lib.atoi s.data.toList).getD 0), .c (.val .nilIface)]) [] else none
  | _ => none
theorem c_atoi_ok : SpecOk cfg 151 c_atoi := by
  intro args bx K out h
  unfold c_atoi at h
  split at h
  · obtain ⟨hp, h⟩ := bif_some h
    exact ⟨_, _, h, .inl (atoi_ok _ (of_decide_eq_true hp) _), by simp [isTupS]⟩
  · cases h
end Go.Proofs.YtldofkogmkfpjaaGreatDoor
