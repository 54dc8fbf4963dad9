/-
  The contracts of Go's library that layer 10 uses, off the kit's shelf.
-/
import Derived.Test.YtldofkogmkfpjaaDoorDeSyShelf
import Derived.Test.YtldofkogmkfpjaaDoorPLex
import Derived.Shelf.Small.Wraps
import Derived.Shelf.Strings.Prefix
import Derived.Shelf.Strings.SlTrimAscii
import Derived.Shelf.Strings.Search2
import Derived.Shelf.Strconv.Atoi
import Derived.Lib.AtoiErrMem
namespace Go.Proofs.YtldofkogmkfpjaaDoor
open Go Go.Ev Go.Sy
set_option linter.unusedSimpArgs false
set_option linter.unusedVariables false
set_option maxRecDepth 10000
set_option maxHeartbeats 4000000
open Go.Shelf Go.RowKit Go.Sort
def Tryd.l_Lays_n99_ren : Go.Shelf.Ren := ⟨fun | 99 => 73 | 206 => 114 | n => n, fun | 9 => 9 | 4 => 4 | 3 => 3 | n => n, fun | n => n⟩
theorem Tryd.l_Lays_n99 : Go.Proofs.Lays.n99 Tryd.prog Tryd.l_Lays_n99_ren := {
  mixed := by kernel_rfl
  f99 := Tryd.func73.trans (congrArg some (by kernel_rfl))
  f206 := Tryd.func114.trans (congrArg some (by kernel_rfl))
  t3 := Tryd.underlying3
  a3 := Tryd.isAgg3
  z3 := Tryd.sizeOf3
  v3 := Tryd.zeroValue3
  t4 := Tryd.underlying4
  a4 := Tryd.isAgg4
  z4 := Tryd.sizeOf4
  v4 := Tryd.zeroValue4
  t9 := Tryd.underlying9
  a9 := Tryd.isAgg9
  z9 := Tryd.sizeOf9
  v9 := Tryd.zeroValue9 }
theorem hasp_ok (s : ByteArray) (p : ByteArray) : FnOk cfg 73 ([vS s, vS p].map SV.den) (vB (Lib.hasPrefix s.data.toList p.data.toList) : SV).den :=
  fnOk_shelf (rv := Value.bool (Lib.hasPrefix s.data.toList p.data.toList)) ⟨_, Tryd.func73, rfl, rfl⟩ rfl (fun M wf => (Any.strings_HasPrefix Tryd.l_Lays_n99 s p M.w).mono fun e w' h => ⟨h.1, h.2 ▸ Below.refl _ _⟩) (fun _ _ => RepI.lit _)
noncomputable def c_hasp : SpecF := fun args _ K => match args with
  | [.one (.c (.str s)), .one (.c (.str p))] => K (vB (Lib.hasPrefix s.data.toList p.data.toList)) []
  | _ => none
theorem c_hasp_ok : SpecOk cfg 73 c_hasp := by
  intro args bx K out h
  unfold c_hasp at h
  split at h
  · exact ⟨_, _, h, .inl (hasp_ok _ _ _), by simp [isTupS]⟩
  · cases h
theorem ascii_all {p : ByteArray} (h : (p.data.toList.all fun b => decide (b.toNat < 128)) = true) : ∀ (j : Nat) b, p.data.toList[j]? = some b → b.toNat < 128 := fun j b e => by
  rw [List.all_eq_true] at h
  exact of_decide_eq_true (h b (List.mem_of_getElem? e))
def Tryd.l_Lays_n161_ren : Go.Shelf.Ren := ⟨fun | 161 => 141 | 231 => 165 | 227 => 152 | 233 => 166 | 235 => 167 | 228 => 176 | 197 => 188 | 151 => 178 | 260 => 205 | 152 => 198 | 137 => 121 | 119 => 208 | 224 => 172 | 225 => 171 | 217 => 149 | 266 => 175 | n => n, fun | 9 => 9 | 4 => 4 | 3 => 3 | 5 => 5 | 117 => 180 | 116 => 179 | 0 => 0 | 124 => 183 | 105 => 193 | 21 => 21 | 119 => 226 | 46 => 87 | 139 => 229 | 138 => 228 | n => n, fun | 3 => 7 | 4 => 8 | n => n⟩
theorem Tryd.l_Lays_n161 : Go.Proofs.Lays.n161 Tryd.prog Tryd.l_Lays_n161_ren := {
  mixed := by kernel_rfl
  f119 := Tryd.func208.trans (congrArg some (by kernel_rfl))
  f137 := Tryd.func121.trans (congrArg some (by kernel_rfl))
  f151 := Tryd.func178.trans (congrArg some (by kernel_rfl))
  f152 := Tryd.func198.trans (congrArg some (by kernel_rfl))
  f161 := Tryd.func141.trans (congrArg some (by kernel_rfl))
  f197 := Tryd.func188.trans (congrArg some (by kernel_rfl))
  f217 := Tryd.func149.trans (congrArg some (by kernel_rfl))
  f224 := Tryd.func172.trans (congrArg some (by kernel_rfl))
  f225 := Tryd.func171.trans (congrArg some (by kernel_rfl))
  f227 := Tryd.func152.trans (congrArg some (by kernel_rfl))
  f228 := Tryd.func176.trans (congrArg some (by kernel_rfl))
  f231 := Tryd.func165.trans (congrArg some (by kernel_rfl))
  f233 := Tryd.func166.trans (congrArg some (by kernel_rfl))
  f235 := Tryd.func167.trans (congrArg some (by kernel_rfl))
  f260 := Tryd.func205.trans (congrArg some (by kernel_rfl))
  f266 := Tryd.func175.trans (congrArg some (by kernel_rfl))
  t0 := Tryd.underlying0
  a0 := Tryd.isAgg0
  z0 := Tryd.sizeOf0
  v0 := Tryd.zeroValue0
  t3 := Tryd.underlying3
  a3 := Tryd.isAgg3
  z3 := Tryd.sizeOf3
  v3 := Tryd.zeroValue3
  t4 := Tryd.underlying4
  a4 := Tryd.isAgg4
  z4 := Tryd.sizeOf4
  v4 := Tryd.zeroValue4
  t5 := Tryd.underlying5
  a5 := Tryd.isAgg5
  z5 := Tryd.sizeOf5
  v5 := Tryd.zeroValue5
  t9 := Tryd.underlying9
  a9 := Tryd.isAgg9
  z9 := Tryd.sizeOf9
  v9 := Tryd.zeroValue9
  t21 := Tryd.underlying21
  a21 := Tryd.isAgg21
  z21 := Tryd.sizeOf21
  v21 := Tryd.zeroValue21
  t46 := Tryd.underlying87
  a46 := Tryd.isAgg87
  z46 := Tryd.sizeOf87
  v46 := Tryd.zeroValue87
  t105 := Tryd.underlying193
  a105 := Tryd.isAgg193
  z105 := Tryd.sizeOf193
  v105 := Tryd.zeroValue193
  t116 := Tryd.underlying179
  a116 := Tryd.isAgg179
  z116 := Tryd.sizeOf179
  t117 := Tryd.underlying180
  a117 := Tryd.isAgg180
  z117 := Tryd.sizeOf180
  v117 := Tryd.zeroValue180
  t119 := Tryd.underlying226
  a119 := Tryd.isAgg226
  z119 := Tryd.sizeOf226
  t124 := Tryd.underlying183
  a124 := Tryd.isAgg183
  z124 := Tryd.sizeOf183
  v124 := Tryd.zeroValue183
  t138 := Tryd.underlying228
  a138 := Tryd.isAgg228
  z138 := Tryd.sizeOf228
  v138 := Tryd.zeroValue228
  t139 := Tryd.underlying229
  a139 := Tryd.isAgg229
  z139 := Tryd.sizeOf229
  v139 := Tryd.zeroValue229
  g3 := by kernel_rfl
  g4 := by kernel_rfl }
theorem triml_ok (s : ByteArray) (p : ByteArray) (hp : (p.data.toList.all fun b => decide (b.toNat < 128)) = true ∧ p.size ≤ 100) : FnOk cfg 141 ([vS s, vS p].map SV.den) (vS (tx (Lib.trimLeftS s.data.toList p.data.toList)) : SV).den :=
  fnOk_shelf (rv := Value.string (tx (Lib.trimLeftS s.data.toList p.data.toList))) ⟨_, Tryd.func141, rfl, rfl⟩ rfl (fun M wf => Any.strings_TrimLeft_laid Tryd.l_Lays_n161 (by kernel_rfl) s p M.w (by have := hp.2; omega) (ascii_all hp.1)) (fun _ _ => RepI.lit _)
noncomputable def c_triml : SpecF := fun args _ K => match args with
  | [.one (.c (.str s)), .one (.c (.str p))] => bif decide ((p.data.toList.all fun b => decide (b.toNat < 128)) = true ∧ p.size ≤ 100) then K (vS (tx (Lib.trimLeftS s.data.toList p.data.toList))) [] else none
  | _ => none
theorem c_triml_ok : SpecOk cfg 141 c_triml := by
  intro args bx K out h
  unfold c_triml at h
  split at h
  · obtain ⟨hp, h⟩ := bif_some h
    exact ⟨_, _, h, .inl (triml_ok _ _ (of_decide_eq_true hp) _), by simp [isTupS]⟩
  · cases h
theorem one_byte {p : ByteArray} (h : p.size = 1) : p = ⟨#[p.data.toList.getD 0 0]⟩ := by
  obtain ⟨⟨l⟩⟩ := p
  match l, h with
  | [c], _ => rfl
def Tryd.l_Lays_n219_ren : Go.Shelf.Ren := ⟨fun | 219 => 147 | 217 => 149 | 225 => 171 | 224 => 172 | 267 => 173 | 266 => 175 | 314 => 196 | n => n, fun | 9 => 9 | 3 => 3 | 4 => 4 | 5 => 5 | 46 => 87 | 146 => 188 | 51 => 59 | n => n, fun | 1 => 1 | n => n⟩
theorem Tryd.l_Lays_n219 : Go.Proofs.Lays.n219 Tryd.prog Tryd.l_Lays_n219_ren := {
  mixed := by kernel_rfl
  f217 := Tryd.func149.trans (congrArg some (by kernel_rfl))
  f219 := Tryd.func147.trans (congrArg some (by kernel_rfl))
  f224 := Tryd.func172.trans (congrArg some (by kernel_rfl))
  f225 := Tryd.func171.trans (congrArg some (by kernel_rfl))
  f266 := Tryd.func175.trans (congrArg some (by kernel_rfl))
  f267 := Tryd.func173.trans (congrArg some (by kernel_rfl))
  f314 := Tryd.func196.trans (congrArg some (by kernel_rfl))
  t3 := Tryd.underlying3
  a3 := Tryd.isAgg3
  z3 := Tryd.sizeOf3
  v3 := Tryd.zeroValue3
  t4 := Tryd.underlying4
  a4 := Tryd.isAgg4
  z4 := Tryd.sizeOf4
  v4 := Tryd.zeroValue4
  t5 := Tryd.underlying5
  a5 := Tryd.isAgg5
  z5 := Tryd.sizeOf5
  v5 := Tryd.zeroValue5
  t9 := Tryd.underlying9
  a9 := Tryd.isAgg9
  z9 := Tryd.sizeOf9
  v9 := Tryd.zeroValue9
  t46 := Tryd.underlying87
  a46 := Tryd.isAgg87
  z46 := Tryd.sizeOf87
  v46 := Tryd.zeroValue87
  t51 := Tryd.underlying59
  a51 := Tryd.isAgg59
  z51 := Tryd.sizeOf59
  v51 := Tryd.zeroValue59
  t146 := Tryd.underlying188
  a146 := Tryd.isAgg188
  z146 := Tryd.sizeOf188
  v146 := Tryd.zeroValue188
  g1 := by kernel_rfl }
theorem idx1_ok (s : ByteArray) (p : ByteArray) (hp : p.size = 1) : FnOk cfg 147 ([vS s, vS p].map SV.den) (vI (Lib.indexByte s.data.toList (p.data.toList.getD 0 0)) : SV).den :=
  fnOk_shelf (rv := Value.int .i64 (Lib.indexByte s.data.toList (p.data.toList.getD 0 0))) ⟨_, Tryd.func147, rfl, rfl⟩ rfl (fun M wf => by
    have := Any.stringslite_Index_one Tryd.l_Lays_n219 s (p.data.toList.getD 0 0) M.w
    rw [← one_byte hp] at this
    exact this.mono fun e w' h => ⟨h.1, h.2 ▸ Below.refl _ _⟩) (fun _ _ => RepI.lit _)
noncomputable def c_idx1 : SpecF := fun args _ K => match args with
  | [.one (.c (.str s)), .one (.c (.str p))] => bif decide (p.size = 1) then K (vI (Lib.indexByte s.data.toList (p.data.toList.getD 0 0))) [] else none
  | _ => none
theorem c_idx1_ok : SpecOk cfg 147 c_idx1 := by
  intro args bx K out h
  unfold c_idx1 at h
  split at h
  · obtain ⟨hp, h⟩ := bif_some h
    exact ⟨_, _, h, .inl (idx1_ok _ _ (of_decide_eq_true hp) _), by simp [isTupS]⟩
  · cases h
def Tryd.l_Lays_n172_ren : Go.Shelf.Ren := ⟨fun | 172 => 144 | 244 => 168 | 245 => 169 | 247 => 189 | 279 => 190 | 280 => 191 | 281 => 192 | 282 => 193 | 287 => 170 | 316 => 206 | 171 => 99 | 205 => 207 | 321 => 194 | 322 => 195 | 243 => 133 | 246 => 161 | 283 => 184 | 284 => 185 | 285 => 186 | 286 => 187 | 129 => 201 | 317 => 200 | 318 => 202 | 319 => 203 | 320 => 204 | 337 => 210 | 338 => 211 | n => n, fun | 9 => 9 | 3 => 3 | 75 => 158 | 76 => 159 | 4 => 4 | 5 => 5 | 167 => 207 | 37 => 57 | 0 => 0 | 85 => 208 | 2 => 2 | 168 => 210 | 53 => 39 | 175 => 173 | 46 => 87 | 210 => 222 | 127 => 184 | 145 => 232 | 143 => 230 | 21 => 21 | 171 => 202 | 173 => 205 | 212 => 217 | 51 => 59 | 20 => 20 | 213 => 218 | 232 => 233 | 233 => 234 | 80 => 161 | n => n, fun | 15 => 3 | 16 => 4 | 17 => 2 | 18 => 9 | 19 => 10 | n => n⟩
theorem Tryd.l_Lays_n172 : Go.Proofs.Lays.n172 Tryd.prog Tryd.l_Lays_n172_ren := {
  mixed := by kernel_rfl
  f129 := Tryd.func201.trans (congrArg some (by kernel_rfl))
  f171 := Tryd.func99.trans (congrArg some (by kernel_rfl))
  f172 := Tryd.func144.trans (congrArg some (by kernel_rfl))
  f205 := Tryd.func207.trans (congrArg some (by kernel_rfl))
  f243 := Tryd.func133.trans (congrArg some (by kernel_rfl))
  f244 := Tryd.func168.trans (congrArg some (by kernel_rfl))
  f245 := Tryd.func169.trans (congrArg some (by kernel_rfl))
  f246 := Tryd.func161.trans (congrArg some (by kernel_rfl))
  f247 := Tryd.func189.trans (congrArg some (by kernel_rfl))
  f279 := Tryd.func190.trans (congrArg some (by kernel_rfl))
  f280 := Tryd.func191.trans (congrArg some (by kernel_rfl))
  f281 := Tryd.func192.trans (congrArg some (by kernel_rfl))
  f282 := Tryd.func193.trans (congrArg some (by kernel_rfl))
  f283 := Tryd.func184.trans (congrArg some (by kernel_rfl))
  f284 := Tryd.func185.trans (congrArg some (by kernel_rfl))
  f285 := Tryd.func186.trans (congrArg some (by kernel_rfl))
  f286 := Tryd.func187.trans (congrArg some (by kernel_rfl))
  f287 := Tryd.func170.trans (congrArg some (by kernel_rfl))
  f316 := Tryd.func206.trans (congrArg some (by kernel_rfl))
  f317 := Tryd.func200.trans (congrArg some (by kernel_rfl))
  f318 := Tryd.func202.trans (congrArg some (by kernel_rfl))
  f319 := Tryd.func203.trans (congrArg some (by kernel_rfl))
  f320 := Tryd.func204.trans (congrArg some (by kernel_rfl))
  f321 := Tryd.func194.trans (congrArg some (by kernel_rfl))
  f322 := Tryd.func195.trans (congrArg some (by kernel_rfl))
  f337 := Tryd.func210.trans (congrArg some (by kernel_rfl))
  f338 := Tryd.func211.trans (congrArg some (by kernel_rfl))
  t0 := Tryd.underlying0
  a0 := Tryd.isAgg0
  z0 := Tryd.sizeOf0
  v0 := Tryd.zeroValue0
  t2 := Tryd.underlying2
  a2 := Tryd.isAgg2
  z2 := Tryd.sizeOf2
  v2 := Tryd.zeroValue2
  t3 := Tryd.underlying3
  a3 := Tryd.isAgg3
  z3 := Tryd.sizeOf3
  v3 := Tryd.zeroValue3
  t4 := Tryd.underlying4
  a4 := Tryd.isAgg4
  z4 := Tryd.sizeOf4
  v4 := Tryd.zeroValue4
  t5 := Tryd.underlying5
  a5 := Tryd.isAgg5
  z5 := Tryd.sizeOf5
  v5 := Tryd.zeroValue5
  t9 := Tryd.underlying9
  a9 := Tryd.isAgg9
  z9 := Tryd.sizeOf9
  v9 := Tryd.zeroValue9
  t20 := Tryd.underlying20
  a20 := Tryd.isAgg20
  z20 := Tryd.sizeOf20
  v20 := Tryd.zeroValue20
  t21 := Tryd.underlying21
  a21 := Tryd.isAgg21
  z21 := Tryd.sizeOf21
  v21 := Tryd.zeroValue21
  t37 := Tryd.underlying57
  a37 := Tryd.isAgg57
  z37 := Tryd.sizeOf57
  v37 := Tryd.zeroValue57
  t46 := Tryd.underlying87
  a46 := Tryd.isAgg87
  z46 := Tryd.sizeOf87
  v46 := Tryd.zeroValue87
  t51 := Tryd.underlying59
  a51 := Tryd.isAgg59
  z51 := Tryd.sizeOf59
  v51 := Tryd.zeroValue59
  t53 := Tryd.underlying39
  a53 := Tryd.isAgg39
  z53 := Tryd.sizeOf39
  v53 := Tryd.zeroValue39
  t75 := Tryd.underlying158
  a75 := Tryd.isAgg158
  z75 := Tryd.sizeOf158
  v75 := Tryd.zeroValue158
  t76 := Tryd.underlying159
  a76 := Tryd.isAgg159
  z76 := Tryd.sizeOf159
  v76 := Tryd.zeroValue159
  t85 := Tryd.underlying208
  a85 := Tryd.isAgg208
  z85 := Tryd.sizeOf208
  v85 := Tryd.zeroValue208
  t127 := Tryd.underlying184
  a127 := Tryd.isAgg184
  z127 := Tryd.sizeOf184
  v127 := Tryd.zeroValue184
  t143 := Tryd.underlying230
  a143 := Tryd.isAgg230
  z143 := Tryd.sizeOf230
  v143 := Tryd.zeroValue230
  t145 := Tryd.underlying232
  a145 := Tryd.isAgg232
  z145 := Tryd.sizeOf232
  v145 := Tryd.zeroValue232
  t167 := Tryd.underlying207
  a167 := Tryd.isAgg207
  z167 := Tryd.sizeOf207
  v167 := Tryd.zeroValue207
  t168 := Tryd.underlying210
  a168 := Tryd.isAgg210
  z168 := Tryd.sizeOf210
  v168 := Tryd.zeroValue210
  t171 := Tryd.underlying202
  a171 := Tryd.isAgg202
  z171 := Tryd.sizeOf202
  v171 := Tryd.zeroValue202
  t173 := Tryd.underlying205
  a173 := Tryd.isAgg205
  z173 := Tryd.sizeOf205
  v173 := Tryd.zeroValue205
  t175 := Tryd.underlying173
  a175 := Tryd.isAgg173
  z175 := Tryd.sizeOf173
  v175 := Tryd.zeroValue173
  t210 := Tryd.underlying222
  a210 := Tryd.isAgg222
  z210 := Tryd.sizeOf222
  v210 := Tryd.zeroValue222
  t212 := Tryd.underlying217
  a212 := Tryd.isAgg217
  z212 := Tryd.sizeOf217
  v212 := Tryd.zeroValue217
  t213 := Tryd.underlying218
  a213 := Tryd.isAgg218
  z213 := Tryd.sizeOf218
  t232 := Tryd.underlying233
  a232 := Tryd.isAgg233
  z232 := Tryd.sizeOf233
  v232 := Tryd.zeroValue233
  t233 := Tryd.underlying234
  a233 := Tryd.isAgg234
  z233 := Tryd.sizeOf234
  v233 := Tryd.zeroValue234
  g15 := by kernel_rfl
  g16 := by kernel_rfl
  g17 := by kernel_rfl
  g18 := by kernel_rfl
  g19 := by kernel_rfl }
theorem atoi_ok (s : ByteArray) (hp : s.size ≤ 18 ∧ (Lib.atoi s.data.toList).isSome = true) : FnOk cfg 144 ([vS s].map SV.den) (.tup [tI ((Lib.atoi s.data.toList).getD 0), .c (.val .nilIface)] : SV).den :=
  fnOk_shelf (rv := Value.tuple #[.int .i64 ((Lib.atoi s.data.toList).getD 0), .nilIface]) ⟨_, Tryd.func144, rfl, rfl⟩ rfl (fun M wf => by
    obtain ⟨n, hn⟩ := Option.isSome_iff_exists.1 hp.2
    have := Any.strconv_Atoi Tryd.l_Lays_n172 s n hp.1 hn M.w
    rw [hn]
    exact this.mono fun e w' ⟨h, t, hw⟩ => ⟨h, hw ▸ Lib.bytesWorld_below _ _ _⟩) (fun _ _ => ⟨_, rfl, rfl, fun i h1 h2 => by
      match i, h1 with
      | 0, _ => exact RepI.lit _
      | 1, _ => exact RepI.lit _⟩)
noncomputable def c_atoi : SpecF := fun args _ K => match args with
  | [.one (.c (.str s))] => bif decide (s.size ≤ 18 ∧ (Lib.atoi s.data.toList).isSome = true) then K (.tup [tI ((Lib.atoi s.data.toList).getD 0), .c (.val .nilIface)]) [] else none
  | _ => none
theorem c_atoi_ok : SpecOk cfg 144 c_atoi := by
  intro args bx K out h
  unfold c_atoi at h
  split at h
  · obtain ⟨hp, h⟩ := bif_some h
    exact ⟨_, _, h, .inl (atoi_ok _ (of_decide_eq_true hp) _), by simp [isTupS]⟩
  · cases h
end Go.Proofs.YtldofkogmkfpjaaDoor
