/-
  The contracts of Go's library that layer 11 uses, off the kit's shelf.
-/
import Derived.Test.YtldofkogmkfpjaaGreatDoorWLzSyTy
import Derived.Test.YtldofkogmkfpjaaGreatDoorWPLexLaw
import Derived.Test.YtldofkogmkfpjaaGreatDoorWSyJoin
import Derived.Shelf.Small.Wraps
import Derived.Shelf.Small.Strs
import Derived.Shelf.Strings.Repeat
import Derived.Shelf.Strings.OnBuilder
import Derived.Shelf.Strconv.Itoa3
namespace Go.Proofs.YtldofkogmkfpjaaGreatDoor
open Go Go.Ev Go.Sy
set_option linter.unusedSimpArgs false
set_option linter.unusedVariables false
set_option maxRecDepth 10000
set_option maxHeartbeats 4000000
open Go.Shelf Go.RowKit Go.Sort
theorem belowG (w : World) (k : Nat) (os : Array Obj) : Below w.heap.size w (grow (w.drewN k) os) :=
  ⟨rfl, rfl, rfl, by show w.heap.size ≤ (w.heap ++ os).size; rw [Array.size_append]; omega, fun j hj => Array.getElem?_append_left hj⟩
def Tryz.l_LaysM_n171_ren : Go.Shelf.Ren := ⟨fun | 171 => 96 | 243 => 138 | 246 => 177 | 283 => 196 | 284 => 197 | 285 => 198 | 286 => 199 | 129 => 225 | 317 => 224 | 318 => 226 | 319 => 227 | 320 => 228 | 337 => 249 | 338 => 250 | n => n, fun | 3 => 3 | 9 => 9 | 2 => 2 | 4 => 4 | 171 => 225 | 0 => 0 | 53 => 59 | 37 => 48 | 5 => 5 | 173 => 228 | 212 => 246 | 51 => 104 | 20 => 20 | 213 => 247 | 46 => 117 | 232 => 285 | 233 => 286 | n => n, fun | 17 => 2 | 18 => 7 | 19 => 8 | n => n⟩
theorem Tryz.l_LaysM_n171 : Go.Proofs.LaysM.n171 Tryz.prog Tryz.l_LaysM_n171_ren := {
  mixed := by kernel_rfl
  f129 := Tryz.func225.trans (congrArg some (by kernel_rfl))
  f171 := Tryz.func96.trans (congrArg some (by kernel_rfl))
  f243 := Tryz.func138.trans (congrArg some (by kernel_rfl))
  f246 := Tryz.func177.trans (congrArg some (by kernel_rfl))
  f283 := Tryz.func196.trans (congrArg some (by kernel_rfl))
  f284 := Tryz.func197.trans (congrArg some (by kernel_rfl))
  f285 := Tryz.func198.trans (congrArg some (by kernel_rfl))
  f286 := Tryz.func199.trans (congrArg some (by kernel_rfl))
  f317 := Tryz.func224.trans (congrArg some (by kernel_rfl))
  f318 := Tryz.func226.trans (congrArg some (by kernel_rfl))
  f319 := Tryz.func227.trans (congrArg some (by kernel_rfl))
  f320 := Tryz.func228.trans (congrArg some (by kernel_rfl))
  f337 := Tryz.func249.trans (congrArg some (by kernel_rfl))
  f338 := Tryz.func250.trans (congrArg some (by kernel_rfl))
  t0 := Tryz.underlying0
  a0 := Tryz.isAgg0
  z0 := Tryz.sizeOf0
  v0 := Tryz.zeroValue0
  t2 := Tryz.underlying2
  a2 := Tryz.isAgg2
  z2 := Tryz.sizeOf2
  v2 := Tryz.zeroValue2
  t3 := Tryz.underlying3
  a3 := Tryz.isAgg3
  z3 := Tryz.sizeOf3
  v3 := Tryz.zeroValue3
  t4 := Tryz.underlying4
  a4 := Tryz.isAgg4
  z4 := Tryz.sizeOf4
  v4 := Tryz.zeroValue4
  t5 := Tryz.underlying5
  a5 := Tryz.isAgg5
  z5 := Tryz.sizeOf5
  v5 := Tryz.zeroValue5
  t9 := Tryz.underlying9
  a9 := Tryz.isAgg9
  z9 := Tryz.sizeOf9
  v9 := Tryz.zeroValue9
  t20 := Tryz.underlying20
  a20 := Tryz.isAgg20
  z20 := Tryz.sizeOf20
  v20 := Tryz.zeroValue20
  t37 := Tryz.underlying48
  a37 := Tryz.isAgg48
  z37 := Tryz.sizeOf48
  v37 := Tryz.zeroValue48
  t46 := Tryz.underlying117
  a46 := Tryz.isAgg117
  z46 := Tryz.sizeOf117
  v46 := Tryz.zeroValue117
  t51 := Tryz.underlying104
  a51 := Tryz.isAgg104
  z51 := Tryz.sizeOf104
  v51 := Tryz.zeroValue104
  t53 := Tryz.underlying59
  a53 := Tryz.isAgg59
  z53 := Tryz.sizeOf59
  v53 := Tryz.zeroValue59
  t171 := Tryz.underlying225
  a171 := Tryz.isAgg225
  z171 := Tryz.sizeOf225
  v171 := Tryz.zeroValue225
  t173 := Tryz.underlying228
  a173 := Tryz.isAgg228
  z173 := Tryz.sizeOf228
  v173 := Tryz.zeroValue228
  t212 := Tryz.underlying246
  a212 := Tryz.isAgg246
  z212 := Tryz.sizeOf246
  v212 := Tryz.zeroValue246
  t213 := Tryz.underlying247
  a213 := Tryz.isAgg247
  z213 := Tryz.sizeOf247
  t232 := Tryz.underlying285
  a232 := Tryz.isAgg285
  z232 := Tryz.sizeOf285
  v232 := Tryz.zeroValue285
  t233 := Tryz.underlying286
  a233 := Tryz.isAgg286
  z233 := Tryz.sizeOf286
  v233 := Tryz.zeroValue286
  g17 := by kernel_rfl
  g18 := by kernel_rfl
  g19 := by kernel_rfl
  i0 := by kernel_rfl
  i2 := by kernel_rfl
  i3 := by kernel_rfl
  i4 := by kernel_rfl
  i5 := by kernel_rfl
  i9 := by kernel_rfl
  i20 := by kernel_rfl
  i37 := by kernel_rfl
  i46 := by kernel_rfl
  i51 := by kernel_rfl
  i53 := by kernel_rfl
  i171 := by kernel_rfl
  i173 := by kernel_rfl
  i212 := by kernel_rfl
  i232 := by kernel_rfl
  i233 := by kernel_rfl
  m17 := by kernel_rfl
  m18 := by kernel_rfl
  m19 := by kernel_rfl }
theorem itoa_ok (n : Int) (hp : isH n) : FnOk cfg 96 ([vI n].map SV.den) (vS (tx (Lib.itoa n)) : SV).den :=
  fnOk_shelf (rv := Value.string (tx (Lib.itoa n))) ⟨_, Tryz.func96, rfl, rfl⟩ rfl (fun M wf => (Any.strconv_Itoa Tryz.l_LaysM_n171 n hp.1 (by have := hp.2; omega) M.w (fix_var wf (g := 2) rfl (by kernel_rfl) (by decide))).mono fun e w' ⟨h, k, os, hw⟩ => ⟨h, hw ▸ belowG _ _ _⟩) (fun _ _ => RepI.lit _)
noncomputable def c_itoa : SpecF := fun args _ K => match args with
  | [.one (.c (.int .i64 n))] => bif decide (isH n) then K (vS (tx (Lib.itoa n))) [] else none
  | _ => none
theorem c_itoa_ok : SpecOk cfg 96 c_itoa := by
  intro args bx K out h
  unfold c_itoa at h
  split at h
  · obtain ⟨hp, h⟩ := bif_some h
    exact ⟨_, _, h, .inl (itoa_ok _ (of_decide_eq_true hp) _), by simp [isTupS]⟩
  · cases h
def Tryz.l_Lays_n105_ren : Go.Shelf.Ren := ⟨fun | 105 => 97 | 212 => 139 | 99 => 140 | 165 => 99 | 166 => 72 | 170 => 141 | 169 => 76 | 263 => 178 | 264 => 179 | 206 => 180 | 240 => 109 | 241 => 146 | 276 => 153 | 277 => 184 | n => n, fun | 9 => 9 | 3 => 3 | 4 => 4 | 20 => 20 | 0 => 0 | 46 => 117 | 109 => 176 | 5 => 5 | 72 => 98 | 76 => 101 | 51 => 104 | 146 => 210 | 53 => 59 | 148 => 212 | 70 => 96 | 37 => 48 | 75 => 100 | 127 => 151 | 164 => 187 | 80 => 108 | n => n, fun | n => n⟩
theorem Tryz.l_Lays_n105 : Go.Proofs.Lays.n105 Tryz.prog Tryz.l_Lays_n105_ren := {
  mixed := by kernel_rfl
  f99 := Tryz.func140.trans (congrArg some (by kernel_rfl))
  f105 := Tryz.func97.trans (congrArg some (by kernel_rfl))
  f165 := Tryz.func99.trans (congrArg some (by kernel_rfl))
  f166 := Tryz.func72.trans (congrArg some (by kernel_rfl))
  f169 := Tryz.func76.trans (congrArg some (by kernel_rfl))
  f170 := Tryz.func141.trans (congrArg some (by kernel_rfl))
  f206 := Tryz.func180.trans (congrArg some (by kernel_rfl))
  f212 := Tryz.func139.trans (congrArg some (by kernel_rfl))
  f240 := Tryz.func109.trans (congrArg some (by kernel_rfl))
  f241 := Tryz.func146.trans (congrArg some (by kernel_rfl))
  f263 := Tryz.func178.trans (congrArg some (by kernel_rfl))
  f264 := Tryz.func179.trans (congrArg some (by kernel_rfl))
  f276 := Tryz.func153.trans (congrArg some (by kernel_rfl))
  f277 := Tryz.func184.trans (congrArg some (by kernel_rfl))
  t0 := Tryz.underlying0
  a0 := Tryz.isAgg0
  z0 := Tryz.sizeOf0
  v0 := Tryz.zeroValue0
  t3 := Tryz.underlying3
  a3 := Tryz.isAgg3
  z3 := Tryz.sizeOf3
  v3 := Tryz.zeroValue3
  t4 := Tryz.underlying4
  a4 := Tryz.isAgg4
  z4 := Tryz.sizeOf4
  v4 := Tryz.zeroValue4
  t5 := Tryz.underlying5
  a5 := Tryz.isAgg5
  z5 := Tryz.sizeOf5
  v5 := Tryz.zeroValue5
  t9 := Tryz.underlying9
  a9 := Tryz.isAgg9
  z9 := Tryz.sizeOf9
  v9 := Tryz.zeroValue9
  t20 := Tryz.underlying20
  a20 := Tryz.isAgg20
  z20 := Tryz.sizeOf20
  v20 := Tryz.zeroValue20
  t37 := Tryz.underlying48
  a37 := Tryz.isAgg48
  z37 := Tryz.sizeOf48
  v37 := Tryz.zeroValue48
  t46 := Tryz.underlying117
  a46 := Tryz.isAgg117
  z46 := Tryz.sizeOf117
  v46 := Tryz.zeroValue117
  t51 := Tryz.underlying104
  a51 := Tryz.isAgg104
  z51 := Tryz.sizeOf104
  v51 := Tryz.zeroValue104
  t53 := Tryz.underlying59
  a53 := Tryz.isAgg59
  z53 := Tryz.sizeOf59
  v53 := Tryz.zeroValue59
  t70 := Tryz.underlying96
  a70 := Tryz.isAgg96
  z70 := Tryz.sizeOf96
  v70 := Tryz.zeroValue96
  t72 := Tryz.underlying98
  a72 := Tryz.isAgg98
  z72 := Tryz.sizeOf98
  v72 := Tryz.zeroValue98
  t75 := Tryz.underlying100
  a75 := Tryz.isAgg100
  z75 := Tryz.sizeOf100
  v75 := Tryz.zeroValue100
  t76 := Tryz.underlying101
  a76 := Tryz.isAgg101
  z76 := Tryz.sizeOf101
  v76 := Tryz.zeroValue101
  t109 := Tryz.underlying176
  a109 := Tryz.isAgg176
  z109 := Tryz.sizeOf176
  v109 := Tryz.zeroValue176
  t127 := Tryz.underlying151
  a127 := Tryz.isAgg151
  z127 := Tryz.sizeOf151
  v127 := Tryz.zeroValue151
  t146 := Tryz.underlying210
  a146 := Tryz.isAgg210
  z146 := Tryz.sizeOf210
  v146 := Tryz.zeroValue210
  t148 := Tryz.underlying212
  a148 := Tryz.isAgg212
  z148 := Tryz.sizeOf212
  v148 := Tryz.zeroValue212
  t164 := Tryz.underlying187
  a164 := Tryz.isAgg187
  z164 := Tryz.sizeOf187
  v164 := Tryz.zeroValue187 }
theorem X105 : Builder.Extra Tryz.prog Tryz.l_Lays_n105_ren := {
  sizeBuilder := by kernel_rfl
  liesBuilder := by kernel_rfl
  t5 := Tryz.underlying5
  a5 := Tryz.isAgg5
  z5 := Tryz.sizeOf5
  v5 := Tryz.zeroValue5
  infoByte := by kernel_rfl
  cellsByte := by kernel_rfl
  sizeByte := by kernel_rfl
  neB5 := by decide }
theorem rept_ok (s : ByteArray) (n : Int) (hp : 0 ≤ n ∧ n ≤ 1000000 ∧ s.size * n.toNat ≤ 140737488355328) : FnOk cfg 97 ([vS s, vI n].map SV.den) (vS (tx (Lib.repeatL s.data.toList n.toNat)) : SV).den :=
  fnOk_shelf (rv := Value.string (tx (Lib.repeatL s.data.toList n.toNat))) ⟨_, Tryz.func97, rfl, rfl⟩ rfl (fun M wf => by obtain ⟨c, rfl⟩ := Int.eq_ofNat_of_zero_le hp.1; exact Any.strings_Repeat Tryz.l_Lays_n105 X105 s c M.w (by have := hp.2.1; omega) (by have := hp.2.2; rw [Int.toNat_natCast] at this; exact this)) (fun _ _ => RepI.lit _)
noncomputable def c_rept : SpecF := fun args _ K => match args with
  | [.one (.c (.str s)), .one (.c (.int .i64 n))] => bif decide (0 ≤ n ∧ n ≤ 1000000 ∧ s.size * n.toNat ≤ 140737488355328) then K (vS (tx (Lib.repeatL s.data.toList n.toNat))) [] else none
  | _ => none
theorem c_rept_ok : SpecOk cfg 97 c_rept := by
  intro args bx K out h
  unfold c_rept at h
  split at h
  · obtain ⟨hp, h⟩ := bif_some h
    exact ⟨_, _, h, .inl (rept_ok _ _ (of_decide_eq_true hp) _), by simp [isTupS]⟩
  · cases h
def Tryz.l_Lays_n156_ren : Go.Shelf.Ren := ⟨fun | 156 => 48 | 165 => 99 | 166 => 72 | 169 => 76 | 240 => 109 | 241 => 146 | 276 => 153 | 277 => 184 | n => n, fun | 31 => 50 | 9 => 9 | 3 => 3 | 4 => 4 | 0 => 0 | 20 => 20 | 72 => 98 | 76 => 101 | 70 => 96 | 37 => 48 | 75 => 100 | 127 => 151 | 164 => 187 | 5 => 5 | 80 => 108 | n => n, fun | n => n⟩
theorem Tryz.l_Lays_n156 : Go.Proofs.Lays.n156 Tryz.prog Tryz.l_Lays_n156_ren := {
  mixed := by kernel_rfl
  f156 := Tryz.func48.trans (congrArg some (by kernel_rfl))
  f165 := Tryz.func99.trans (congrArg some (by kernel_rfl))
  f166 := Tryz.func72.trans (congrArg some (by kernel_rfl))
  f169 := Tryz.func76.trans (congrArg some (by kernel_rfl))
  f240 := Tryz.func109.trans (congrArg some (by kernel_rfl))
  f241 := Tryz.func146.trans (congrArg some (by kernel_rfl))
  f276 := Tryz.func153.trans (congrArg some (by kernel_rfl))
  f277 := Tryz.func184.trans (congrArg some (by kernel_rfl))
  t0 := Tryz.underlying0
  a0 := Tryz.isAgg0
  z0 := Tryz.sizeOf0
  v0 := Tryz.zeroValue0
  t3 := Tryz.underlying3
  a3 := Tryz.isAgg3
  z3 := Tryz.sizeOf3
  v3 := Tryz.zeroValue3
  t4 := Tryz.underlying4
  a4 := Tryz.isAgg4
  z4 := Tryz.sizeOf4
  v4 := Tryz.zeroValue4
  t9 := Tryz.underlying9
  a9 := Tryz.isAgg9
  z9 := Tryz.sizeOf9
  v9 := Tryz.zeroValue9
  t20 := Tryz.underlying20
  a20 := Tryz.isAgg20
  z20 := Tryz.sizeOf20
  v20 := Tryz.zeroValue20
  t31 := Tryz.underlying50
  a31 := Tryz.isAgg50
  z31 := Tryz.sizeOf50
  v31 := Tryz.zeroValue50
  t37 := Tryz.underlying48
  a37 := Tryz.isAgg48
  z37 := Tryz.sizeOf48
  v37 := Tryz.zeroValue48
  t70 := Tryz.underlying96
  a70 := Tryz.isAgg96
  z70 := Tryz.sizeOf96
  v70 := Tryz.zeroValue96
  t72 := Tryz.underlying98
  a72 := Tryz.isAgg98
  z72 := Tryz.sizeOf98
  v72 := Tryz.zeroValue98
  t75 := Tryz.underlying100
  a75 := Tryz.isAgg100
  z75 := Tryz.sizeOf100
  v75 := Tryz.zeroValue100
  t76 := Tryz.underlying101
  a76 := Tryz.isAgg101
  z76 := Tryz.sizeOf101
  v76 := Tryz.zeroValue101
  t127 := Tryz.underlying151
  a127 := Tryz.isAgg151
  z127 := Tryz.sizeOf151
  v127 := Tryz.zeroValue151
  t164 := Tryz.underlying187
  a164 := Tryz.isAgg187
  z164 := Tryz.sizeOf187
  v164 := Tryz.zeroValue187 }
theorem X156 : Builder.Extra Tryz.prog Tryz.l_Lays_n156_ren := {
  sizeBuilder := by kernel_rfl
  liesBuilder := by kernel_rfl
  t5 := Tryz.underlying5
  a5 := Tryz.isAgg5
  z5 := Tryz.sizeOf5
  v5 := Tryz.zeroValue5
  infoByte := by kernel_rfl
  cellsByte := by kernel_rfl
  sizeByte := by kernel_rfl
  neB5 := by decide }
theorem join_ok (L : List (List D)) (p : ByteArray) (hp : L.length ≤ 140737488355328 ∧ (joinD L p).length ≤ 140737488355328) : FnOk cfg 48 ([c1 (.rows [.str] L), vS p].map SV.den) (vS (tx (joinD L p))).den :=
  fnOk_join ⟨_, Tryz.func48, rfl, rfl⟩ fun M wf a cap hcap hne hc => by
    cases L with
    | nil => exact (Any.strings_Join_none Tryz.l_Lays_n156 X156 a cap p M.w).mono fun e w' h => ⟨h.1, h.2 ▸ Below.refl _ _⟩
    | cons r L =>
      obtain ⟨blk, off, rfl⟩ := hne (by simp)
      obtain ⟨h1, h2⟩ := hc blk off (by simp) rfl
      have := Any.strings_Join Tryz.l_Lays_n156 X156 blk off cap ((r :: L).map rowS) p M.w h2 h1 (by rw [List.length_map]; exact hp.1) (by rw [List.length_map]; exact hcap) (by rw [List.map_map]; exact hp.2)
      rw [List.length_map, List.map_map] at this
      exact this
noncomputable def c_join : SpecF := fun args _ K => match args with
  | [.one (.c (.rows [.str] L)), .one (.c (.str p))] => bif decide (L.length ≤ 140737488355328 ∧ (joinD L p).length ≤ 140737488355328) then K (vS (tx (joinD L p))) [] else none
  | _ => none
theorem c_join_ok : SpecOk cfg 48 c_join := by
  intro args bx K out h
  unfold c_join at h
  split at h
  · obtain ⟨hp, h⟩ := bif_some h
    exact ⟨_, _, h, .inl (join_ok _ _ (of_decide_eq_true hp) _), by simp [isTupS]⟩
  · cases h
end Go.Proofs.YtldofkogmkfpjaaGreatDoor
