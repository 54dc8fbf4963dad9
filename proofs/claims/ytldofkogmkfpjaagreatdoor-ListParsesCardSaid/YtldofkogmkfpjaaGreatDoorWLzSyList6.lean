/-
  The contracts of layer 11 (list): line, Print.
-/
import Derived.Test.YtldofkogmkfpjaaGreatDoorWLzSyList3
import Derived.Test.YtldofkogmkfpjaaGreatDoorWLzSyWord
import Derived.Test.YtldofkogmkfpjaaGreatDoorWLzSyBld
import Derived.Test.YtldofkogmkfpjaaGreatDoorWPListLaw
namespace Go.Proofs.YtldofkogmkfpjaaGreatDoor
open Go Go.Ev Go.Sy
set_option linter.unusedSimpArgs false
set_option linter.unusedVariables false
set_option maxRecDepth 10000
set_option maxHeartbeats 4000000
/-! ### list.line -/
noncomputable def lln_e : Ev' := ⟨Tryz.prog, glob, Γof [(48, c_join)]⟩
theorem lln_g : Gd cfg lln_e := gd (env_cons c_join_ok (env_nil _))
noncomputable def lln_f : FnD := ⟨73, Tryz.f73, noSh, Tryz.f73.resultTypes.toList, 0⟩
theorem lln_ent (h : Hd) (L : List (List D)) : lln_f.ent lln_e [] h [c1 (.rows [.str] L)] [] = let v1 : Nat := (tx (joinD L (tx [(9 : UInt8)]))).size + (1 : Nat); bif decide (L.length ≤ (140737488355328 : Nat) ∧ (joinD L (tx [(9 : UInt8)])).length ≤ (140737488355328 : Nat)) then bif decide (v1 ≤ (9223372036854775807 : Nat)) then ret (vS (tx (joinD L (tx [(9 : UInt8)])) ++ (tx [(10 : UInt8)]))) else none else none := by kernel_rfl
theorem lln_run (L : List (List D)) (hp : L.length ≤ 140737488355328 ∧ (joinD L (tx [9])).length ≤ 140737488355327) : ∃ fu, lln_f.run lln_e [] fu [c1 (.rows [.str] L)] [] = some ⟨vS (tx (joinD L (tx [9]) ++ [10])), []⟩ := by
  refine ⟨0, ?_⟩
  rw [FnD.run, lln_ent]
  dsimp only
  rw [tx_size]
  refine condT ⟨hp.1, by have := hp.2; omega⟩ (condT (by have := hp.2; omega) ?_)
  rw [tx_append]
theorem lln_ok (L : List (List D)) (hp : L.length ≤ 140737488355328 ∧ (joinD L (tx [9])).length ≤ 140737488355327) : FnOk cfg 73 ([c1 (.rows [.str] L)].map SV.den) (vS (tx (joinD L (tx [9]) ++ [10])) : SV).den := by
  obtain ⟨nn, h⟩ := lln_run L hp
  exact FnD.ok lln_g lln_f mixed Tryz.func73 rfl rfl rfl rfl rfl rfl h
noncomputable def c_lln : SpecF := fun args _ K => match args with
  | [.one (.c (.rows [.str] L))] => bif decide (L.length ≤ 140737488355328 ∧ (joinD L (tx [9])).length ≤ 140737488355327) then K (vS (tx (joinD L (tx [9]) ++ [10]))) [] else none
  | _ => none
theorem c_lln_ok : SpecOk cfg 73 c_lln := by
  intro args bx K out h
  unfold c_lln at h
  split at h
  · obtain ⟨hp, h⟩ := bif_some h
    exact ⟨_, _, h, .inl (lln_ok _ (of_decide_eq_true hp) _), by simp [isTupS]⟩
  · cases h
open Go.Sy.Sh
/-! ### list.Print -/
noncomputable def lprn_e : Ev' := ⟨Tryz.prog, glob, Γof [(70, c_may), (71, c_lnb), (73, c_lln), (74, c_lsm), (75, c_lwd), (72, c_ws19), (76, c_bstr)]⟩
theorem lprn_g : Gd cfg lprn_e := gd (env_cons c_may_ok (env_cons c_lnb_ok (env_cons c_lln_ok (env_cons c_lsm_ok (env_cons c_lwd_ok (env_cons c_ws19_ok (env_cons c_bstr_ok (env_nil _))))))))
noncomputable def lprn_f : FnD := ⟨26, Tryz.f26, shOf [(0, ⟨60, [(25, ⟨.ints .u8, false, false⟩)], [(1, [.c (.int .i64), .c (.int .i64), .c (.rows [.int .i64, .int .i64])]), (4, [.c (.bself 98 4), .c (.tsl 5 25)])], [(1, .c (.ptr 1 0)), (3, .c (.rows [.str])), (4, .c (.ptr 4 0)), (5, .c (.int .i64))]⟩), (1, ⟨60, [(6, ⟨.rows [.str], false, false⟩), (25, ⟨.ints .u8, false, false⟩)], [(4, [.c (.bself 98 4), .c (.tsl 5 25)])], [(4, .c (.ptr 4 0)), (6, .c (.sl 6 1)), (46, .agg [.arr .u32 5]), (47, .c (.int .i64))]⟩)], Tryz.f26.resultTypes.toList, 0⟩
theorem lprn_ent (h : Hd) (u : Int) (x : Int) (L : List (List D)) : lprn_f.ent lprn_e [] h [agg [.c (.int .i64 u), .c (.int .i64 x), .c (.rows [.int .i64, .int .i64] L)]] [] = let v1 : ByteArray := (((numR u x L).getD (0 : Nat) []).getD (0 : Nat) (D.i (0 : Int))).toS; let v2 : Nat := [[D.s (tx [(35 : UInt8), (36 : UInt8)])], [D.s v1]].length; let v3 : List UInt8 := joinD [[D.s (tx [(35 : UInt8), (36 : UInt8)])], [D.s v1]] (tx [(9 : UInt8)]); let v4 : Nat := v3.length; let v5 : ByteArray := tx (v3 ++ [(10 : UInt8)]); let v6 : Nat := v5.size; let v7 : ByteArray := (((numR u x L).getD (1 : Nat) []).getD (0 : Nat) (D.i (0 : Int))).toS; let v8 : Nat := [[D.s (tx [(35 : UInt8), (64 : UInt8)])], [D.s v7]].length; let v9 : List UInt8 := joinD [[D.s (tx [(35 : UInt8), (64 : UInt8)])], [D.s v7]] (tx [(9 : UInt8)]); let v10 : Nat := v9.length; let v11 : ByteArray := tx (v9 ++ [(10 : UInt8)]); let v12 : Nat := v11.size; let v13 : List Int := bytesI v5; let v14 : Nat := v13.length; let v15 : Nat := v14 + v12; let v16 : List Int := v13 ++ bytesI v11; let v17 : Nat := v16.length; bif !decide ((chkP u x L).snd = (0 : Int)) then ret (vS (tx [])) else bif decide (isH u ∧ isH x ∧ L.length ≤ (64 : Nat) ∧ rowsH L) then bif inB (0 : Int) (numR u x L).length then bif decide (v2 ≤ (140737488355328 : Nat) ∧ v4 ≤ (140737488355327 : Nat)) then bif decide ((0 : Nat) < v6 ∧ v6 ≤ (1099511627776 : Nat)) then bif inB (1 : Int) (numR u x L).length then bif decide (v8 ≤ (140737488355328 : Nat) ∧ v10 ≤ (140737488355327 : Nat)) then bif decide ((0 : Nat) < v12 ∧ v12 ≤ (1099511627776 : Nat)) then bif decide (v6 = v14) then bif decide (v14 ≤ (1099511627776 : Nat)) then bif decide (v15 = v17) then h (0 : Nat) [Lf.l v16, Lf.i u, Lf.i x, Lf.r L, Lf.b true, Lf.r (numR u x L), Lf.i (2 : Int)] else none else none else none else none else none else none else none else none else none else none := by kernel_rfl
theorem lprn_l0 (h : Hd) (l0 : List Int) (i1 : Int) (i2 : Int) (r3 : List (List D)) (b4 : Bool) (r5 : List (List D)) (i6 : Int) : lprn_f.seg lprn_e [] h 0 [.l l0, .i i1, .i i2, .r r3, .b b4, .r r5, .i i6] = let v1 : ByteArray := ((r5.getD (IntKind.i64.wrap (i6 + (1 : Int))).toNat []).getD (0 : Nat) (D.i (0 : Int))).toS; let v2 : Nat := [[D.s ((r5.getD i6.toNat []).getD (0 : Nat) (D.i (0 : Int))).toS], [D.s v1]].length; let v3 : List UInt8 := joinD [[D.s ((r5.getD i6.toNat []).getD (0 : Nat) (D.i (0 : Int))).toS], [D.s v1]] (tx [(9 : UInt8)]); let v4 : Nat := v3.length; let v5 : ByteArray := tx (v3 ++ [(10 : UInt8)]); let v6 : Nat := v5.size; let v7 : Nat := l0.length + v6; let v8 : List Int := l0 ++ bytesI v5; let v9 : Nat := v8.length; bif decide (i6 < (↑r5.length : Int)) then bif inB i6 r5.length then bif inB (IntKind.i64.wrap (i6 + (1 : Int))) r5.length then bif decide (v2 ≤ (140737488355328 : Nat) ∧ v4 ≤ (140737488355327 : Nat)) then bif decide ((0 : Nat) < v6 ∧ v6 ≤ (1099511627776 : Nat)) then bif decide (l0.length = l0.length) then bif decide (l0.length ≤ (1099511627776 : Nat)) then bif decide (v7 = v9) then h (0 : Nat) [Lf.l v8, Lf.i i1, Lf.i i2, Lf.r r3, Lf.b true, Lf.r r5, Lf.i (IntKind.i64.wrap (i6 + (2 : Int)))] else none else none else none else none else none else none else none else bif decide (l0.length = l0.length) && true then h (1 : Nat) [Lf.r [[D.s (tx [(35 : UInt8), (104 : UInt8)])]], Lf.l l0, Lf.b b4, Lf.l (sumW i1 i2 r3), Lf.i (0 : Int)] else none := by kernel_rfl
theorem lprn_l1 (h : Hd) (r0 : List (List D)) (l1 : List Int) (b2 : Bool) (l3 : List Int) (i4 : Int) : lprn_f.seg lprn_e [] h 1 [.r r0, .l l1, .b b2, .l l3, .i i4] = let v1 : List (List D) := List.take r0.length r0 ++ [[D.s (tx (hex8 (l3.getD i4.toNat (0 : Int)).toNat))]]; let v2 : Nat := v1.length; let v3 : ByteArray := tx (joinD (List.take r0.length r0) (tx [(9 : UInt8)]) ++ [(10 : UInt8)]); let v4 : Nat := v3.size; let v5 : Nat := l1.length + v4; let v6 : List Int := l1 ++ bytesI v3; let v7 : Nat := v6.length; let v8 : ByteArray := textOf v6; let v9 : List Int := bytesI v8; bif decide (i4 < (5 : Int)) then bif inB i4 (5 : Nat) && decide (i4.toNat < (5 : Nat)) then bif decide ((0 : Int) ≤ l3.getD i4.toNat (0 : Int) ∧ l3.getD i4.toNat (0 : Int) < (4294967296 : Int)) then bif decide (r0.length ≤ r0.length) && roomB (r0.length + (1 : Nat)) (16 : Nat) then bif decide (l1.length = l1.length) && decide (r0.length + (1 : Nat) = v2) then h (1 : Nat) [Lf.r v1, Lf.l l1, Lf.b b2, Lf.l l3, Lf.i (IntKind.i64.wrap (i4 + (1 : Int)))] else none else none else none else none else bif decide (r0.length ≤ r0.length) && true then bif decide ((List.take r0.length r0).length ≤ (140737488355328 : Nat) ∧ (joinD (List.take r0.length r0) (tx [(9 : UInt8)])).length ≤ (140737488355327 : Nat)) then bif decide ((0 : Nat) < v4 ∧ v4 ≤ (1099511627776 : Nat)) then bif decide (l1.length = l1.length) then bif decide (l1.length ≤ (1099511627776 : Nat)) then bif decide (v5 = v7) then bif decide (v6 = v9 ∧ v6 ≠ [] ∧ v7 ≤ (140737488355328 : Nat)) then ret (vS v8) else none else none else none else none else none else none else none := by kernel_rfl

theorem bytesI_app (a b : List UInt8) : bytesI (tx a) ++ bytesI (tx b) = bytesI (tx (a ++ b)) := by simp [bytesI, tx]
theorem bytesI_len (a : List UInt8) : (bytesI (tx a)).length = a.length := by simp [bytesI, tx]
theorem inter9 : ∀ (ws : List (List UInt8)) (x : List UInt8), List.intercalate [9] (x :: ws) = x ++ ws.flatMap fun w => 9 :: w
  | [], x => by simp [List.intercalate]
  | y :: ws, x => by
    have ih := inter9 ws y
    unfold List.intercalate at ih ⊢
    rw [List.intersperse_cons_cons, List.flatten_cons, List.flatten_cons, ih, List.flatMap_cons]
    simp
theorem joinD_tab (a : ByteArray) (ws : List (List UInt8)) : joinD ([D.s a] :: ws.map fun w => [D.s (tx w)]) (tx [9]) = a.data.toList ++ ws.flatMap fun w => 9 :: w := by
  have e : (([D.s a] :: ws.map fun w => [D.s (tx w)]).map fun r => (rowS r).data.toList) = a.data.toList :: ws := by
    rw [List.map_cons, List.map_map]
    congr 1
    conv => rhs; rw [← List.map_id ws]
    apply List.map_congr_left
    intro w _
    exact tx_toList w
  unfold joinD Lib.join
  rw [e]
  exact inter9 ws _
theorem joinD_two (a b : ByteArray) : joinD [[D.s a], [D.s b]] (tx [9]) = a.data.toList ++ 9 :: b.data.toList := by
  have := joinD_tab a [b.data.toList]
  rw [List.map_cons, List.map_nil, toList_tx] at this
  rw [this]; simp
theorem flat2 (f g : List D → List D) : ∀ (L : List (List D)) (i : Nat), i < L.length → (L.flatMap fun r => [f r, g r]).getD (2 * i) [] = f (L.getD i []) ∧ (L.flatMap fun r => [f r, g r]).getD (2 * i + 1) [] = g (L.getD i [])
  | [], i, h => by simp at h
  | r :: L, 0, h => ⟨rfl, rfl⟩
  | r :: L, i + 1, h => by
    have ih := flat2 f g L i (by simpa using h)
    rw [List.flatMap_cons, show 2 * (i + 1) = (2 * i + 1) + 1 by omega]
    exact ih
theorem numR_at (u x : Int) (L : List (List D)) {i : Nat} (h : i < L.length) : (numR u x L).getD (2 + 2 * i) [] = [.s (tx (Lib.itoa (atR (L.getD i []))))] ∧ (numR u x L).getD (2 + 2 * i + 1) [] = [.s (tx (Lib.itoa (ofR (L.getD i []))))] := by
  have := flat2 (fun r => [.s (tx (Lib.itoa (atR r)))]) (fun r => [.s (tx (Lib.itoa (ofR r)))]) L i h
  unfold numR
  rw [show 2 + 2 * i = (2 * i + 1) + 1 by omega]
  exact this
theorem lprn_loop1 (T : List UInt8) (hT : T.length ≤ 6000) (W : List Nat) (h5 : W.length = 5) (hW : ∀ x ∈ W, x < 4294967296) (b : Bool) : ∀ k i, i ≤ 5 → 5 - i < k →
    lprn_f.H lprn_e [] k 1 [.r ([D.s (tx [35, 104])] :: ((W.take i).map hex8).map fun w => [D.s (tx w)]), .l (bytesI (tx T)), .b b, .l (castL W), .i (i : Int)] = some ⟨vS (tx (T ++ (lnH W ++ [10]))), []⟩ := by
  intro k
  induction k with
  | zero => intro i _ h; omega
  | succ k ih =>
    intro i hi hk
    rw [FnD.H_succ, lprn_l1]
    dsimp only
    rw [Int.toNat_natCast, List.take_length]
    have hl : ([D.s (tx [35, 104])] :: ((W.take i).map hex8).map fun w => [D.s (tx w)]).length = i + 1 := by simp; omega
    by_cases h : i < 5
    · rw [nth_castL, Int.toNat_natCast]
      have hw : nthN W i < 4294967296 := nthN_all hW (by decide) i
      have en : ([D.s (tx [35, 104])] :: ((W.take i).map hex8).map fun w => [D.s (tx w)]) ++ [[D.s (tx (hex8 (nthN W i)))]] = [D.s (tx [35, 104])] :: ((W.take (i + 1)).map hex8).map fun w => [D.s (tx w)] := by
        rw [List.take_succ_eq_append_getElem (by omega), List.map_append, List.map_append, nthN_lt (by omega)]
        rfl
      rw [en]
      rw [show IntKind.i64.wrap ((i : Int) + 1) = ((i + 1 : Nat) : Int) by rw [IntWalk.i64_in _ (by omega)]; omega]
      refine condT (by omega) (condB (by rw [Bool.and_eq_true]; exact ⟨(inB_iff _ _).2 (by omega), decide_eq_true h⟩) (condT (by omega) (condB ?_ (condB ?_ (ih (i + 1) (by omega) (by omega))))))
      · rw [hl]; unfold roomB; simp only [Bool.and_eq_true, decide_eq_true_eq]; omega
      · rw [← en, List.length_append]; simp
    · obtain rfl : i = 5 := by omega
      have hw5 : W.take 5 = W := List.take_of_length_le (by omega)
      rw [hw5] at hl ⊢
      have ej : joinD ([D.s (tx [35, 104])] :: (W.map hex8).map fun w => [D.s (tx w)]) (tx [9]) = lnH W := by
        rw [joinD_tab, tx_toList, List.flatMap_map]; rfl
      have hH := lnH_len W
      rw [h5] at hH
      rw [ej, bytesI_app, textOf_bytesI]
      refine condF (by omega) (condB (by simp) (condT ⟨by rw [hl]; omega, by rw [hH]; omega⟩ (condT ?_ (condB (by simp) (condT ?_ (condT ?_ (condT ?_ rfl)))))))
      · rw [tx_size, List.length_append, hH]; decide
      · rw [bytesI_len]; omega
      · rw [bytesI_len, bytesI_len, tx_size]; simp
      · refine ⟨rfl, ?_, ?_⟩
        · intro e
          have := congrArg List.length e
          rw [bytesI_len, List.length_append, List.length_append, hH] at this
          simp at this
        · rw [bytesI_len, List.length_append, List.length_append, hH]; simp; omega
theorem file_take {u x : Int} {L : List (List D)} {w : List Nat} {i : Nat} (h : i < L.length) : joinL ((fileL u x L w).take (i + 3)) = joinL ((fileL u x L w).take (i + 2)) ++ (lnE (L.getD i []) ++ [10]) := by
  rw [joinL_take (by rw [file_len]; omega), List.append_assoc]
  have : (fileL u x L w).getD (i + 2) [] = lnE (L.getD i []) := by
    unfold fileL
    simp only [List.getD_eq_getElem?_getD]
    rw [List.getElem?_append_right (by simp), List.getElem?_append_left (by simp; omega)]
    simp [List.getElem?_eq_getElem h]
  rw [this]
theorem file_all {u x : Int} {L : List (List D)} {w : List Nat} : joinL ((fileL u x L w).take (L.length + 2)) ++ (lnH w ++ [10]) = joinL (fileL u x L w) := by
  have e : (fileL u x L w).take (L.length + 3) = fileL u x L w := List.take_of_length_le (by rw [file_len]; exact Nat.le_refl _)
  conv => rhs; rw [← e]
  have ej := joinL_take (L := fileL u x L w) (i := L.length + 2) (by rw [file_len]; omega)
  rw [show L.length + 3 = (L.length + 2) + 1 by omega, ej, List.append_assoc]
  have : (fileL u x L w).getD (L.length + 2) [] = lnH w := by
    unfold fileL
    simp only [List.getD_eq_getElem?_getD]
    rw [List.getElem?_append_right (by simp), List.getElem?_append_right (by simp)]
    simp
  rw [this]
theorem lprn_loop0 {u x : Int} {L : List (List D)} (h : (chkP u x L).2 = 0) : ∀ k i (b : Bool), i ≤ L.length → L.length - i < k →
    lprn_f.H lprn_e [] (k + 7) 0 [.l (bytesI (tx (joinL ((fileL u x L (wordsN (bytN (dgL u x L)))).take (i + 2))))), .i u, .i x, .r L, .b b, .r (numR u x L), .i ((2 + 2 * i : Nat) : Int)] = some ⟨vS (tx (prnL u x L)), []⟩ := by
  obtain ⟨hL, hu, hx, hg⟩ := chkP_ok h
  have h64 := goodTo_len hg (Nat.le_refl _)
  have hsz := file_size (w := wordsN (bytN (dgL u x L))) h (wordsN_len _)
  have hw5 := wordsN_len (bytN (dgL u x L))
  have hwl := wordsN_lt (bytN (dgL u x L))
  have es : sumW u x L = castL (wordsN (bytN (dgL u x L))) := by unfold sumW dgP; rw [if_pos h]
  have hprn : joinL (fileL u x L (wordsN (bytN (dgL u x L)))) = prnL u x L := rfl
  generalize wordsN (bytN (dgL u x L)) = W at hsz hw5 hwl es hprn ⊢
  intro k
  induction k with
  | zero => intro i b _ h; omega
  | succ k ih =>
    intro i b hi hk
    rw [show k + 1 + 7 = (k + 7) + 1 by omega, FnD.H_succ, lprn_l0]
    dsimp only
    have hT := joinL_le (fileL u x L W) (i + 2)
    by_cases g : i < L.length
    · obtain ⟨n1, n2⟩ := numR_at u x L g
      have hr := good_rows hg i g
      have l1 := itoa_len64 hr.1
      have l2 := itoa_len64 hr.2
      have e1 : IntKind.i64.wrap (((2 + 2 * i : Nat) : Int) + 1) = ((2 + 2 * i + 1 : Nat) : Int) := by rw [IntWalk.i64_in _ (by omega)]; omega
      have e2 : IntKind.i64.wrap (((2 + 2 * i : Nat) : Int) + 2) = ((2 + 2 * (i + 1) : Nat) : Int) := by rw [IntWalk.i64_in _ (by omega)]; omega
      rw [e1, e2, Int.toNat_natCast, Int.toNat_natCast, n1, n2]
      have ej : joinD [[D.s ([D.s (tx (Lib.itoa (atR (L.getD i []))))].getD 0 (D.i 0)).toS], [D.s ([D.s (tx (Lib.itoa (ofR (L.getD i []))))].getD 0 (D.i 0)).toS]] (tx [9]) = lnE (L.getD i []) := by
        rw [joinD_two]
        show (tx _).data.toList ++ 9 :: (tx _).data.toList = _
        rw [tx_toList, tx_toList]; rfl
      have hE : (lnE (L.getD i [])).length ≤ 84 := by unfold lnE; rw [List.length_append, List.length_cons]; omega
      have hE0 : 0 < (lnE (L.getD i [])).length := by unfold lnE; rw [List.length_append, List.length_cons]; omega
      rw [ej, bytesI_app, ← file_take g]
      have hN := numR_len u x L
      refine condT (by omega) (condB ((inB_iff _ _).2 (by omega)) (condB ((inB_iff _ _).2 (by omega)) (condT ⟨show (2 : Nat) ≤ _ by decide, by omega⟩ (condT ?_ (condB (by simp) (condT ?_ (condT ?_ (ih (i + 1) true (by omega) (by omega)))))))))
      · rw [tx_size, List.length_append, List.length_cons, List.length_nil]; constructor <;> omega
      · rw [bytesI_len]; omega
      · rw [bytesI_len, bytesI_len, tx_size, file_take g]; simp
    · obtain rfl : i = L.length := by omega
      have hN := numR_len u x L
      refine condF (by omega) (condB (by simp) ?_)
      have := lprn_loop1 (joinL ((fileL u x L W).take (L.length + 2))) (by omega) W hw5 hwl b (k + 7) 0 (by omega) (by omega)
      rw [file_all, hprn] at this
      rw [es]
      exact this
theorem lprn_run (u : Int) (x : Int) (L : List (List D)) : ∃ fu, lprn_f.run lprn_e [] fu [agg [.c (.int .i64 u), .c (.int .i64 x), .c (.rows [.int .i64, .int .i64] L)]] [] = some ⟨vS (tx (prnP u x L)), []⟩ := by
  by_cases h : (chkP u x L).2 = 0
  · obtain ⟨hL, hu, hx, hg⟩ := chkP_ok h
    have h64 := goodTo_len hg (Nat.le_refl _)
    refine ⟨L.length + 1 + 7, ?_⟩
    rw [FnD.run, lprn_ent]
    dsimp only
    have hr : rowsH L := by
      unfold rowsH
      rw [List.all_eq_true]
      intro r hr
      obtain ⟨i, hi, rfl⟩ := List.getElem_of_mem hr
      have := good_rows hg i hi
      rw [List.getD_eq_getElem?_getD, List.getElem?_eq_getElem hi] at this
      rw [Bool.and_eq_true, decide_eq_true_eq, decide_eq_true_eq]; exact this
    have n0 : (numR u x L).getD 0 [] = [D.s (tx (Lib.itoa u))] := rfl
    have n1 : (numR u x L).getD 1 [] = [D.s (tx (Lib.itoa x))] := rfl
    have hN := numR_len u x L
    have l1 := itoa_len64 (v := u) (by unfold isH; omega)
    have l2 := itoa_len64 (v := x) (by unfold isH; omega)
    have ej : ∀ (a : List UInt8) (c : UInt8), joinD [[D.s (tx [35, c])], [D.s ([D.s (tx a)].getD 0 (D.i 0)).toS]] (tx [9]) = [35, c, 9] ++ a := fun a c => by
      rw [joinD_two]
      show (tx _).data.toList ++ 9 :: (tx _).data.toList = _
      rw [tx_toList, tx_toList]; rfl
    rw [n0, n1, ej, ej, bytesI_app]
    have key := lprn_loop0 h (L.length + 1) 0 true (by omega) (by omega)
    have et : joinL ((fileL u x L (wordsN (bytN (dgL u x L)))).take (0 + 2)) = [35, 36, 9] ++ Lib.itoa u ++ [10] ++ ([35, 64, 9] ++ Lib.itoa x ++ [10]) := by
      show joinL [lnU u, lnX x] = _
      unfold joinL lnU lnX
      simp
    rw [et] at key
    unfold prnP
    rw [if_pos h]
    refine condN (by rw [decide_eq_true h]; rfl) (condT ⟨by unfold isH; omega, by unfold isH; omega, h64, hr⟩ (condB ((inB_iff _ _).2 (by omega)) (condT ⟨show (2 : Nat) ≤ _ by decide, ?_⟩ (condT ?_ (condB ((inB_iff _ _).2 (by omega)) (condT ⟨show (2 : Nat) ≤ _ by decide, ?_⟩ (condT ?_ (condT ?_ (condT ?_ (condT ?_ key))))))))))
    all_goals simp only [tx_size, bytesI_len, List.length_append, List.length_cons, List.length_nil]
    all_goals omega
  · refine ⟨0, ?_⟩
    rw [FnD.run, lprn_ent]
    dsimp only
    unfold prnP
    rw [if_neg h]
    exact condB (by rw [decide_eq_false h]; rfl) rfl
theorem lprn_ok (u : Int) (x : Int) (L : List (List D)) : FnOk cfg 26 ([agg [.c (.int .i64 u), .c (.int .i64 x), .c (.rows [.int .i64, .int .i64] L)]].map SV.den) (vS (tx (prnP u x L)) : SV).den := by
  obtain ⟨nn, h⟩ := lprn_run u x L
  exact FnD.ok lprn_g lprn_f mixed Tryz.func26 rfl rfl rfl rfl rfl rfl h
noncomputable def c_lprn : SpecF := fun args _ K => match args with
  | [.one (.agg [.c (.int .i64 u), .c (.int .i64 x), .c (.rows [.int .i64, .int .i64] L)])] => K (vS (tx (prnP u x L))) []
  | _ => none
theorem c_lprn_ok : SpecOk cfg 26 c_lprn := by
  intro args bx K out h
  unfold c_lprn at h
  split at h
  · exact ⟨_, _, h, .inl (lprn_ok _ _ _ _), by simp [isTupS]⟩
  · cases h
end Go.Proofs.YtldofkogmkfpjaaGreatDoor
