/-
  The contracts of layer 29 (script): lines, texts.
-/
import Derived.Test.YtldofkogmkfpjaaGreatDoorWZzSyScript
import Derived.Test.YtldofkogmkfpjaaGreatDoorWZzSyBld
namespace Go.Proofs.YtldofkogmkfpjaaGreatDoor
open Go Go.Ev Go.Sy
set_option linter.unusedSimpArgs false
set_option linter.unusedVariables false
set_option maxRecDepth 10000
set_option maxHeartbeats 4000000
/-! ### script.line -/
noncomputable def sline_e : Ev' := ⟨Tryz.prog, glob, Γof [(117, c_snums), (96, c_itoa), (118, c_dprint), (41, c_shex), (48, c_join)]⟩
theorem sline_g : Gd cfg sline_e := gd (env_cons c_snums_ok (env_cons c_itoa_ok (env_cons c_dprint_ok (env_cons c_shex_ok (env_cons c_join_ok (env_nil _))))))
noncomputable def sline_f : FnD := ⟨82, Tryz.f82, shOf [(0, ⟨48, [(3, ⟨.rows [.str], false, true⟩)], [(1, [.c (.int .i64), .c (.int .i64), .c (.int .i64), .c (.int .i64), .c (.int .u64), .c (.int .i64), .c (.int .i64), .c (.int .i64), .c (.int .i64), .c .bool, .c (.int .i64), .c (.int .i64), .c (.int .i64), .c (.ints .u8), .c (.int .i64), .c (.int .u64), .c (.int .i64), .c (.int .u64), .c (.int .i64), .c (.int .i64), .c (.int .i64)])], [(1, .c (.ptr 1 0)), (3, .c (.sl 3 1)), (9, .c (.ints .i64)), (10, .c (.int .i64)), (11, .c (.int .i64))]⟩), (1, ⟨48, [(3, ⟨.rows [.str], false, true⟩), (27, ⟨.rows [.int .i64, .int .u64], false, false⟩)], [(1, [.c (.int .i64), .c (.int .i64), .c (.int .i64), .c (.int .i64), .c (.int .u64), .c (.int .i64), .c (.int .i64), .c (.int .i64), .c (.int .i64), .c .bool, .c (.int .i64), .c (.int .i64), .c (.int .i64), .c (.ints .u8), .c (.int .i64), .c (.int .u64), .c (.int .i64), .c (.int .u64), .c (.int .i64), .c (.int .i64), .c (.int .i64)])], [(1, .c (.ptr 1 0)), (3, .c (.sl 3 1)), (27, .c (.sl 27 2)), (28, .c (.int .i64)), (29, .c (.int .i64))]⟩)], Tryz.f82.resultTypes.toList, 0⟩
theorem sline_ent (h : Hd) (a0 : Int) (a1 : Int) (a2 : Int) (x0 : Int) (y0 : Int) (a8 : Int) (a9 : Int) (aa : Int) (a3 : Int) (lx : Bool) (a5 : Int) (a6 : Int) (a7 : Int) (dd : List Int) (x1 : Int) (y1 : Int) (x2 : Int) (y2 : Int) (ab : Int) (ac : Int) (ad : Int) : sline_f.ent sline_e [] h [agg [.c (.int .i64 a0), .c (.int .i64 a1), .c (.int .i64 a2), .c (.int .i64 x0), .c (.int .u64 y0), .c (.int .i64 a8), .c (.int .i64 a9), .c (.int .i64 aa), .c (.int .i64 a3), .c (.bool lx), .c (.int .i64 a5), .c (.int .i64 a6), .c (.int .i64 a7), .c (.ints .u8 dd), .c (.int .i64 x1), .c (.int .u64 y1), .c (.int .i64 x2), .c (.int .u64 y2), .c (.int .i64 ab), .c (.int .i64 ac), .c (.int .i64 ad)]] [] = h (0 : Nat) [Lf.r [], Lf.b true, Lf.i a0, Lf.i a1, Lf.i a2, Lf.i x0, Lf.i y0, Lf.i a8, Lf.i a9, Lf.i aa, Lf.i a3, Lf.b lx, Lf.i a5, Lf.i a6, Lf.i a7, Lf.l dd, Lf.i x1, Lf.i y1, Lf.i x2, Lf.i y2, Lf.i ab, Lf.i ac, Lf.i ad, Lf.l [a0, a1, a2, a3, if lx = true then (1 : Int) else (0 : Int), a5, a6, a7, a8, a9, aa, ab, ac, ad], Lf.i (↑(14 : Nat) : Int), Lf.i (0 : Int)] := by kernel_rfl
theorem sline_l0 (h : Hd) (r0 : List (List D)) (b1 : Bool) (i2 : Int) (i3 : Int) (i4 : Int) (i5 : Int) (i6 : Int) (i7 : Int) (i8 : Int) (i9 : Int) (i10 : Int) (b11 : Bool) (i12 : Int) (i13 : Int) (i14 : Int) (l15 : List Int) (i16 : Int) (i17 : Int) (i18 : Int) (i19 : Int) (i20 : Int) (i21 : Int) (i22 : Int) (l23 : List Int) (i24 : Int) (i25 : Int) : sline_f.seg sline_e [] h 0 [.r r0, .b b1, .i i2, .i i3, .i i4, .i i5, .i i6, .i i7, .i i8, .i i9, .i i10, .b b11, .i i12, .i i13, .i i14, .l l15, .i i16, .i i17, .i i18, .i i19, .i i20, .i i21, .i i22, .l l23, .i i24, .i i25] = let v1 : List (List D) := List.take r0.length r0 ++ [[D.s (tx (Lib.itoa (l23.getD i25.toNat (0 : Int))))]]; let v2 : Nat := v1.length; bif decide (i25 < i24) then bif inB i25 l23.length then bif decide (isH (l23.getD i25.toNat (0 : Int))) then bif b1 == b1 && true && decide (r0.length ≤ r0.length) && roomB (r0.length + (1 : Nat)) (16 : Nat) then bif nlAfter b1 (1 : Nat) == nlAfter b1 (1 : Nat) && decide (r0.length + (1 : Nat) = v2) then h (0 : Nat) [Lf.r v1, Lf.b (nlAfter b1 (1 : Nat)), Lf.i i2, Lf.i i3, Lf.i i4, Lf.i i5, Lf.i i6, Lf.i i7, Lf.i i8, Lf.i i9, Lf.i i10, Lf.b b11, Lf.i i12, Lf.i i13, Lf.i i14, Lf.l l15, Lf.i i16, Lf.i i17, Lf.i i18, Lf.i i19, Lf.i i20, Lf.i i21, Lf.i i22, Lf.l l23, Lf.i i24, Lf.i (IntKind.i64.wrap (i25 + (1 : Int)))] else none else none else none else none else bif b1 == b1 && (decide (r0.length = r0.length) && true) then h (1 : Nat) [Lf.r r0, Lf.b b1, Lf.r [[D.i i5, D.i i6], [D.i i16, D.i i17], [D.i i18, D.i i19]], Lf.i i2, Lf.i i3, Lf.i i4, Lf.i i5, Lf.i i6, Lf.i i7, Lf.i i8, Lf.i i9, Lf.i i10, Lf.b b11, Lf.i i12, Lf.i i13, Lf.i i14, Lf.l l15, Lf.i i16, Lf.i i17, Lf.i i18, Lf.i i19, Lf.i i20, Lf.i i21, Lf.i i22, Lf.i (↑(3 : Nat) : Int), Lf.i (0 : Int)] else none := by kernel_rfl
theorem sline_l1 (h : Hd) (r0 : List (List D)) (b1 : Bool) (r2 : List (List D)) (i3 : Int) (i4 : Int) (i5 : Int) (i6 : Int) (i7 : Int) (i8 : Int) (i9 : Int) (i10 : Int) (i11 : Int) (b12 : Bool) (i13 : Int) (i14 : Int) (i15 : Int) (l16 : List Int) (i17 : Int) (i18 : Int) (i19 : Int) (i20 : Int) (i21 : Int) (i22 : Int) (i23 : Int) (i24 : Int) (i25 : Int) : sline_f.seg sline_e [] h 1 [.r r0, .b b1, .r r2, .i i3, .i i4, .i i5, .i i6, .i i7, .i i8, .i i9, .i i10, .i i11, .b b12, .i i13, .i i14, .i i15, .l l16, .i i17, .i i18, .i i19, .i i20, .i i21, .i i22, .i i23, .i i24, .i i25] = let v1 : List (List D) := List.take r0.length r0 ++ [[D.s (tx (Lib.itoa (wVal ((r2.getD i25.toNat []).getD (0 : Nat) (D.i (0 : Int))).toI ((r2.getD i25.toNat []).getD (1 : Nat) (D.i (0 : Int))).toI)))]]; let v2 : Nat := v1.length; let v3 : List (List D) := List.take r0.length r0 ++ [[D.s ((tx [120]) ++ tx (hexB (toB l16)))]]; let v4 : Nat := v3.length; let v5 : List (List D) := List.take (r0.length + (1 : Nat)) v3; let v6 : Nat := v5.length; let v7 : List UInt8 := joinD v5 (tx [32]); let v8 : Nat := v7.length; let v9 : ByteArray := tx v7; let v10 : Nat := v9.size + (1 : Nat); bif decide (i25 < i24) then bif inB i25 r2.length then bif decide (i25.toNat < r2.length) then bif decide (isH ((r2.getD i25.toNat []).getD (0 : Nat) (D.i (0 : Int))).toI ∧ isW ((r2.getD i25.toNat []).getD (1 : Nat) (D.i (0 : Int))).toI) then bif b1 == b1 && true && decide (r0.length ≤ r0.length) && roomB (r0.length + (1 : Nat)) (16 : Nat) then bif nlAfter b1 (1 : Nat) == nlAfter b1 (1 : Nat) && (decide (r0.length + (1 : Nat) = v2) && decide (r2.length = r2.length)) then h (1 : Nat) [Lf.r v1, Lf.b (nlAfter b1 (1 : Nat)), Lf.r r2, Lf.i i3, Lf.i i4, Lf.i i5, Lf.i i6, Lf.i i7, Lf.i i8, Lf.i i9, Lf.i i10, Lf.i i11, Lf.b b12, Lf.i i13, Lf.i i14, Lf.i i15, Lf.l l16, Lf.i i17, Lf.i i18, Lf.i i19, Lf.i i20, Lf.i i21, Lf.i i22, Lf.i i23, Lf.i i24, Lf.i (IntKind.i64.wrap (i25 + (1 : Int)))] else none else none else none else none else none else bif decide (bytesOk l16 ∧ l16.length ≤ (1000000000 : Nat)) then bif decide ((1 : Nat) + (tx (hexB (toB l16))).size ≤ (9223372036854775807 : Nat)) then bif b1 == b1 && true && decide (r0.length ≤ r0.length) && roomB (r0.length + (1 : Nat)) (16 : Nat) then bif nlAfter b1 (1 : Nat) == nlAfter b1 (1 : Nat) && decide (r0.length + (1 : Nat) ≤ v4) && true then bif decide (v6 ≤ (140737488355328 : Nat) ∧ v8 ≤ (140737488355328 : Nat)) then bif decide (v10 ≤ (9223372036854775807 : Nat)) then ret (vS (v9 ++ (tx [10]))) else none else none else none else none else none else none := by kernel_rfl

theorem sline_step {a0 : Int} {a1 : Int} {a2 : Int} {x0 : Int} {y0 : Int} {a8 : Int} {a9 : Int} {aa : Int} {a3 : Int} {lx : Bool} {a5 : Int} {a6 : Int} {a7 : Int} {dd : List Int} {x1 : Int} {y1 : Int} {x2 : Int} {y2 : Int} {ab : Int} {ac : Int} {ad : Int} (k i : Nat) (ws : List (List UInt8)) (b : Bool) (x y : Int) (hi : i < 3) (hw : ([[D.i x0, D.i y0], [D.i x1, D.i y1], [D.i x2, D.i y2]] : List (List D)).getD i [] = [D.i x, D.i y]) (hx : isH x) (hy : isW y) (hl : ws.length = 14 + i) :
    sline_f.H sline_e [] (k + 1) 1 [.r (rowW ws), .b b, .r [[D.i x0, D.i y0], [D.i x1, D.i y1], [D.i x2, D.i y2]], .i a0, .i a1, .i a2, .i x0, .i y0, .i a8, .i a9, .i aa, .i a3, .b lx, .i a5, .i a6, .i a7, .l dd, .i x1, .i y1, .i x2, .i y2, .i ab, .i ac, .i ad, .i ((3 : Nat) : Int), .i (i : Nat)] = sline_f.H sline_e [] k 1 [.r (rowW (ws ++ [Lib.itoa (wVal x y)])), .b (nlAfter b 1), .r [[D.i x0, D.i y0], [D.i x1, D.i y1], [D.i x2, D.i y2]], .i a0, .i a1, .i a2, .i x0, .i y0, .i a8, .i a9, .i aa, .i a3, .b lx, .i a5, .i a6, .i a7, .l dd, .i x1, .i y1, .i x2, .i y2, .i ab, .i ac, .i ad, .i ((3 : Nat) : Int), .i ((i + 1 : Nat) : Int)] := by
  rw [FnD.H_succ, sline_l1]
  dsimp only
  rw [Int.toNat_natCast, hw]
  simp only [List.getD_cons_zero, List.getD_cons_succ, D.toI]
  rw [show IntKind.i64.wrap ((i : Int) + 1) = ((i + 1 : Nat) : Int) by rw [IntWalk.i64_in _ (by omega)]; omega]
  refine condT (by omega) (condB ((inB_iff _ _).2 (by simp; omega)) (condT (by simp; omega) (condT ⟨hx, hy⟩ (condB ?_ (condB ?_ ?_)))))
  · rw [room_of (by rw [rowW_len]; omega) (by rw [rowW_len]; omega)]; simp
  · simp
  · rw [List.take_length, rowW_snoc]
theorem sline_fin {a0 : Int} {a1 : Int} {a2 : Int} {x0 : Int} {y0 : Int} {a8 : Int} {a9 : Int} {aa : Int} {a3 : Int} {lx : Bool} {a5 : Int} {a6 : Int} {a7 : Int} {dd : List Int} {x1 : Int} {y1 : Int} {x2 : Int} {y2 : Int} {ab : Int} {ac : Int} {ad : Int} (k : Nat) (ws : List (List UInt8)) (b : Bool) (hl : ws.length = 17) (hb : bytesOk dd) (hd : dd.length ≤ 100000000) (hj : (joinW (ws ++ [120 :: hexB (toB dd)])).length ≤ 1000000000) :
    sline_f.H sline_e [] (k + 1) 1 [.r (rowW ws), .b b, .r [[D.i x0, D.i y0], [D.i x1, D.i y1], [D.i x2, D.i y2]], .i a0, .i a1, .i a2, .i x0, .i y0, .i a8, .i a9, .i aa, .i a3, .b lx, .i a5, .i a6, .i a7, .l dd, .i x1, .i y1, .i x2, .i y2, .i ab, .i ac, .i ad, .i ((3 : Nat) : Int), .i ((3 : Nat) : Int)] = some ⟨vS (tx (joinW (ws ++ [120 :: hexB (toB dd)]) ++ [10])), []⟩ := by
  rw [FnD.H_succ, sline_l1]
  dsimp only
  have e3 : List.take (rowW ws).length (rowW ws) ++ [[D.s ((tx [120]) ++ tx (hexB (toB dd)))]] = rowW (ws ++ [120 :: hexB (toB dd)]) := by
    rw [List.take_length, tx_append]
    exact rowW_snoc ws _
  have e5 : List.take ((rowW ws).length + 1) (rowW (ws ++ [120 :: hexB (toB dd)])) = rowW (ws ++ [120 :: hexB (toB dd)]) := List.take_of_length_le (by rw [rowW_len, rowW_len]; simp)
  rw [e3, e5, joinD_rowW, tx_append, tx_size, tx_size, rowW_len, rowW_len]
  refine condF (by omega) (condT ⟨hb, by omega⟩ (condT (by rw [hexB_len, toB_len]; omega) (condB ?_ (condB ?_ (condT ⟨by simp; omega, by omega⟩ (condT (by omega) rfl))))))
  · rw [room_of (by omega) (by omega)]; simp
  · simp
theorem sline_loop {a0 : Int} {a1 : Int} {a2 : Int} {x0 : Int} {y0 : Int} {a8 : Int} {a9 : Int} {aa : Int} {a3 : Int} {lx : Bool} {a5 : Int} {a6 : Int} {a7 : Int} {dd : List Int} {x1 : Int} {y1 : Int} {x2 : Int} {y2 : Int} {ab : Int} {ac : Int} {ad : Int} (N : List Int) (hN : N.length = 14) (hH : ∀ x ∈ N, isH x) (h0 : isH x0 ∧ isW y0) (h1 : isH x1 ∧ isW y1) (h2 : isH x2 ∧ isW y2) (hb : bytesOk dd) (hd : dd.length ≤ 100000000)
    (hj : (joinW ((N.map Lib.itoa ++ [Lib.itoa (wVal x0 y0), Lib.itoa (wVal x1 y1), Lib.itoa (wVal x2 y2)]) ++ [120 :: hexB (toB dd)])).length ≤ 1000000000) : ∀ (k i : Nat) (b : Bool), i ≤ 14 → 14 - i < k →
    sline_f.H sline_e [] (k + 4) 0 [.r (rowW ((N.take i).map Lib.itoa)), .b b, .i a0, .i a1, .i a2, .i x0, .i y0, .i a8, .i a9, .i aa, .i a3, .b lx, .i a5, .i a6, .i a7, .l dd, .i x1, .i y1, .i x2, .i y2, .i ab, .i ac, .i ad, .l N, .i ((14 : Nat) : Int), .i (i : Nat)] = some ⟨vS (tx (joinW ((N.map Lib.itoa ++ [Lib.itoa (wVal x0 y0), Lib.itoa (wVal x1 y1), Lib.itoa (wVal x2 y2)]) ++ [120 :: hexB (toB dd)]) ++ [10])), []⟩ := by
  intro k
  induction k with
  | zero => intro i b _ h; omega
  | succ k ih =>
    intro i b hi hk
    rw [show k + 1 + 4 = (k + 4) + 1 by omega, FnD.H_succ, sline_l0]
    dsimp only
    have hl : (rowW ((N.take i).map Lib.itoa)).length = i := by rw [rowW_len, List.length_map, List.length_take]; omega
    by_cases h : i < 14
    · have hx : N.getD i 0 = N[i] := by rw [List.getD_eq_getElem?_getD, List.getElem?_eq_getElem (by omega)]; rfl
      rw [Int.toNat_natCast]
      rw [show IntKind.i64.wrap ((i : Int) + 1) = ((i + 1 : Nat) : Int) by rw [IntWalk.i64_in _ (by omega)]; omega]
      refine condT (by omega) (condB ((inB_iff _ _).2 (by omega)) (condT (by rw [hx]; exact hH _ (List.getElem_mem _)) ?_))
      refine (push_rowsN (z := 16) (room_of (by rw [hl]; omega) (by rw [hl]; omega))).trans ?_
      rw [List.take_length, rowW_snoc, hx]
      have := ih (i + 1) (nlAfter b 1) (by omega) (by omega)
      rw [List.take_succ_eq_append_getElem (by omega), List.map_append] at this
      exact this
    · obtain rfl : i = 14 := by omega
      rw [List.take_of_length_le (by omega)] at hl ⊢
      refine condF (by omega) (condB (by simp) ?_)
      have z : ((0 : Nat) : Int) = 0 := rfl
      have s0 := sline_step (a0 := a0) (a1 := a1) (a2 := a2) (x0 := x0) (y0 := y0) (a8 := a8) (a9 := a9) (aa := aa) (a3 := a3) (lx := lx) (a5 := a5) (a6 := a6) (a7 := a7) (dd := dd) (x1 := x1) (y1 := y1) (x2 := x2) (y2 := y2) (ab := ab) (ac := ac) (ad := ad) (k + 3) 0 (N.map Lib.itoa) b x0 y0 (by decide) rfl h0.1 h0.2 (by rw [List.length_map]; exact hN)
      refine s0.trans ?_
      rw [sline_step (k + 2) 1 _ _ x1 y1 (by decide) rfl h1.1 h1.2 (by rw [List.length_append, List.length_map, hN]; rfl)]
      rw [sline_step (k + 1) 2 _ _ x2 y2 (by decide) rfl h2.1 h2.2 (by rw [List.length_append, List.length_append, List.length_map, hN]; rfl)]
      rw [List.append_assoc, List.append_assoc]
      exact sline_fin k (N.map Lib.itoa ++ [Lib.itoa (wVal x0 y0), Lib.itoa (wVal x1 y1), Lib.itoa (wVal x2 y2)]) _ (by rw [List.length_append, List.length_map, hN]; rfl) hb hd hj
theorem sline_run (a0 : Int) (a1 : Int) (a2 : Int) (x0 : Int) (y0 : Int) (a8 : Int) (a9 : Int) (aa : Int) (a3 : Int) (lx : Bool) (a5 : Int) (a6 : Int) (a7 : Int) (dd : List Int) (x1 : Int) (y1 : Int) (x2 : Int) (y2 : Int) (ab : Int) (ac : Int) (ad : Int) (hp : qOk [a0, a1, a2, a3, if lx then 1 else 0, a5, a6, a7, a8, a9, aa, ab, ac, ad] [x0, y0, x1, y1, x2, y2] dd) : ∃ fu, sline_f.run sline_e [] fu [agg [.c (.int .i64 a0), .c (.int .i64 a1), .c (.int .i64 a2), .c (.int .i64 x0), .c (.int .u64 y0), .c (.int .i64 a8), .c (.int .i64 a9), .c (.int .i64 aa), .c (.int .i64 a3), .c (.bool lx), .c (.int .i64 a5), .c (.int .i64 a6), .c (.int .i64 a7), .c (.ints .u8 dd), .c (.int .i64 x1), .c (.int .u64 y1), .c (.int .i64 x2), .c (.int .u64 y2), .c (.int .i64 ab), .c (.int .i64 ac), .c (.int .i64 ad)]] [] = some ⟨vS (tx (lnQ [a0, a1, a2, a3, if lx then 1 else 0, a5, a6, a7, a8, a9, aa, ab, ac, ad] [x0, y0, x1, y1, x2, y2] dd)), []⟩ := by
  have hn := qOk_n hp
  have hlen := lnQ_len (n := [a0, a1, a2, a3, if lx then 1 else 0, a5, a6, a7, a8, a9, aa, ab, ac, ad]) rfl hp
  have hd : dd.length ≤ 100000000 := hp.2.2.2.2.2
  refine ⟨15 + 4, ?_⟩
  rw [FnD.run, sline_ent]
  refine (sline_loop [a0, a1, a2, a3, if lx then 1 else 0, a5, a6, a7, a8, a9, aa, ab, ac, ad] rfl hn hp.2.1 hp.2.2.1 hp.2.2.2.1 hp.2.2.2.2.1 hd ?_ 15 0 true (by omega) (by omega)).trans ?_
  · have e : (lnQ [a0, a1, a2, a3, if lx then 1 else 0, a5, a6, a7, a8, a9, aa, ab, ac, ad] [x0, y0, x1, y1, x2, y2] dd).length = (joinW ((([a0, a1, a2, a3, if lx then 1 else 0, a5, a6, a7, a8, a9, aa, ab, ac, ad] : List Int).map Lib.itoa ++ [Lib.itoa (wVal x0 y0), Lib.itoa (wVal x1 y1), Lib.itoa (wVal x2 y2)]) ++ [120 :: hexB (toB dd)])).length + 1 := by
      unfold lnQ
      rw [List.length_append, List.append_assoc]; rfl
    have h2 : (joinW ((([a0, a1, a2, a3, if lx then 1 else 0, a5, a6, a7, a8, a9, aa, ab, ac, ad] : List Int).map Lib.itoa ++ [Lib.itoa (wVal x0 y0), Lib.itoa (wVal x1 y1), Lib.itoa (wVal x2 y2)]) ++ [120 :: hexB (toB dd)])).length ≤ 1000000000 := by omega
    exact h2
  · rw [List.append_assoc]; rfl
theorem sline_ok (a0 : Int) (a1 : Int) (a2 : Int) (x0 : Int) (y0 : Int) (a8 : Int) (a9 : Int) (aa : Int) (a3 : Int) (lx : Bool) (a5 : Int) (a6 : Int) (a7 : Int) (dd : List Int) (x1 : Int) (y1 : Int) (x2 : Int) (y2 : Int) (ab : Int) (ac : Int) (ad : Int) (hp : qOk [a0, a1, a2, a3, if lx then 1 else 0, a5, a6, a7, a8, a9, aa, ab, ac, ad] [x0, y0, x1, y1, x2, y2] dd) : FnOk cfg 82 ([agg [.c (.int .i64 a0), .c (.int .i64 a1), .c (.int .i64 a2), .c (.int .i64 x0), .c (.int .u64 y0), .c (.int .i64 a8), .c (.int .i64 a9), .c (.int .i64 aa), .c (.int .i64 a3), .c (.bool lx), .c (.int .i64 a5), .c (.int .i64 a6), .c (.int .i64 a7), .c (.ints .u8 dd), .c (.int .i64 x1), .c (.int .u64 y1), .c (.int .i64 x2), .c (.int .u64 y2), .c (.int .i64 ab), .c (.int .i64 ac), .c (.int .i64 ad)]].map SV.den) (vS (tx (lnQ [a0, a1, a2, a3, if lx then 1 else 0, a5, a6, a7, a8, a9, aa, ab, ac, ad] [x0, y0, x1, y1, x2, y2] dd)) : SV).den := by
  obtain ⟨nn, h⟩ := sline_run a0 a1 a2 x0 y0 a8 a9 aa a3 lx a5 a6 a7 dd x1 y1 x2 y2 ab ac ad hp
  exact FnD.ok sline_g sline_f mixed Tryz.func82 rfl rfl rfl rfl rfl rfl h
noncomputable def c_sline : SpecF := fun args _ K => match args with
  | [.one (.agg [.c (.int .i64 a0), .c (.int .i64 a1), .c (.int .i64 a2), .c (.int .i64 x0), .c (.int .u64 y0), .c (.int .i64 a8), .c (.int .i64 a9), .c (.int .i64 aa), .c (.int .i64 a3), .c (.bool lx), .c (.int .i64 a5), .c (.int .i64 a6), .c (.int .i64 a7), .c (.ints .u8 dd), .c (.int .i64 x1), .c (.int .u64 y1), .c (.int .i64 x2), .c (.int .u64 y2), .c (.int .i64 ab), .c (.int .i64 ac), .c (.int .i64 ad)])] => bif decide (qOk [a0, a1, a2, a3, if lx then 1 else 0, a5, a6, a7, a8, a9, aa, ab, ac, ad] [x0, y0, x1, y1, x2, y2] dd) then K (vS (tx (lnQ [a0, a1, a2, a3, if lx then 1 else 0, a5, a6, a7, a8, a9, aa, ab, ac, ad] [x0, y0, x1, y1, x2, y2] dd))) [] else none
  | _ => none
theorem c_sline_ok : SpecOk cfg 82 c_sline := by
  intro args bx K out h
  unfold c_sline at h
  split at h
  · obtain ⟨hp, h⟩ := bif_some h
    exact ⟨_, _, h, .inl (sline_ok _ _ _ _ _ _ _ _ _ _ _ _ _ _ _ _ _ _ _ _ _ (of_decide_eq_true hp) _), by simp [isTupS]⟩
  · cases h
/-! ### script.Print -/
noncomputable def sprint_e : Ev' := ⟨Tryz.prog, glob, Γof [(82, c_sline), (72, c_ws13), (76, c_bstr)]⟩
theorem sprint_g : Gd cfg sprint_e := gd (env_cons c_sline_ok (env_cons c_ws13_ok (env_cons c_bstr_ok (env_nil _))))
noncomputable def sprint_f : FnD := ⟨34, Tryz.f34, shOf [(0, ⟨17, [(13, ⟨.ints .u8, false, true⟩)], [(3, [.c (.bself 98 3), .c (.tsl 5 13)])], [(3, .c (.ptr 3 0)), (6, .c (.rows [.int .i64, .int .i64, .int .i64, .int .i64, .int .u64, .int .i64, .int .i64, .int .i64, .int .i64, .bool, .int .i64, .int .i64, .int .i64, .ints .u8, .int .i64, .int .u64, .int .i64, .int .u64, .int .i64, .int .i64, .int .i64])), (7, .c (.int .i64)), (8, .c (.int .i64))]⟩)], Tryz.f34.resultTypes.toList, 0⟩
theorem sprint_ent (h : Hd) (L : List (List D)) : sprint_f.ent sprint_e [] h [c1 (.rows [.int .i64, .int .i64, .int .i64, .int .i64, .int .u64, .int .i64, .int .i64, .int .i64, .int .i64, .bool, .int .i64, .int .i64, .int .i64, .ints .u8, .int .i64, .int .u64, .int .i64, .int .u64, .int .i64, .int .i64, .int .i64] L)] [] = h (0 : Nat) [Lf.l [], Lf.b true, Lf.b false, Lf.r L, Lf.i (↑L.length : Int), Lf.i (0 : Int)] := by kernel_rfl
theorem sprint_l0 (h : Hd) (l0 : List Int) (b1 : Bool) (b2 : Bool) (r3 : List (List D)) (i4 : Int) (i5 : Int) : sprint_f.seg sprint_e [] h 0 [.l l0, .b b1, .b b2, .r r3, .i i4, .i i5] = let v1 : Int := if ((r3.getD i5.toNat []).getD (9 : Nat) (D.i (0 : Int))).toB = true then (1 : Int) else (0 : Int); let v2 : ByteArray := tx (lnQ [((r3.getD i5.toNat []).getD (0 : Nat) (D.i (0 : Int))).toI, ((r3.getD i5.toNat []).getD (1 : Nat) (D.i (0 : Int))).toI, ((r3.getD i5.toNat []).getD (2 : Nat) (D.i (0 : Int))).toI, ((r3.getD i5.toNat []).getD (8 : Nat) (D.i (0 : Int))).toI, v1, ((r3.getD i5.toNat []).getD (10 : Nat) (D.i (0 : Int))).toI, ((r3.getD i5.toNat []).getD (11 : Nat) (D.i (0 : Int))).toI, ((r3.getD i5.toNat []).getD (12 : Nat) (D.i (0 : Int))).toI, ((r3.getD i5.toNat []).getD (5 : Nat) (D.i (0 : Int))).toI, ((r3.getD i5.toNat []).getD (6 : Nat) (D.i (0 : Int))).toI, ((r3.getD i5.toNat []).getD (7 : Nat) (D.i (0 : Int))).toI, ((r3.getD i5.toNat []).getD (18 : Nat) (D.i (0 : Int))).toI, ((r3.getD i5.toNat []).getD (19 : Nat) (D.i (0 : Int))).toI, ((r3.getD i5.toNat []).getD (20 : Nat) (D.i (0 : Int))).toI] [((r3.getD i5.toNat []).getD (3 : Nat) (D.i (0 : Int))).toI, ((r3.getD i5.toNat []).getD (4 : Nat) (D.i (0 : Int))).toI, ((r3.getD i5.toNat []).getD (14 : Nat) (D.i (0 : Int))).toI, ((r3.getD i5.toNat []).getD (15 : Nat) (D.i (0 : Int))).toI, ((r3.getD i5.toNat []).getD (16 : Nat) (D.i (0 : Int))).toI, ((r3.getD i5.toNat []).getD (17 : Nat) (D.i (0 : Int))).toI] ((r3.getD i5.toNat []).getD (13 : Nat) (D.i (0 : Int))).toL); let v3 : Nat := v2.size; let v4 : List Int := bytesI v2; let v5 : Nat := v4.length; let v6 : Nat := l0.length + v3; let v7 : List Int := l0 ++ v4; let v8 : Nat := v7.length; bif decide (i5 < i4) then bif inB i5 r3.length then bif decide (qOk [((r3.getD i5.toNat []).getD (0 : Nat) (D.i (0 : Int))).toI, ((r3.getD i5.toNat []).getD (1 : Nat) (D.i (0 : Int))).toI, ((r3.getD i5.toNat []).getD (2 : Nat) (D.i (0 : Int))).toI, ((r3.getD i5.toNat []).getD (8 : Nat) (D.i (0 : Int))).toI, v1, ((r3.getD i5.toNat []).getD (10 : Nat) (D.i (0 : Int))).toI, ((r3.getD i5.toNat []).getD (11 : Nat) (D.i (0 : Int))).toI, ((r3.getD i5.toNat []).getD (12 : Nat) (D.i (0 : Int))).toI, ((r3.getD i5.toNat []).getD (5 : Nat) (D.i (0 : Int))).toI, ((r3.getD i5.toNat []).getD (6 : Nat) (D.i (0 : Int))).toI, ((r3.getD i5.toNat []).getD (7 : Nat) (D.i (0 : Int))).toI, ((r3.getD i5.toNat []).getD (18 : Nat) (D.i (0 : Int))).toI, ((r3.getD i5.toNat []).getD (19 : Nat) (D.i (0 : Int))).toI, ((r3.getD i5.toNat []).getD (20 : Nat) (D.i (0 : Int))).toI] [((r3.getD i5.toNat []).getD (3 : Nat) (D.i (0 : Int))).toI, ((r3.getD i5.toNat []).getD (4 : Nat) (D.i (0 : Int))).toI, ((r3.getD i5.toNat []).getD (14 : Nat) (D.i (0 : Int))).toI, ((r3.getD i5.toNat []).getD (15 : Nat) (D.i (0 : Int))).toI, ((r3.getD i5.toNat []).getD (16 : Nat) (D.i (0 : Int))).toI, ((r3.getD i5.toNat []).getD (17 : Nat) (D.i (0 : Int))).toI] ((r3.getD i5.toNat []).getD (13 : Nat) (D.i (0 : Int))).toL) then bif decide ((0 : Nat) < v3 ∧ v3 ≤ (1099511627776 : Nat)) then bif b1 == b1 && decide (l0.length = l0.length) then bif b1 then bif decide (l0 = []) then bif decide (v3 = v5) then h (0 : Nat) [Lf.l v4, Lf.b false, Lf.b true, Lf.r r3, Lf.i i4, Lf.i (IntKind.i64.wrap (i5 + (1 : Int)))] else none else none else bif decide (l0.length ≤ (1099511627776 : Nat)) then bif decide (v6 = v8) then h (0 : Nat) [Lf.l v7, Lf.b false, Lf.b true, Lf.r r3, Lf.i i4, Lf.i (IntKind.i64.wrap (i5 + (1 : Int)))] else none else none else none else none else none else none else bif b1 == b1 && decide (l0.length = l0.length) then bif b1 then bif decide (l0 = []) then ret (vS (tx [])) else none else bif decide (l0 = bytesI (textOf l0) ∧ l0 ≠ [] ∧ l0.length ≤ (140737488355328 : Nat)) then ret (vS (textOf l0)) else none else none := by kernel_rfl

theorem lnR_unf (r : List D) : lnQ [(r.getD 0 (D.i 0)).toI, (r.getD 1 (D.i 0)).toI, (r.getD 2 (D.i 0)).toI, (r.getD 8 (D.i 0)).toI, if (r.getD 9 (D.i 0)).toB = true then 1 else 0, (r.getD 10 (D.i 0)).toI, (r.getD 11 (D.i 0)).toI, (r.getD 12 (D.i 0)).toI, (r.getD 5 (D.i 0)).toI, (r.getD 6 (D.i 0)).toI, (r.getD 7 (D.i 0)).toI, (r.getD 18 (D.i 0)).toI, (r.getD 19 (D.i 0)).toI, (r.getD 20 (D.i 0)).toI] [(r.getD 3 (D.i 0)).toI, (r.getD 4 (D.i 0)).toI, (r.getD 14 (D.i 0)).toI, (r.getD 15 (D.i 0)).toI, (r.getD 16 (D.i 0)).toI, (r.getD 17 (D.i 0)).toI] ((r.getD 13 (D.i 0)).toL) = lnR r := rfl
theorem prnQ_sub {L : List (List D)} {i : Nat} (h : i < L.length) : (lnR (L.getD i [])).length + (prnQ (L.take i)).length ≤ (prnQ L).length := by
  have := prnQ_le L (i + 1)
  rw [prnQ_take h, List.length_append] at this
  omega
theorem sprint_loop (L : List (List D)) (hL : allR L) (hT : (prnQ L).length ≤ 1000000000) : ∀ (k i : Nat) (b : Bool), i ≤ L.length → L.length - i < k →
    sprint_f.H sprint_e [] k 0 [.l (bytesI (tx (prnQ (L.take i)))), .b (decide (i = 0)), .b b, .r L, .i (L.length : Nat), .i (i : Nat)] = some ⟨vS (tx (prnQ L)), []⟩ := by
  intro k
  induction k with
  | zero => intro i b _ h; omega
  | succ k ih =>
    intro i b hi hk
    rw [FnD.H_succ, sprint_l0]
    dsimp only
    rw [Int.toNat_natCast, lnR_unf]
    by_cases h : i < L.length
    · have ho := allR_at hL h
      have hs := prnQ_sub h
      obtain ⟨q1, q2⟩ := lnR_len ho
      have hlL := prnQ_le L i
      have wr : IntKind.i64.wrap ((i : Int) + 1) = ((i + 1 : Nat) : Int) := by
        have hn : i < 4611686018427387904 := by
          have : ∀ j, j ≤ i → j ≤ (prnQ (L.take j)).length := by
            intro j
            induction j with
            | zero => intro _; exact Nat.zero_le _
            | succ j jh =>
              intro hj
              have := jh (by omega)
              have hj2 : j < L.length := by omega
              have h3 := (lnR_len (allR_at hL hj2)).2
              rw [prnQ_take hj2, List.length_append]; omega
          have := this i (Nat.le_refl _)
          omega
        rw [IntWalk.i64_in _ (by omega)]; omega
      rw [wr]
      have key := ih (i + 1) true (by omega) (by omega)
      rw [decide_eq_false (by omega), prnQ_take h] at key
      refine condT (by omega) (condB ((inB_iff _ _).2 (by omega)) (condT ho (condT (by rw [tx_size]; omega) (condB (by simp) ?_))))
      by_cases h0 : i = 0
      · subst h0
        refine condT rfl (condT rfl (condT (by rw [tx_size, bytesI_lenL]) ?_))
        exact key
      · refine condF h0 (condT (by rw [bytesI_lenL]; omega) (condT (by rw [List.length_append, bytesI_lenL, bytesI_lenL, tx_size]) ?_))
        rw [bytesI_appL]
        exact key
    · obtain rfl : i = L.length := by omega
      rw [List.take_length] at *
      refine condF (by omega) (condB (by simp) ?_)
      by_cases h0 : L = []
      · subst h0
        exact condT rfl (condT rfl rfl)
      · have hn : L.length ≠ 0 := fun e => h0 (List.length_eq_zero_iff.1 e)
        have hp : 0 < (prnQ L).length := by
          have h1 : 0 < L.length := by omega
          have := prnQ_sub h1
          have := (lnR_len (allR_at hL h1)).2
          omega
        refine condF hn (condT ⟨?_, ?_, by rw [bytesI_lenL]; omega⟩ (retV ?_))
        · rw [textOf_bytesL]
        · intro e
          have := congrArg List.length e
          rw [bytesI_lenL] at this
          simp only [List.length_nil] at this
          omega
        · rw [textOf_bytesL]
theorem sprint_run (L : List (List D)) (hp : allR L ∧ (prnQ L).length ≤ 1000000000) : ∃ fu, sprint_f.run sprint_e [] fu [c1 (.rows [.int .i64, .int .i64, .int .i64, .int .i64, .int .u64, .int .i64, .int .i64, .int .i64, .int .i64, .bool, .int .i64, .int .i64, .int .i64, .ints .u8, .int .i64, .int .u64, .int .i64, .int .u64, .int .i64, .int .i64, .int .i64] L)] [] = some ⟨vS (tx (prnQ L)), []⟩ := by
  refine ⟨L.length + 1, ?_⟩
  rw [FnD.run, sprint_ent]
  exact sprint_loop L hp.1 hp.2 (L.length + 1) 0 false (by omega) (by omega)
theorem sprint_ok (L : List (List D)) (hp : allR L ∧ (prnQ L).length ≤ 1000000000) : FnOk cfg 34 ([c1 (.rows [.int .i64, .int .i64, .int .i64, .int .i64, .int .u64, .int .i64, .int .i64, .int .i64, .int .i64, .bool, .int .i64, .int .i64, .int .i64, .ints .u8, .int .i64, .int .u64, .int .i64, .int .u64, .int .i64, .int .i64, .int .i64] L)].map SV.den) (vS (tx (prnQ L)) : SV).den := by
  obtain ⟨nn, h⟩ := sprint_run L hp
  exact FnD.ok sprint_g sprint_f mixed Tryz.func34 rfl rfl rfl rfl rfl rfl h
noncomputable def c_sprint : SpecF := fun args _ K => match args with
  | [.one (.c (.rows [.int .i64, .int .i64, .int .i64, .int .i64, .int .u64, .int .i64, .int .i64, .int .i64, .int .i64, .bool, .int .i64, .int .i64, .int .i64, .ints .u8, .int .i64, .int .u64, .int .i64, .int .u64, .int .i64, .int .i64, .int .i64] L))] => bif decide (allR L ∧ (prnQ L).length ≤ 1000000000) then K (vS (tx (prnQ L))) [] else none
  | _ => none
theorem c_sprint_ok : SpecOk cfg 34 c_sprint := by
  intro args bx K out h
  unfold c_sprint at h
  split at h
  · obtain ⟨hp, h⟩ := bif_some h
    exact ⟨_, _, h, .inl (sprint_ok _ (of_decide_eq_true hp) _), by simp [isTupS]⟩
  · cases h
/-! ### script.readInts -/
noncomputable def sri_e : Ev' := ⟨Tryz.prog, glob, Γof [(151, c_atoi)]⟩
theorem sri_g : Gd cfg sri_e := gd (env_cons c_atoi_ok (env_nil _))
noncomputable def sri_f : FnD := ⟨121, Tryz.f121, shOf [(0, ⟨26, [], [(2, [.arr .i64 14])], [(0, .c (.rows [.str])), (2, .c (.ptr 2 0)), (7, .c (.int .i64))]⟩)], Tryz.f121.resultTypes.toList, 0⟩
theorem sri_ent (h : Hd) (L : List (List D)) : sri_f.ent sri_e [] h [c1 (.rows [.str] L)] [] = h (0 : Nat) [Lf.l [(0 : Int), (0 : Int), (0 : Int), (0 : Int), (0 : Int), (0 : Int), (0 : Int), (0 : Int), (0 : Int), (0 : Int), (0 : Int), (0 : Int), (0 : Int), (0 : Int)], Lf.r L, Lf.i (0 : Int)] := by kernel_rfl
theorem sri_l0 (h : Hd) (l0 : List Int) (r1 : List (List D)) (i2 : Int) : sri_f.seg sri_e [] h 0 [.l l0, .r r1, .i i2] = let v1 : List UInt8 := ((r1.getD i2.toNat []).getD (0 : Nat) (D.i (0 : Int))).toS.data.toList; bif decide (i2 < (14 : Int)) then bif inB i2 r1.length then bif decide (((r1.getD i2.toNat []).getD (0 : Nat) (D.i (0 : Int))).toS.size ≤ (1000000000 : Nat)) then bif atoiB v1 then bif inB i2 (14 : Nat) then bif decide (i2.toNat < (14 : Nat)) then h (0 : Nat) [Lf.l (setD (14 : Nat) l0 i2.toNat (atoiV v1)), Lf.r r1, Lf.i (IntKind.i64.wrap (i2 + (1 : Int)))] else none else none else ret (SV.tup [S1.agg [Sg.arr IntKind.i64 (14 : Nat) l0], S1.c (Cl.bool false)]) else none else none else ret (SV.tup [S1.agg [Sg.arr IntKind.i64 (14 : Nat) l0], S1.c (Cl.bool true)]) := by kernel_rfl

theorem sri_loop (L : List (List D)) (h14 : 14 ≤ L.length) (hs : ∀ r ∈ L, (rowS r).size ≤ 1000000000) : ∀ (k i : Nat) (out : List Int), i + k = 14 → out.length = 14 →
    sri_f.H sri_e [] (k + 1) 0 [.l out, .r L, .i (i : Nat)] = some ⟨.tup [.agg [.arr .i64 14 (riGo (L.map fun r => (rowS r).data.toList) k out).1], tB (riGo (L.map fun r => (rowS r).data.toList) k out).2], []⟩ := by
  intro k
  induction k with
  | zero =>
    intro i out hi ho
    rw [FnD.H_succ, sri_l0]
    exact condF (by omega) rfl
  | succ k ih =>
    intro i out hi ho
    rw [FnD.H_succ, sri_l0]
    dsimp only
    have hlt : i < L.length := by omega
    have e := rows_at hlt
    have hm : L.getD i [] ∈ L := by rw [List.getD_eq_getElem?_getD, List.getElem?_eq_getElem hlt]; exact List.getElem_mem hlt
    have e13 : 13 - k = i := by omega
    rw [Int.toNat_natCast, setD_eq ho]
    rw [show IntKind.i64.wrap ((i : Int) + 1) = ((i + 1 : Nat) : Int) by rw [IntWalk.i64_in _ (by omega)]; omega]
    refine condT (by omega) (condB ((inB_iff _ _).2 (by omega)) (condT (hs _ hm) ?_))
    unfold riGo
    rw [e13, e]
    cases atoiB ((((L.getD i []).getD 0 (D.i 0)).toS).data.toList) with
    | true => exact condB rfl (condB ((inB_iff _ _).2 (by omega)) (condT (by omega) (ih (i + 1) _ (by omega) (by rw [List.length_set]; exact ho))))
    | false => rfl
theorem sri_run (L : List (List D)) (hp : 14 ≤ L.length ∧ ∀ r ∈ L, (rowS r).size ≤ 1000000000) : ∃ fu, sri_f.run sri_e [] fu [c1 (.rows [.str] L)] [] = some ⟨.tup [.agg [.arr .i64 14 (riP (L.map fun r => (rowS r).data.toList)).1], tB (riP (L.map fun r => (rowS r).data.toList)).2], []⟩ := by
  refine ⟨15, ?_⟩
  rw [FnD.run, sri_ent]
  exact sri_loop L hp.1 hp.2 14 0 (List.replicate 14 0) rfl rfl
theorem sri_ok (L : List (List D)) (hp : 14 ≤ L.length ∧ ∀ r ∈ L, (rowS r).size ≤ 1000000000) : FnOk cfg 121 ([c1 (.rows [.str] L)].map SV.den) (.tup [.agg [.arr .i64 14 (riP (L.map fun r => (rowS r).data.toList)).1], tB (riP (L.map fun r => (rowS r).data.toList)).2] : SV).den := by
  obtain ⟨nn, h⟩ := sri_run L hp
  exact FnD.ok sri_g sri_f mixed Tryz.func121 rfl rfl rfl rfl rfl rfl h
noncomputable def c_sri : SpecF := fun args _ K => match args with
  | [.one (.c (.rows [.str] L))] => bif decide (14 ≤ L.length ∧ ∀ r ∈ L, (rowS r).size ≤ 1000000000) then K (.tup [.agg [.arr .i64 14 (riP (L.map fun r => (rowS r).data.toList)).1], tB (riP (L.map fun r => (rowS r).data.toList)).2]) [] else none
  | _ => none
theorem c_sri_ok : SpecOk cfg 121 c_sri := by
  intro args bx K out h
  unfold c_sri at h
  split at h
  · obtain ⟨hp, h⟩ := bif_some h
    exact ⟨_, _, h, .inl (sri_ok _ (of_decide_eq_true hp) _), by simp [isTupS]⟩
  · cases h
/-! ### script.readWides -/
noncomputable def srw_e : Ev' := ⟨Tryz.prog, glob, Γof [(168, c_dparse)]⟩
theorem srw_g : Gd cfg srw_e := gd (env_cons c_dparse_ok (env_nil _))
noncomputable def srw_f : FnD := ⟨122, Tryz.f122, shOf [(0, ⟨27, [], [(2, [.c (.int .i64), .c (.int .u64), .c (.int .i64), .c (.int .u64), .c (.int .i64), .c (.int .u64)])], [(0, .c (.rows [.str])), (2, .c (.ptr 2 0)), (7, .c (.int .i64))]⟩)], Tryz.f122.resultTypes.toList, 0⟩
theorem srw_ent (h : Hd) (L : List (List D)) : srw_f.ent srw_e [] h [c1 (.rows [.str] L)] [] = h (0 : Nat) [Lf.i (0 : Int), Lf.i (0 : Int), Lf.i (0 : Int), Lf.i (0 : Int), Lf.i (0 : Int), Lf.i (0 : Int), Lf.r L, Lf.i (0 : Int)] := by kernel_rfl
theorem srw_l0_0 (h : Hd) (i0 : Int) (i1 : Int) (i2 : Int) (i3 : Int) (i4 : Int) (i5 : Int) (r6 : List (List D)) : srw_f.seg srw_e [] h 0 [.i i0, .i i1, .i i2, .i i3, .i i4, .i i5, .r r6, .i 0] = let v1 : ByteArray := ((r6.getD (14 : Nat) []).getD (0 : Nat) (D.i (0 : Int))).toS; let v2 : Nat := v1.size; let v3 : List UInt8 := v1.data.toList; let v4 : Int := pE v3; let v5 : Int := pV v3; bif inB (IntKind.i64.wrap ((14 : Int) + (0 : Int))) r6.length then bif decide (v2 ≤ (9223372036854775807 : Nat)) then bif !decide (v4 = (0 : Int)) then ret (SV.tup [S1.agg [gI i0, gU i1, gI i2, gU i3, gI i4, gU i5], S1.c (Cl.bool false)]) else h (0 : Nat) [Lf.i (wHi v5), Lf.i (wLo v5), Lf.i i2, Lf.i i3, Lf.i i4, Lf.i i5, Lf.r r6, Lf.i (IntKind.i64.wrap ((0 : Int) + (1 : Int)))] else none else none := by kernel_rfl
theorem srw_l0_1 (h : Hd) (i0 : Int) (i1 : Int) (i2 : Int) (i3 : Int) (i4 : Int) (i5 : Int) (r6 : List (List D)) : srw_f.seg srw_e [] h 0 [.i i0, .i i1, .i i2, .i i3, .i i4, .i i5, .r r6, .i 1] = let v1 : ByteArray := ((r6.getD (15 : Nat) []).getD (0 : Nat) (D.i (0 : Int))).toS; let v2 : Nat := v1.size; let v3 : List UInt8 := v1.data.toList; let v4 : Int := pE v3; let v5 : Int := pV v3; bif inB (IntKind.i64.wrap ((14 : Int) + (1 : Int))) r6.length then bif decide (v2 ≤ (9223372036854775807 : Nat)) then bif !decide (v4 = (0 : Int)) then ret (SV.tup [S1.agg [gI i0, gU i1, gI i2, gU i3, gI i4, gU i5], S1.c (Cl.bool false)]) else h (0 : Nat) [Lf.i i0, Lf.i i1, Lf.i (wHi v5), Lf.i (wLo v5), Lf.i i4, Lf.i i5, Lf.r r6, Lf.i (IntKind.i64.wrap ((1 : Int) + (1 : Int)))] else none else none := by kernel_rfl
theorem srw_l0_2 (h : Hd) (i0 : Int) (i1 : Int) (i2 : Int) (i3 : Int) (i4 : Int) (i5 : Int) (r6 : List (List D)) : srw_f.seg srw_e [] h 0 [.i i0, .i i1, .i i2, .i i3, .i i4, .i i5, .r r6, .i 2] = let v1 : ByteArray := ((r6.getD (16 : Nat) []).getD (0 : Nat) (D.i (0 : Int))).toS; let v2 : Nat := v1.size; let v3 : List UInt8 := v1.data.toList; let v4 : Int := pE v3; let v5 : Int := pV v3; bif inB (IntKind.i64.wrap ((14 : Int) + (2 : Int))) r6.length then bif decide (v2 ≤ (9223372036854775807 : Nat)) then bif !decide (v4 = (0 : Int)) then ret (SV.tup [S1.agg [gI i0, gU i1, gI i2, gU i3, gI i4, gU i5], S1.c (Cl.bool false)]) else h (0 : Nat) [Lf.i i0, Lf.i i1, Lf.i i2, Lf.i i3, Lf.i (wHi v5), Lf.i (wLo v5), Lf.r r6, Lf.i (IntKind.i64.wrap ((2 : Int) + (1 : Int)))] else none else none := by kernel_rfl
theorem srw_l0_3 (h : Hd) (i0 : Int) (i1 : Int) (i2 : Int) (i3 : Int) (i4 : Int) (i5 : Int) (r6 : List (List D)) : srw_f.seg srw_e [] h 0 [.i i0, .i i1, .i i2, .i i3, .i i4, .i i5, .r r6, .i 3] = ret (SV.tup [S1.agg [gI i0, gU i1, gI i2, gU i3, gI i4, gU i5], S1.c (Cl.bool true)]) := by kernel_rfl
theorem srw_run (L : List (List D)) (hp : 17 ≤ L.length ∧ ∀ r ∈ L, (rowS r).size ≤ 1000000000) : ∃ fu, srw_f.run srw_e [] fu [c1 (.rows [.str] L)] [] = some ⟨.tup [.agg [gI ((rwP (L.map fun r => (rowS r).data.toList)).1.getD 0 0), gU ((rwP (L.map fun r => (rowS r).data.toList)).1.getD 1 0), gI ((rwP (L.map fun r => (rowS r).data.toList)).1.getD 2 0), gU ((rwP (L.map fun r => (rowS r).data.toList)).1.getD 3 0), gI ((rwP (L.map fun r => (rowS r).data.toList)).1.getD 4 0), gU ((rwP (L.map fun r => (rowS r).data.toList)).1.getD 5 0)], tB (rwP (L.map fun r => (rowS r).data.toList)).2], []⟩ := by
  obtain ⟨h17, hs⟩ := hp
  have hm : ∀ i, i < 17 → (((L.getD i []).getD 0 (D.i 0)).toS).size ≤ 1000000000 := fun i hi => by
    refine hs (L.getD i []) ?_
    rw [List.getD_eq_getElem?_getD, List.getElem?_eq_getElem (by omega)]
    exact List.getElem_mem _
  have m14 := hm 14 (by decide)
  have m15 := hm 15 (by decide)
  have m16 := hm 16 (by decide)
  rw [rwP_eq, rows_at (by omega : 14 < L.length), rows_at (by omega : 15 < L.length), rows_at (by omega : 16 < L.length)]
  have w1 : IntKind.i64.wrap (0 + 1) = 1 := by decide
  have w2 : IntKind.i64.wrap (1 + 1) = 2 := by decide
  have w3 : IntKind.i64.wrap (2 + 1) = 3 := by decide
  have v0 : IntKind.i64.wrap (14 + 0) = 14 := by decide
  have v1 : IntKind.i64.wrap (14 + 1) = 15 := by decide
  have v2 : IntKind.i64.wrap (14 + 2) = 16 := by decide
  refine ⟨4, ?_⟩
  rw [FnD.run, srw_ent, FnD.H_succ, srw_l0_0]
  dsimp only
  rw [v0, w1]
  refine condB ((inB_iff _ _).2 (by omega)) (condT (by omega) ?_)
  by_cases h0 : pE (((L.getD 14 []).getD 0 (D.i 0)).toS).data.toList = 0
  case neg => rw [decide_eq_false h0]; rfl
  rw [decide_eq_true h0]
  refine condN rfl ?_
  rw [FnD.H_succ, srw_l0_1]
  dsimp only
  rw [v1, w2]
  refine condB ((inB_iff _ _).2 (by omega)) (condT (by omega) ?_)
  by_cases h1 : pE (((L.getD 15 []).getD 0 (D.i 0)).toS).data.toList = 0
  case neg => rw [decide_eq_false h1]; rfl
  rw [decide_eq_true h1]
  refine condN rfl ?_
  rw [FnD.H_succ, srw_l0_2]
  dsimp only
  rw [v2, w3]
  refine condB ((inB_iff _ _).2 (by omega)) (condT (by omega) ?_)
  by_cases h2 : pE (((L.getD 16 []).getD 0 (D.i 0)).toS).data.toList = 0
  case neg => rw [decide_eq_false h2]; rfl
  rw [decide_eq_true h2]
  refine condN rfl ?_
  rw [FnD.H_succ, srw_l0_3]
  rfl
theorem srw_ok (L : List (List D)) (hp : 17 ≤ L.length ∧ ∀ r ∈ L, (rowS r).size ≤ 1000000000) : FnOk cfg 122 ([c1 (.rows [.str] L)].map SV.den) (.tup [.agg [gI ((rwP (L.map fun r => (rowS r).data.toList)).1.getD 0 0), gU ((rwP (L.map fun r => (rowS r).data.toList)).1.getD 1 0), gI ((rwP (L.map fun r => (rowS r).data.toList)).1.getD 2 0), gU ((rwP (L.map fun r => (rowS r).data.toList)).1.getD 3 0), gI ((rwP (L.map fun r => (rowS r).data.toList)).1.getD 4 0), gU ((rwP (L.map fun r => (rowS r).data.toList)).1.getD 5 0)], tB (rwP (L.map fun r => (rowS r).data.toList)).2] : SV).den := by
  obtain ⟨nn, h⟩ := srw_run L hp
  exact FnD.ok srw_g srw_f mixed Tryz.func122 rfl rfl rfl rfl rfl rfl h
noncomputable def c_srw : SpecF := fun args _ K => match args with
  | [.one (.c (.rows [.str] L))] => bif decide (17 ≤ L.length ∧ ∀ r ∈ L, (rowS r).size ≤ 1000000000) then K (.tup [.agg [gI ((rwP (L.map fun r => (rowS r).data.toList)).1.getD 0 0), gU ((rwP (L.map fun r => (rowS r).data.toList)).1.getD 1 0), gI ((rwP (L.map fun r => (rowS r).data.toList)).1.getD 2 0), gU ((rwP (L.map fun r => (rowS r).data.toList)).1.getD 3 0), gI ((rwP (L.map fun r => (rowS r).data.toList)).1.getD 4 0), gU ((rwP (L.map fun r => (rowS r).data.toList)).1.getD 5 0)], tB (rwP (L.map fun r => (rowS r).data.toList)).2]) [] else none
  | _ => none
theorem c_srw_ok : SpecOk cfg 122 c_srw := by
  intro args bx K out h
  unfold c_srw at h
  split at h
  · obtain ⟨hp, h⟩ := bif_some h
    exact ⟨_, _, h, .inl (srw_ok _ (of_decide_eq_true hp) _), by simp [isTupS]⟩
  · cases h
/-! ### script.read -/
noncomputable def sread_e : Ev' := ⟨Tryz.prog, glob, Γof [(120, c_zsplit), (121, c_sri), (122, c_srw), (123, c_cutp), (124, c_sunh), (82, c_sline)]⟩
theorem sread_g : Gd cfg sread_e := gd (env_cons c_zsplit_ok (env_cons c_sri_ok (env_cons c_srw_ok (env_cons c_cutp_ok (env_cons c_sunh_ok (env_cons c_sline_ok (env_nil _)))))))
noncomputable def sread_f : FnD := ⟨84, Tryz.f84, noSh, Tryz.f84.resultTypes.toList, 0⟩
theorem sread_ent (h : Hd) (s : ByteArray) : sread_f.ent sread_e [] h [vS s] [] = let v1 : List UInt8 := (((List.map (fun l => [D.s (tx l)]) (splitW s.data.toList)).getD (17 : Nat) []).getD (0 : Nat) (D.i (0 : Int))).toS.data.toList; let v2 : ByteArray := tx (Lib.trimPrefix v1 (tx [120]).data.toList); let v3 : Nat := v2.size; let v4 : List UInt8 := v2.data.toList; let v5 : Int := (riP (List.map (fun r => (rowS r).data.toList) (List.map (fun l => [D.s (tx l)]) (splitW s.data.toList)))).fst.getD (0 : Nat) (0 : Int); let v6 : Int := (riP (List.map (fun r => (rowS r).data.toList) (List.map (fun l => [D.s (tx l)]) (splitW s.data.toList)))).fst.getD (1 : Nat) (0 : Int); let v7 : Int := (riP (List.map (fun r => (rowS r).data.toList) (List.map (fun l => [D.s (tx l)]) (splitW s.data.toList)))).fst.getD (2 : Nat) (0 : Int); let v8 : Int := (riP (List.map (fun r => (rowS r).data.toList) (List.map (fun l => [D.s (tx l)]) (splitW s.data.toList)))).fst.getD (3 : Nat) (0 : Int); let v9 : Int := (riP (List.map (fun r => (rowS r).data.toList) (List.map (fun l => [D.s (tx l)]) (splitW s.data.toList)))).fst.getD (4 : Nat) (0 : Int); let v10 : Int := if decide (v9 = (1 : Int)) = true then (1 : Int) else (0 : Int); let v11 : Int := (riP (List.map (fun r => (rowS r).data.toList) (List.map (fun l => [D.s (tx l)]) (splitW s.data.toList)))).fst.getD (5 : Nat) (0 : Int); let v12 : Int := (riP (List.map (fun r => (rowS r).data.toList) (List.map (fun l => [D.s (tx l)]) (splitW s.data.toList)))).fst.getD (6 : Nat) (0 : Int); let v13 : Int := (riP (List.map (fun r => (rowS r).data.toList) (List.map (fun l => [D.s (tx l)]) (splitW s.data.toList)))).fst.getD (7 : Nat) (0 : Int); let v14 : Int := (riP (List.map (fun r => (rowS r).data.toList) (List.map (fun l => [D.s (tx l)]) (splitW s.data.toList)))).fst.getD (8 : Nat) (0 : Int); let v15 : Int := (riP (List.map (fun r => (rowS r).data.toList) (List.map (fun l => [D.s (tx l)]) (splitW s.data.toList)))).fst.getD (9 : Nat) (0 : Int); let v16 : Int := (riP (List.map (fun r => (rowS r).data.toList) (List.map (fun l => [D.s (tx l)]) (splitW s.data.toList)))).fst.getD (10 : Nat) (0 : Int); let v17 : Int := (riP (List.map (fun r => (rowS r).data.toList) (List.map (fun l => [D.s (tx l)]) (splitW s.data.toList)))).fst.getD (11 : Nat) (0 : Int); let v18 : Int := (riP (List.map (fun r => (rowS r).data.toList) (List.map (fun l => [D.s (tx l)]) (splitW s.data.toList)))).fst.getD (12 : Nat) (0 : Int); let v19 : Int := (riP (List.map (fun r => (rowS r).data.toList) (List.map (fun l => [D.s (tx l)]) (splitW s.data.toList)))).fst.getD (13 : Nat) (0 : Int); let v20 : Int := (rwP (List.map (fun r => (rowS r).data.toList) (List.map (fun l => [D.s (tx l)]) (splitW s.data.toList)))).fst.getD (0 : Nat) (0 : Int); let v21 : Int := (rwP (List.map (fun r => (rowS r).data.toList) (List.map (fun l => [D.s (tx l)]) (splitW s.data.toList)))).fst.getD (1 : Nat) (0 : Int); let v22 : Int := (rwP (List.map (fun r => (rowS r).data.toList) (List.map (fun l => [D.s (tx l)]) (splitW s.data.toList)))).fst.getD (2 : Nat) (0 : Int); let v23 : Int := (rwP (List.map (fun r => (rowS r).data.toList) (List.map (fun l => [D.s (tx l)]) (splitW s.data.toList)))).fst.getD (3 : Nat) (0 : Int); let v24 : Int := (rwP (List.map (fun r => (rowS r).data.toList) (List.map (fun l => [D.s (tx l)]) (splitW s.data.toList)))).fst.getD (4 : Nat) (0 : Int); let v25 : Int := (rwP (List.map (fun r => (rowS r).data.toList) (List.map (fun l => [D.s (tx l)]) (splitW s.data.toList)))).fst.getD (5 : Nat) (0 : Int); let v26 : List Int := byI (unD v4); bif decide ((tx [32]) = tx [32] ∧ s.size ≤ (1000000000 : Nat)) then bif !decide ((↑(List.map (fun l => [D.s (tx l)]) (splitW s.data.toList)).length : Int) = (18 : Int)) then ret (SV.tup [S1.agg [gI (0 : Int), gI (0 : Int), gI (0 : Int), gI (0 : Int), gU (0 : Int), gI (0 : Int), gI (0 : Int), gI (0 : Int), gI (0 : Int), Sg.c (Cl.bool false), gI (0 : Int), gI (0 : Int), gI (0 : Int), Sg.c (Cl.ints IntKind.u8 []), gI (0 : Int), gU (0 : Int), gI (0 : Int), gU (0 : Int), gI (0 : Int), gI (0 : Int), gI (0 : Int)], S1.c (Cl.bool false)]) else bif decide ((14 : Nat) ≤ (List.map (fun l => [D.s (tx l)]) (splitW s.data.toList)).length ∧ ∀ (r : List D), r ∈ List.map (fun l => [D.s (tx l)]) (splitW s.data.toList) → (rowS r).size ≤ (1000000000 : Nat)) then bif decide ((17 : Nat) ≤ (List.map (fun l => [D.s (tx l)]) (splitW s.data.toList)).length ∧ ∀ (r : List D), r ∈ List.map (fun l => [D.s (tx l)]) (splitW s.data.toList) → (rowS r).size ≤ (1000000000 : Nat)) then bif inB (17 : Int) (List.map (fun l => [D.s (tx l)]) (splitW s.data.toList)).length then bif decide (v3 ≤ (1000000000 : Nat)) then bif !(riP (List.map (fun r => (rowS r).data.toList) (List.map (fun l => [D.s (tx l)]) (splitW s.data.toList)))).snd then ret (SV.tup [S1.agg [gI (0 : Int), gI (0 : Int), gI (0 : Int), gI (0 : Int), gU (0 : Int), gI (0 : Int), gI (0 : Int), gI (0 : Int), gI (0 : Int), Sg.c (Cl.bool false), gI (0 : Int), gI (0 : Int), gI (0 : Int), Sg.c (Cl.ints IntKind.u8 []), gI (0 : Int), gU (0 : Int), gI (0 : Int), gU (0 : Int), gI (0 : Int), gI (0 : Int), gI (0 : Int)], S1.c (Cl.bool false)]) else bif !(rwP (List.map (fun r => (rowS r).data.toList) (List.map (fun l => [D.s (tx l)]) (splitW s.data.toList)))).snd then ret (SV.tup [S1.agg [gI (0 : Int), gI (0 : Int), gI (0 : Int), gI (0 : Int), gU (0 : Int), gI (0 : Int), gI (0 : Int), gI (0 : Int), gI (0 : Int), Sg.c (Cl.bool false), gI (0 : Int), gI (0 : Int), gI (0 : Int), Sg.c (Cl.ints IntKind.u8 []), gI (0 : Int), gU (0 : Int), gI (0 : Int), gU (0 : Int), gI (0 : Int), gI (0 : Int), gI (0 : Int)], S1.c (Cl.bool false)]) else bif !Lib.hasPrefix v1 (tx [120]).data.toList then ret (SV.tup [S1.agg [gI (0 : Int), gI (0 : Int), gI (0 : Int), gI (0 : Int), gU (0 : Int), gI (0 : Int), gI (0 : Int), gI (0 : Int), gI (0 : Int), Sg.c (Cl.bool false), gI (0 : Int), gI (0 : Int), gI (0 : Int), Sg.c (Cl.ints IntKind.u8 []), gI (0 : Int), gU (0 : Int), gI (0 : Int), gU (0 : Int), gI (0 : Int), gI (0 : Int), gI (0 : Int)], S1.c (Cl.bool false)]) else bif !unB v4 then ret (SV.tup [S1.agg [gI (0 : Int), gI (0 : Int), gI (0 : Int), gI (0 : Int), gU (0 : Int), gI (0 : Int), gI (0 : Int), gI (0 : Int), gI (0 : Int), Sg.c (Cl.bool false), gI (0 : Int), gI (0 : Int), gI (0 : Int), Sg.c (Cl.ints IntKind.u8 []), gI (0 : Int), gU (0 : Int), gI (0 : Int), gU (0 : Int), gI (0 : Int), gI (0 : Int), gI (0 : Int)], S1.c (Cl.bool false)]) else bif decide (qOk [v5, v6, v7, v8, v10, v11, v12, v13, v14, v15, v16, v17, v18, v19] [v20, v21, v22, v23, v24, v25] v26) then bif decide (s.size + (1 : Nat) ≤ (9223372036854775807 : Nat)) then ret (SV.tup [S1.agg [gI v5, gI v6, gI v7, gI v20, gU v21, gI v14, gI v15, gI v16, gI v8, Sg.c (Cl.bool (decide (v9 = (1 : Int)))), gI v11, gI v12, gI v13, Sg.c (Cl.ints IntKind.u8 v26), gI v22, gU v23, gI v24, gU v25, gI v17, gI v18, gI v19], S1.c (Cl.bool (eqB (tx (lnQ [v5, v6, v7, v8, v10, v11, v12, v13, v14, v15, v16, v17, v18, v19] [v20, v21, v22, v23, v24, v25] v26)) (s ++ (tx [10]))))]) else none else none else none else none else none else none else none := by kernel_rfl

theorem sread_no {l : List UInt8} (h : rdP l = false) : (ret (.tup [.agg [gI 0, gI 0, gI 0, gI 0, gU 0, gI 0, gI 0, gI 0, gI 0, .c (.bool false), gI 0, gI 0, gI 0, .c (.ints .u8 []), gI 0, gU 0, gI 0, gU 0, gI 0, gI 0, gI 0], .c (.bool false)]) : Option Out) = some ⟨.tup [.agg [gI ((rdN l).getD 0 0), gI ((rdN l).getD 1 0), gI ((rdN l).getD 2 0), gI ((rdW l).getD 0 0), gU ((rdW l).getD 1 0), gI ((rdN l).getD 8 0), gI ((rdN l).getD 9 0), gI ((rdN l).getD 10 0), gI ((rdN l).getD 3 0), .c (.bool (rdX l)), gI ((rdN l).getD 5 0), gI ((rdN l).getD 6 0), gI ((rdN l).getD 7 0), .c (.ints .u8 (byI (rdD l))), gI ((rdW l).getD 2 0), gU ((rdW l).getD 3 0), gI ((rdW l).getD 4 0), gU ((rdW l).getD 5 0), gI ((rdN l).getD 11 0), gI ((rdN l).getD 12 0), gI ((rdN l).getD 13 0)], tB (rdB l)], []⟩ := by
  have hN : rdN l = List.replicate 14 0 := by unfold rdN; rw [h]; rfl
  have hW : rdW l = List.replicate 6 0 := by unfold rdW; rw [h]; rfl
  have hD : rdD l = [] := by unfold rdD; rw [h]; rfl
  have hX : rdX l = false := by unfold rdX; rw [h]; rfl
  have hB : rdB l = false := by unfold rdB; rw [h]; rfl
  rw [hN, hW, hD, hX, hB]; rfl
theorem splitA_len (c : UInt8) : ∀ (l acc : List UInt8), ∀ w ∈ splitA c acc l, w.length ≤ acc.length + l.length
  | [], acc, w, h => by
    simp only [splitA, List.mem_cons, List.not_mem_nil, or_false] at h
    subst h; simp
  | x :: l, acc, w, h => by
    rw [splitA] at h
    split at h
    · rcases List.mem_cons.1 h with rfl | h
      · omega
      · have := splitA_len c l [] w h
        simp only [List.length_nil, List.length_cons] at this ⊢; omega
    · have := splitA_len c l _ w h
      simp only [List.length_append, List.length_cons, List.length_nil] at this ⊢; omega
theorem qOk_rd (W : List (List UInt8)) (x : List UInt8) (hx : x.length ≤ 100000000) (f : Int) (hf : isH f) : qOk [(riP W).1.getD 0 0, (riP W).1.getD 1 0, (riP W).1.getD 2 0, (riP W).1.getD 3 0, f, (riP W).1.getD 5 0, (riP W).1.getD 6 0, (riP W).1.getD 7 0, (riP W).1.getD 8 0, (riP W).1.getD 9 0, (riP W).1.getD 10 0, (riP W).1.getD 11 0, (riP W).1.getD 12 0, (riP W).1.getD 13 0] [(rwP W).1.getD 0 0, (rwP W).1.getD 1 0, (rwP W).1.getD 2 0, (rwP W).1.getD 3 0, (rwP W).1.getD 4 0, (rwP W).1.getD 5 0] (byI (unD x)) := by
  have hr := rwP_in W
  refine ⟨?_, hr.1, hr.2.1, hr.2.2, bytesOk_byI _, ?_⟩
  · rw [List.all_eq_true]
    intro y hy
    simp only [List.mem_cons, List.not_mem_nil, or_false] at hy
    rcases hy with rfl | rfl | rfl | rfl | rfl | rfl | rfl | rfl | rfl | rfl | rfl | rfl | rfl | rfl <;> first | exact decide_eq_true (riP_H W _) | exact decide_eq_true hf
  · have := unh_len x
    rw [byI_len]; omega
theorem sread_run (s : ByteArray) (hp : s.size ≤ 100000000) : ∃ fu, sread_f.run sread_e [] fu [vS s] [] = some ⟨.tup [.agg [gI ((rdN s.data.toList).getD 0 0), gI ((rdN s.data.toList).getD 1 0), gI ((rdN s.data.toList).getD 2 0), gI ((rdW s.data.toList).getD 0 0), gU ((rdW s.data.toList).getD 1 0), gI ((rdN s.data.toList).getD 8 0), gI ((rdN s.data.toList).getD 9 0), gI ((rdN s.data.toList).getD 10 0), gI ((rdN s.data.toList).getD 3 0), .c (.bool (rdX s.data.toList)), gI ((rdN s.data.toList).getD 5 0), gI ((rdN s.data.toList).getD 6 0), gI ((rdN s.data.toList).getD 7 0), .c (.ints .u8 (byI (rdD s.data.toList))), gI ((rdW s.data.toList).getD 2 0), gU ((rdW s.data.toList).getD 3 0), gI ((rdW s.data.toList).getD 4 0), gU ((rdW s.data.toList).getD 5 0), gI ((rdN s.data.toList).getD 11 0), gI ((rdN s.data.toList).getD 12 0), gI ((rdN s.data.toList).getD 13 0)], tB (rdB s.data.toList)], []⟩ := by
  obtain ⟨l, rfl, hl⟩ := tx_get s
  rw [tx_size] at hp
  rw [tx_toList]
  refine ⟨0, ?_⟩
  rw [FnD.run, sread_ent]
  have hws : ∀ w ∈ splitW l, w.length ≤ l.length := fun w hw => by
    have := splitA_len 32 l [] w hw
    rwa [List.length_nil, Nat.zero_add] at this
  have hrs : ∀ r ∈ rowW (splitW l), (rowS r).size ≤ 1000000000 := by
    intro r hr
    unfold rowW at hr
    obtain ⟨w, hw, rfl⟩ := List.mem_map.1 hr
    show (tx w).size ≤ _
    rw [tx_size]
    have := hws w hw; omega
  have eM : (List.map (fun l => [D.s (tx l)]) (splitW l)) = rowW (splitW l) := rfl
  dsimp only
  rw [tx_toList]
  simp only [eM, rowS_rowW, rowW_len]
  have e120 : (tx [(120 : UInt8)]).data.toList = [120] := rfl
  refine condT ⟨trivial, by rw [tx_size]; omega⟩ ?_
  by_cases h18 : (splitW l).length = 18
  case neg =>
    refine condB (by rw [decide_eq_false (by omega)]; rfl) (sread_no ?_)
    unfold rdP; rw [decide_eq_false h18]; rfl
  refine condN (by rw [decide_eq_true (by omega)]; rfl) (condT ⟨by omega, hrs⟩ (condT ⟨by omega, hrs⟩ (condB ((inB_iff _ _).2 (by omega)) ?_)))
  rw [rowW_at (by omega), tx_toList, e120, tx_toList, tx_size]
  have h17 : ((splitW l).getD 17 []).length ≤ l.length := by
    rw [List.getD_eq_getElem?_getD, List.getElem?_eq_getElem (by omega)]
    exact hws _ (List.getElem_mem _)
  have htp : (Lib.trimPrefix ((splitW l).getD 17 []) [120]).length ≤ l.length := by
    unfold Lib.trimPrefix
    split
    · rw [List.length_drop]; omega
    · exact h17
  refine condT (by omega) ?_
  cases g1 : (riP (splitW l)).2 with
  | false => exact condB rfl (sread_no (by unfold rdP; rw [g1]; simp))
  | true =>
  refine condN rfl ?_
  cases g2 : (rwP (splitW l)).2 with
  | false => exact condB rfl (sread_no (by unfold rdP; rw [g2]; simp))
  | true =>
  refine condN rfl ?_
  cases g3 : Lib.hasPrefix ((splitW l).getD 17 []) [120] with
  | false => exact condB rfl (sread_no (by unfold rdP; rw [g3]; simp))
  | true =>
  refine condN rfl ?_
  cases g4 : unB (Lib.trimPrefix ((splitW l).getD 17 []) [120]) with
  | false => exact condB rfl (sread_no (by unfold rdP; rw [g4]; simp))
  | true =>
  refine condN rfl ?_
  have hP : rdP l = true := by unfold rdP; rw [g1, g2, g3, g4, decide_eq_true h18]; rfl
  have hN : rdN l = (riP (splitW l)).1 := by unfold rdN; rw [hP]; rfl
  have hW : rdW l = (rwP (splitW l)).1 := by unfold rdW; rw [hP]; rfl
  have hD : rdD l = unD (Lib.trimPrefix ((splitW l).getD 17 []) [120]) := by unfold rdD; rw [hP]; rfl
  have hX : rdX l = decide ((riP (splitW l)).1.getD 4 0 = 1) := by unfold rdX; rw [hP, hN]; rfl
  have hB : rdB l = decide (lnQ (lxN (rdN l) (rdX l)) (rdW l) (byI (rdD l)) = l ++ [10]) := by unfold rdB; rw [hP]; rfl
  have hf : isH (if decide ((riP (splitW l)).1.getD 4 0 = 1) = true then 1 else 0) := by split <;> (unfold isH; omega)
  refine condT (qOk_rd (splitW l) _ (by omega) _ hf) (condT (by rw [tx_size]; omega) ?_)
  rw [tx_append, eqB_tx, hB, hN, hW, hD, hX]
  rfl
theorem sread_ok (s : ByteArray) (hp : s.size ≤ 100000000) : FnOk cfg 84 ([vS s].map SV.den) (.tup [.agg [gI ((rdN s.data.toList).getD 0 0), gI ((rdN s.data.toList).getD 1 0), gI ((rdN s.data.toList).getD 2 0), gI ((rdW s.data.toList).getD 0 0), gU ((rdW s.data.toList).getD 1 0), gI ((rdN s.data.toList).getD 8 0), gI ((rdN s.data.toList).getD 9 0), gI ((rdN s.data.toList).getD 10 0), gI ((rdN s.data.toList).getD 3 0), .c (.bool (rdX s.data.toList)), gI ((rdN s.data.toList).getD 5 0), gI ((rdN s.data.toList).getD 6 0), gI ((rdN s.data.toList).getD 7 0), .c (.ints .u8 (byI (rdD s.data.toList))), gI ((rdW s.data.toList).getD 2 0), gU ((rdW s.data.toList).getD 3 0), gI ((rdW s.data.toList).getD 4 0), gU ((rdW s.data.toList).getD 5 0), gI ((rdN s.data.toList).getD 11 0), gI ((rdN s.data.toList).getD 12 0), gI ((rdN s.data.toList).getD 13 0)], tB (rdB s.data.toList)] : SV).den := by
  obtain ⟨nn, h⟩ := sread_run s hp
  exact FnD.ok sread_g sread_f mixed Tryz.func84 rfl rfl rfl rfl rfl rfl h
noncomputable def c_sread : SpecF := fun args _ K => match args with
  | [.one (.c (.str s))] => bif decide (s.size ≤ 100000000) then K (.tup [.agg [gI ((rdN s.data.toList).getD 0 0), gI ((rdN s.data.toList).getD 1 0), gI ((rdN s.data.toList).getD 2 0), gI ((rdW s.data.toList).getD 0 0), gU ((rdW s.data.toList).getD 1 0), gI ((rdN s.data.toList).getD 8 0), gI ((rdN s.data.toList).getD 9 0), gI ((rdN s.data.toList).getD 10 0), gI ((rdN s.data.toList).getD 3 0), .c (.bool (rdX s.data.toList)), gI ((rdN s.data.toList).getD 5 0), gI ((rdN s.data.toList).getD 6 0), gI ((rdN s.data.toList).getD 7 0), .c (.ints .u8 (byI (rdD s.data.toList))), gI ((rdW s.data.toList).getD 2 0), gU ((rdW s.data.toList).getD 3 0), gI ((rdW s.data.toList).getD 4 0), gU ((rdW s.data.toList).getD 5 0), gI ((rdN s.data.toList).getD 11 0), gI ((rdN s.data.toList).getD 12 0), gI ((rdN s.data.toList).getD 13 0)], tB (rdB s.data.toList)]) [] else none
  | _ => none
theorem c_sread_ok : SpecOk cfg 84 c_sread := by
  intro args bx K out h
  unfold c_sread at h
  split at h
  · obtain ⟨hp, h⟩ := bif_some h
    exact ⟨_, _, h, .inl (sread_ok _ (of_decide_eq_true hp) _), by simp [isTupS]⟩
  · cases h
/-! ### script.Parse -/
noncomputable def sparse_e : Ev' := ⟨Tryz.prog, glob, Γof [(83, c_scut), (84, c_sread)]⟩
theorem sparse_g : Gd cfg sparse_e := gd (env_cons c_scut_ok (env_cons c_sread_ok (env_nil _)))
noncomputable def sparse_f : FnD := ⟨35, Tryz.f35, shOf [(0, ⟨40, [(5, ⟨.rows [.int .i64, .int .i64, .int .i64, .int .i64, .int .u64, .int .i64, .int .i64, .int .i64, .int .i64, .bool, .int .i64, .int .i64, .int .i64, .ints .u8, .int .i64, .int .u64, .int .i64, .int .u64, .int .i64, .int .i64, .int .i64], false, true⟩)], [], [(0, .c (.str)), (5, .c (.sl 5 21)), (6, .c (.int .i64))]⟩)], Tryz.f35.resultTypes.toList, 0⟩
theorem sparse_ent (h : Hd) (s : ByteArray) : sparse_f.ent sparse_e [] h [vS s] [] = h (0 : Nat) [Lf.r [], Lf.b true, Lf.s s, Lf.i (1 : Int)] := by kernel_rfl
theorem sparse_l0 (h : Hd) (r0 : List (List D)) (b1 : Bool) (s2 : ByteArray) (i3 : Int) : sparse_f.seg sparse_e [] h 0 [.r r0, .b b1, .s s2, .i i3] = let v1 : Int := Lib.indexByte s2.data.toList ((tx [10]).data.toList.getD (0 : Nat) (0 : UInt8)); let v2 : Nat := v1.toNat; let v3 : ByteArray := if (0 : Int) ≤ v1 then tx (List.take v2 s2.data.toList) else s2; let v4 : Nat := v3.size; let v5 : List UInt8 := v3.data.toList; let v6 : List (List D) := List.take r0.length r0 ++ [[D.i ((rdN v5).getD (0 : Nat) (0 : Int)), D.i ((rdN v5).getD (1 : Nat) (0 : Int)), D.i ((rdN v5).getD (2 : Nat) (0 : Int)), D.i ((rdW v5).getD (0 : Nat) (0 : Int)), D.i ((rdW v5).getD (1 : Nat) (0 : Int)), D.i ((rdN v5).getD (8 : Nat) (0 : Int)), D.i ((rdN v5).getD (9 : Nat) (0 : Int)), D.i ((rdN v5).getD (10 : Nat) (0 : Int)), D.i ((rdN v5).getD (3 : Nat) (0 : Int)), D.b (rdX v5), D.i ((rdN v5).getD (5 : Nat) (0 : Int)), D.i ((rdN v5).getD (6 : Nat) (0 : Int)), D.i ((rdN v5).getD (7 : Nat) (0 : Int)), D.l (byI (rdD v5)), D.i ((rdW v5).getD (2 : Nat) (0 : Int)), D.i ((rdW v5).getD (3 : Nat) (0 : Int)), D.i ((rdW v5).getD (4 : Nat) (0 : Int)), D.i ((rdW v5).getD (5 : Nat) (0 : Int)), D.i ((rdN v5).getD (11 : Nat) (0 : Int)), D.i ((rdN v5).getD (12 : Nat) (0 : Int)), D.i ((rdN v5).getD (13 : Nat) (0 : Int))]]; let v7 : Nat := v6.length; bif !eqB s2 (tx []) then bif decide ((1 : Nat) = (1 : Nat) ∧ s2.size ≤ (9223372036854775807 : Nat)) then bif decide (v4 ≤ (100000000 : Nat)) then bif !rdB v5 then ret (SV.tup [S1.c (Cl.rows [Kd.int IntKind.i64, Kd.int IntKind.i64, Kd.int IntKind.i64, Kd.int IntKind.i64, Kd.int IntKind.u64, Kd.int IntKind.i64, Kd.int IntKind.i64, Kd.int IntKind.i64, Kd.int IntKind.i64, Kd.bool, Kd.int IntKind.i64, Kd.int IntKind.i64, Kd.int IntKind.i64, Kd.ints IntKind.u8, Kd.int IntKind.i64, Kd.int IntKind.u64, Kd.int IntKind.i64, Kd.int IntKind.u64, Kd.int IntKind.i64, Kd.int IntKind.i64, Kd.int IntKind.i64] []), tI i3, tI (14 : Int)]) else bif !decide ((0 : Int) ≤ v1) then ret (SV.tup [S1.c (Cl.rows [Kd.int IntKind.i64, Kd.int IntKind.i64, Kd.int IntKind.i64, Kd.int IntKind.i64, Kd.int IntKind.u64, Kd.int IntKind.i64, Kd.int IntKind.i64, Kd.int IntKind.i64, Kd.int IntKind.i64, Kd.bool, Kd.int IntKind.i64, Kd.int IntKind.i64, Kd.int IntKind.i64, Kd.ints IntKind.u8, Kd.int IntKind.i64, Kd.int IntKind.u64, Kd.int IntKind.i64, Kd.int IntKind.u64, Kd.int IntKind.i64, Kd.int IntKind.i64, Kd.int IntKind.i64] []), tI i3, tI (14 : Int)]) else bif b1 == b1 && true && decide (r0.length ≤ r0.length) && roomB (r0.length + (1 : Nat)) (184 : Nat) then bif nlAfter b1 (1 : Nat) == nlAfter b1 (1 : Nat) && decide (r0.length + (1 : Nat) = v7) then h (0 : Nat) [Lf.r v6, Lf.b (nlAfter b1 (1 : Nat)), Lf.s (if (0 : Int) ≤ v1 then tx (List.drop (v2 + (1 : Nat)) s2.data.toList) else tx []), Lf.i (IntKind.i64.wrap (i3 + (1 : Int)))] else none else none else none else none else bif b1 == b1 && decide (r0.length ≤ r0.length) && true then ret (SV.tup [S1.c (Cl.rows [Kd.int IntKind.i64, Kd.int IntKind.i64, Kd.int IntKind.i64, Kd.int IntKind.i64, Kd.int IntKind.u64, Kd.int IntKind.i64, Kd.int IntKind.i64, Kd.int IntKind.i64, Kd.int IntKind.i64, Kd.bool, Kd.int IntKind.i64, Kd.int IntKind.i64, Kd.int IntKind.i64, Kd.ints IntKind.u8, Kd.int IntKind.i64, Kd.int IntKind.u64, Kd.int IntKind.i64, Kd.int IntKind.u64, Kd.int IntKind.i64, Kd.int IntKind.i64, Kd.int IntKind.i64] (List.take r0.length r0)), tI (0 : Int), tI (0 : Int)]) else none := by kernel_rfl

theorem psR {o o' : List (List D)} {n n' m : Int} (h1 : o = o') (h2 : n = n') (h3 : m = if n' = 0 then 0 else 14) : (ret (.tup [.c (.rows [.int .i64, .int .i64, .int .i64, .int .i64, .int .u64, .int .i64, .int .i64, .int .i64, .int .i64, .bool, .int .i64, .int .i64, .int .i64, .ints .u8, .int .i64, .int .u64, .int .i64, .int .u64, .int .i64, .int .i64, .int .i64] o), .c (.int .i64 n), .c (.int .i64 m)]) : Option Out) = some ⟨.tup [.c (.rows [.int .i64, .int .i64, .int .i64, .int .i64, .int .u64, .int .i64, .int .i64, .int .i64, .int .i64, .bool, .int .i64, .int .i64, .int .i64, .ints .u8, .int .i64, .int .u64, .int .i64, .int .u64, .int .i64, .int .i64, .int .i64] o'), tI n', tI (if n' = 0 then 0 else 14)], []⟩ := by rw [h1, h2, h3]
theorem drop_lt (t : List UInt8) (h : t ≠ []) : ((t.dropWhile (· ≠ 10)).drop 1).length < t.length := by
  have h1 : (t.dropWhile (· ≠ 10)).length ≤ t.length := by
    have := congrArg List.length (List.takeWhile_append_dropWhile (p := fun x : UInt8 => decide (x ≠ 10)) (l := t))
    rw [List.length_append] at this; omega
  have h2 : 0 < t.length := List.length_pos_iff.2 h
  rw [List.length_drop]
  omega
theorem sparse_loop : ∀ (k : Nat) (t : List UInt8) (n : Nat) (out : List (List D)) (b : Bool), t.length < k → t.length + n ≤ 100000001 → 1 ≤ n → out.length + 1 = n →
    sparse_f.H sparse_e [] k 0 [.r out, .b b, .s (tx t), .i (n : Nat)] = some ⟨.tup [.c (.rows [.int .i64, .int .i64, .int .i64, .int .i64, .int .u64, .int .i64, .int .i64, .int .i64, .int .i64, .bool, .int .i64, .int .i64, .int .i64, .ints .u8, .int .i64, .int .u64, .int .i64, .int .u64, .int .i64, .int .i64, .int .i64] (psGo k t n out).1), tI (psGo k t n out).2, tI (if (psGo k t n out).2 = 0 then 0 else 14)], []⟩ := by
  intro k
  induction k with
  | zero => intro t n out b h; omega
  | succ k ih =>
    intro t n out b hk hn h1 ho
    rw [FnD.H_succ, sparse_l0]
    dsimp only
    rw [eqB_tx, tx_toList, tx_size, show (tx [(10 : UInt8)]).data.toList.getD 0 0 = 10 from rfl]
    unfold psGo
    by_cases h0 : t = []
    · rw [if_pos h0]
      refine condN (by rw [decide_eq_true h0]; rfl) (condB (by simp) (psR (List.take_length ..) rfl rfl))
    rw [if_neg h0]
    refine condB (by rw [decide_eq_false h0]; rfl) (condT ⟨rfl, by omega⟩ ?_)
    have htw : (t.takeWhile (· ≠ 10)).length ≤ t.length := by
      have := congrArg List.length (List.takeWhile_append_dropWhile (p := fun x : UInt8 => decide (x ≠ 10)) (l := t))
      rw [List.length_append] at this; omega
    have nz : ¬ ((n : Nat) : Int) = 0 := by omega
    by_cases hm : (10 : UInt8) ∈ t
    · obtain ⟨c1, c2, c3⟩ := cut_in hm
      rw [c1, if_pos (by omega), if_pos (by omega), Int.toNat_natCast, c2, c3, tx_size, tx_toList]
      refine condT (by omega) ?_
      have e : (rdB (t.takeWhile (· ≠ 10)) && decide ((10 : UInt8) ∈ t)) = rdB (t.takeWhile (· ≠ 10)) := by rw [decide_eq_true hm, Bool.and_true]
      rw [e]
      cases hb : rdB (t.takeWhile (· ≠ 10)) with
      | false =>
        exact condB rfl (psR rfl rfl (by rw [cond_false, if_neg nz]))
      | true =>
        rw [cond_true]
        refine condN rfl (condN (by rw [decide_eq_true (by omega)]; rfl) ?_)
        refine (push_rowsN (z := 184) (room_of (by omega) (by omega))).trans ?_
        rw [List.take_length, show IntKind.i64.wrap ((n : Int) + 1) = ((n + 1 : Nat) : Int) by rw [IntWalk.i64_in _ (by omega)]; omega]
        have hd := drop_lt t h0
        exact ih _ (n + 1) (out ++ [rdR (t.takeWhile (· ≠ 10))]) (nlAfter b 1) (by omega) (by omega) (by omega) (by rw [List.length_append]; simp; omega)
    · obtain ⟨c1, c2⟩ := cut_out hm
      have e : (rdB (t.takeWhile (· ≠ 10)) && decide ((10 : UInt8) ∈ t)) = false := by rw [decide_eq_false hm, Bool.and_false]
      rw [c1, if_neg (by omega), tx_size, tx_toList, e]
      refine condT (by omega) ?_
      cases hb : rdB t with
      | false => exact condB rfl (psR rfl rfl (by rw [cond_false, if_neg nz]))
      | true => exact condN rfl (condB rfl (psR rfl rfl (by rw [cond_false, if_neg nz])))
theorem sparse_run (s : ByteArray) (hp : s.size ≤ 100000000) : ∃ fu, sparse_f.run sparse_e [] fu [vS s] [] = some ⟨.tup [.c (.rows [.int .i64, .int .i64, .int .i64, .int .i64, .int .u64, .int .i64, .int .i64, .int .i64, .int .i64, .bool, .int .i64, .int .i64, .int .i64, .ints .u8, .int .i64, .int .u64, .int .i64, .int .u64, .int .i64, .int .i64, .int .i64] (psP s.data.toList).1), tI (psP s.data.toList).2, tI (if (psP s.data.toList).2 = 0 then 0 else 14)], []⟩ := by
  obtain ⟨l, rfl, hl⟩ := tx_get s
  rw [tx_size] at hp
  rw [tx_toList]
  refine ⟨l.length + 1, ?_⟩
  rw [FnD.run, sparse_ent]
  exact sparse_loop (l.length + 1) l 1 [] true (by omega) (by omega) (by omega) rfl
theorem sparse_ok (s : ByteArray) (hp : s.size ≤ 100000000) : FnOk cfg 35 ([vS s].map SV.den) (.tup [.c (.rows [.int .i64, .int .i64, .int .i64, .int .i64, .int .u64, .int .i64, .int .i64, .int .i64, .int .i64, .bool, .int .i64, .int .i64, .int .i64, .ints .u8, .int .i64, .int .u64, .int .i64, .int .u64, .int .i64, .int .i64, .int .i64] (psP s.data.toList).1), tI (psP s.data.toList).2, tI (if (psP s.data.toList).2 = 0 then 0 else 14)] : SV).den := by
  obtain ⟨nn, h⟩ := sparse_run s hp
  exact FnD.ok sparse_g sparse_f mixed Tryz.func35 rfl rfl rfl rfl rfl rfl h
noncomputable def c_sparse : SpecF := fun args _ K => match args with
  | [.one (.c (.str s))] => bif decide (s.size ≤ 100000000) then K (.tup [.c (.rows [.int .i64, .int .i64, .int .i64, .int .i64, .int .u64, .int .i64, .int .i64, .int .i64, .int .i64, .bool, .int .i64, .int .i64, .int .i64, .ints .u8, .int .i64, .int .u64, .int .i64, .int .u64, .int .i64, .int .i64, .int .i64] (psP s.data.toList).1), tI (psP s.data.toList).2, tI (if (psP s.data.toList).2 = 0 then 0 else 14)]) [] else none
  | _ => none
theorem c_sparse_ok : SpecOk cfg 35 c_sparse := by
  intro args bx K out h
  unfold c_sparse at h
  split at h
  · obtain ⟨hp, h⟩ := bif_some h
    exact ⟨_, _, h, .inl (sparse_ok _ (of_decide_eq_true hp) _), by simp [isTupS]⟩
  · cases h
end Go.Proofs.YtldofkogmkfpjaaGreatDoor
