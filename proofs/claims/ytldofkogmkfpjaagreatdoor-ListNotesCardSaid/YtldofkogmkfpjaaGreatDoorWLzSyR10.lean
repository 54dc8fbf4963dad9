/-
  The document's answer for layer 11: Print.
-/
import Derived.Test.YtldofkogmkfpjaaGreatDoorWLzSyR09
import Derived.Test.YtldofkogmkfpjaaGreatDoorWLzSyList7
import Derived.Test.YtldofkogmkfpjaaGreatDoorWPHex
namespace Go.Proofs.YtldofkogmkfpjaaGreatDoor
open Go Go.Ev Go.Sy
set_option linter.unusedSimpArgs false
set_option linter.unusedVariables false
set_option maxRecDepth 10000
set_option maxHeartbeats 4000000
open Go.Sy.Sh
/-! ### epactref10.Print -/
noncomputable def rpnt_e : Ev' := ⟨Tryz.prog, glob, Γof [(79, c_ndec), (29, c_rdgs), (80, c_rw9)]⟩
theorem rpnt_g : Gd cfg rpnt_e := gd (env_cons c_ndec_ok (env_cons c_rdgs_ok (env_cons c_rw9_ok (env_nil _))))
noncomputable def rpnt_f : FnD := ⟨30, Tryz.f30, shOf [(0, ⟨76, [], [(1, [.c (.int .i64), .c (.int .i64), .c (.rows [.int .i64, .int .i64])])], [(1, .c (.ptr 1 0)), (3, .c (.str)), (4, .c (.int .i64))]⟩), (1, ⟨76, [], [(5, [.arr .i64 5])], [(3, .c (.str)), (5, .c (.ptr 5 0)), (6, .c (.int .i64))]⟩), (2, ⟨76, [], [(5, [.arr .i64 5])], [(3, .c (.str)), (5, .c (.ptr 5 0)), (6, .c (.int .i64)), (7, .c (.int .i64))]⟩)], Tryz.f30.resultTypes.toList, 0⟩
theorem rpnt_ent (h : Hd) (u : Int) (x : Int) (L : List (List D)) : rpnt_f.ent rpnt_e [] h [agg [.c (.int .i64 u), .c (.int .i64 x), .c (.rows [.int .i64, .int .i64] L)]] [] = let v1 : ByteArray := (tx [(35 : UInt8), (36 : UInt8), (9 : UInt8)]) ++ tx (Lib.decDigits u.toNat); let v2 : Nat := v1.size + (4 : Nat); let v3 : ByteArray := v1 ++ (tx [(10 : UInt8), (35 : UInt8), (64 : UInt8), (9 : UInt8)]); let v4 : Nat := v3.size + (tx (Lib.decDigits x.toNat)).size; let v5 : ByteArray := v3 ++ tx (Lib.decDigits x.toNat); let v6 : Nat := v5.size + (1 : Nat); bif decide ((0 : Int) ≤ u ∧ u < (9223372036854775808 : Int)) then bif decide ((3 : Nat) + (tx (Lib.decDigits u.toNat)).size ≤ (9223372036854775807 : Nat)) then bif decide (v2 ≤ (9223372036854775807 : Nat)) then bif decide ((0 : Int) ≤ x ∧ x < (9223372036854775808 : Int)) then bif decide (v4 ≤ (9223372036854775807 : Nat)) then bif decide (v6 ≤ (9223372036854775807 : Nat)) then h (0 : Nat) [Lf.i u, Lf.i x, Lf.r L, Lf.s (v5 ++ (tx [(10 : UInt8)])), Lf.i (0 : Int)] else none else none else none else none else none else none := by kernel_rfl
theorem rpnt_l0 (h : Hd) (i0 : Int) (i1 : Int) (r2 : List (List D)) (s3 : ByteArray) (i4 : Int) : rpnt_f.seg rpnt_e [] h 0 [.i i0, .i i1, .r r2, .s s3, .i i4] = let v1 : ByteArray := tx (Lib.decDigits ((r2.getD i4.toNat []).getD (0 : Nat) (D.i (0 : Int))).toI.toNat); let v2 : Nat := s3.size + v1.size; let v3 : ByteArray := s3 ++ v1; let v4 : Nat := v3.size + (1 : Nat); let v5 : ByteArray := v3 ++ (tx [(9 : UInt8)]); let v6 : ByteArray := tx (Lib.decDigits ((r2.getD i4.toNat []).getD (1 : Nat) (D.i (0 : Int))).toI.toNat); let v7 : Nat := v5.size + v6.size; let v8 : ByteArray := v5 ++ v6; let v9 : Nat := v8.size + (1 : Nat); bif decide (i4 < (↑r2.length : Int)) then bif inB i4 r2.length then bif decide ((0 : Int) ≤ ((r2.getD i4.toNat []).getD (0 : Nat) (D.i (0 : Int))).toI ∧ ((r2.getD i4.toNat []).getD (0 : Nat) (D.i (0 : Int))).toI < (9223372036854775808 : Int)) then bif decide (v2 ≤ (9223372036854775807 : Nat)) then bif decide (v4 ≤ (9223372036854775807 : Nat)) then bif inB i4 r2.length then bif decide ((0 : Int) ≤ ((r2.getD i4.toNat []).getD (1 : Nat) (D.i (0 : Int))).toI ∧ ((r2.getD i4.toNat []).getD (1 : Nat) (D.i (0 : Int))).toI < (9223372036854775808 : Int)) then bif decide (v7 ≤ (9223372036854775807 : Nat)) then bif decide (v9 ≤ (9223372036854775807 : Nat)) then h (0 : Nat) [Lf.i i0, Lf.i i1, Lf.r r2, Lf.s (v8 ++ (tx [(10 : UInt8)])), Lf.i (IntKind.i64.wrap (i4 + (1 : Int)))] else none else none else none else none else none else none else none else none else bif decide (((0 : Int) ≤ i0 ∧ i0 < (9223372036854775808 : Int)) ∧ ((0 : Int) ≤ i1 ∧ i1 < (9223372036854775808 : Int)) ∧ goodTo r2 r2.length) then bif decide ((tx (dgL i0 i1 r2)).size ≤ (bytesI (tx (dgL i0 i1 r2))).length) && true then bif decide (bytesOk (List.take (tx (dgL i0 i1 r2)).size (bytesI (tx (dgL i0 i1 r2)))) ∧ (List.take (tx (dgL i0 i1 r2)).size (bytesI (tx (dgL i0 i1 r2)))).length ≤ (1000000 : Nat)) then bif decide (s3.size + (2 : Nat) ≤ (9223372036854775807 : Nat)) then h (1 : Nat) [Lf.l (castL (wordsN (natL (List.take (tx (dgL i0 i1 r2)).size (bytesI (tx (dgL i0 i1 r2))))))), Lf.s (s3 ++ (tx [(35 : UInt8), (104 : UInt8)])), Lf.i (0 : Int)] else none else none else none else none := by kernel_rfl
theorem rpnt_l1 (h : Hd) (l0 : List Int) (s1 : ByteArray) (i2 : Int) : rpnt_f.seg rpnt_e [] h 1 [.l l0, .s s1, .i i2] = bif decide (i2 < (5 : Int)) then bif decide (s1.size + (1 : Nat) ≤ (9223372036854775807 : Nat)) then h (2 : Nat) [Lf.l l0, Lf.s (s1 ++ (tx [(9 : UInt8)])), Lf.i i2, Lf.i (28 : Int)] else none else bif decide (s1.size + (1 : Nat) ≤ (9223372036854775807 : Nat)) then ret (vS (s1 ++ (tx [(10 : UInt8)]))) else none := by kernel_rfl
theorem rpnt_l2 (h : Hd) (l0 : List Int) (s1 : ByteArray) (i2 : Int) (i3 : Int) : rpnt_f.seg rpnt_e [] h 2 [.l l0, .s s1, .i i2, .i i3] = let v1 : Int := IntKind.i64.wrap (andI IntKind.i64 (shrI IntKind.i64 (l0.getD i2.toNat (0 : Int)) (IntKind.u64.wrap i3)) (15 : Int) + (1 : Int)); let v2 : ByteArray := (tx [(48 : UInt8), (49 : UInt8), (50 : UInt8), (51 : UInt8), (52 : UInt8), (53 : UInt8), (54 : UInt8), (55 : UInt8), (56 : UInt8), (57 : UInt8), (97 : UInt8), (98 : UInt8), (99 : UInt8), (100 : UInt8), (101 : UInt8), (102 : UInt8)]).extract (andI IntKind.i64 (shrI IntKind.i64 (l0.getD i2.toNat (0 : Int)) (IntKind.u64.wrap i3)) (15 : Int)).toNat v1.toNat; let v3 : Nat := s1.size + v2.size; bif decide ((0 : Int) ≤ i3) then bif inB i2 (5 : Nat) then bif decide (i2.toNat < (5 : Nat)) then bif decide ((0 : Int) ≤ IntKind.u64.wrap i3) then bif slB (andI IntKind.i64 (shrI IntKind.i64 (l0.getD i2.toNat (0 : Int)) (IntKind.u64.wrap i3)) (15 : Int)) v1 (16 : Nat) then bif decide (v3 ≤ (9223372036854775807 : Nat)) then h (2 : Nat) [Lf.l l0, Lf.s (s1 ++ v2), Lf.i i2, Lf.i (IntKind.i64.wrap (i3 - (4 : Int)))] else none else none else none else none else none else h (1 : Nat) [Lf.l l0, Lf.s s1, Lf.i (IntKind.i64.wrap (i2 + (1 : Int)))] := by kernel_rfl

theorem hex_cut : ∀ d < 16, ([48, 49, 50, 51, 52, 53, 54, 55, 56, 57, 97, 98, 99, 100, 101, 102].drop d).take (d + 1 - d) = [hexc d] := by decide
theorem hex8_take {w j : Nat} (hj : j < 8) : (hex8 w).take (j + 1) = (hex8 w).take j ++ [hexc (w / 16 ^ (7 - j) % 16)] := by
  rw [List.take_succ_eq_append_getElem (by rw [hex8_len]; exact hj)]
  simp [hex8]
def rpR (u x : Int) (L : List (List D)) (j : Nat) (ls : List Lf) : Prop := ∃ k, rpnt_f.H rpnt_e [] k j ls = some ⟨vS (tx (prnL u x L)), []⟩
theorem rp_digits (u x : Int) (L : List (List D)) (W : List Nat) (i : Nat) (hi : i < 5) (hw : nthN W i < 4294967296) (T : List UInt8) (hT : T.length ≤ 100000)
    (nx : rpR u x L 1 [.l (castL W), .s (tx (T ++ hex8 (nthN W i))), .i ((i + 1 : Nat) : Int)]) : ∀ d j, j ≤ 8 → 8 - j = d →
    rpR u x L 2 [.l (castL W), .s (tx (T ++ (hex8 (nthN W i)).take j)), .i (i : Int), .i (28 - 4 * (j : Int))] := by
  intro d
  induction d with
  | zero =>
    intro j hj hd
    obtain rfl : j = 8 := by omega
    obtain ⟨k, hk⟩ := nx
    refine ⟨k + 1, ?_⟩
    rw [FnD.H_succ, rpnt_l2]
    dsimp only
    rw [show IntKind.i64.wrap ((i : Int) + 1) = ((i + 1 : Nat) : Int) by rw [IntWalk.i64_in _ (by omega)]; omega]
    refine condF (by decide) ?_
    rw [List.take_of_length_le (by rw [hex8_len]; exact Nat.le_refl _)]
    exact hk
  | succ d ih =>
    intro j hj hd
    obtain ⟨k, hk⟩ := ih (j + 1) (by omega) (by omega)
    refine ⟨k + 1, ?_⟩
    rw [FnD.H_succ, rpnt_l2]
    dsimp only
    have hj8 : j < 8 := by omega
    have e1 : (28 : Int) - 4 * (j : Int) = ((4 * (7 - j) : Nat) : Int) := by omega
    have e2 : IntKind.u64.wrap ((4 * (7 - j) : Nat) : Int) = ((4 * (7 - j) : Nat) : Int) := by rw [wrap_u64, Nat.mod_eq_of_lt (by omega)]
    have e3 : IntKind.i64.wrap (((4 * (7 - j) : Nat) : Int) - 4) = 28 - 4 * ((j + 1 : Nat) : Int) := by rw [IntWalk.i64_in _ (by omega)]; omega
    have hq : nthN W i / 2 ^ (4 * (7 - j)) ≤ nthN W i := Nat.div_le_self _ _
    have e4 : andI .i64 (shrI .i64 ((nthN W i : Nat) : Int) ((4 * (7 - j) : Nat) : Int)) 15 = ((nthN W i / 16 ^ (7 - j) % 16 : Nat) : Int) := by
      rw [shrI_u .i64 _ _ (by show 4 * (7 - j) ≤ 64; omega)]
      have := andI_i (a := nthN W i / 2 ^ (4 * (7 - j))) (b := 15) (by omega) (by decide)
      rw [show (15 : Int) = ((15 : Nat) : Int) from rfl, this, show (15 : Nat) = 2 ^ 4 - 1 from rfl, Nat.and_two_pow_sub_one_eq_mod, Nat.pow_mul]
    have hd16 : nthN W i / 16 ^ (7 - j) % 16 < 16 := Nat.mod_lt _ (by decide)
    have e5 : IntKind.i64.wrap (((nthN W i / 16 ^ (7 - j) % 16 : Nat) : Int) + 1) = ((nthN W i / 16 ^ (7 - j) % 16 + 1 : Nat) : Int) := by rw [IntWalk.i64_in _ (by omega)]; omega
    rw [hex8_take hj8, ← List.append_assoc] at hk
    rw [Int.toNat_natCast, nth_castL, e1, e2, e3, e4, e5, Int.toNat_natCast, Int.toNat_natCast, tx_extract, hex_cut _ hd16, tx_append]
    refine condT (by omega) (condB ((inB_iff _ _).2 (by omega)) (condT hi (condT (by omega) (condB ?_ (condT ?_ hk)))))
    · unfold slB; simp; omega
    · rw [tx_size, tx_size, List.length_append, List.length_take, hex8_len]; simp; omega
theorem rp_words (u x : Int) (L : List (List D)) (W : List Nat) (h5 : W.length = 5) (hW : ∀ x ∈ W, x < 4294967296) (A : List UInt8) (hA : A.length ≤ 50000) (hout : A ++ (lnH W ++ [10]) = prnL u x L) : ∀ d i, i ≤ 5 → 5 - i = d →
    rpR u x L 1 [.l (castL W), .s (tx (A ++ lnH (W.take i))), .i (i : Int)] := by
  intro d
  have hH : ∀ i, (lnH (W.take i)).length ≤ 47 := fun i => by rw [lnH_len, List.length_take]; omega
  induction d with
  | zero =>
    intro i hi hd
    obtain rfl : i = 5 := by omega
    refine ⟨1, ?_⟩
    rw [FnD.H_succ, rpnt_l1]
    have h5' := hH 5
    rw [List.take_of_length_le (by omega)] at h5' ⊢
    refine condF (by decide) (condT (by rw [tx_size, List.length_append]; omega) ?_)
    rw [tx_append, ← hout, List.append_assoc]
  | succ d ih =>
    intro i hi hd
    have hi5 : i < 5 := by omega
    have hHi := hH i
    have nx := ih (i + 1) (by omega) (by omega)
    have el : lnH (W.take (i + 1)) = lnH (W.take i) ++ 9 :: hex8 (nthN W i) := by
      unfold lnH
      rw [List.take_succ_eq_append_getElem (by omega), List.flatMap_append, nthN_lt (by omega)]
      simp
    rw [el] at nx
    obtain ⟨k, hk⟩ := rp_digits u x L W i hi5 (nthN_32 hW i) (A ++ lnH (W.take i) ++ [9]) (by rw [List.length_append, List.length_append]; simp; omega) (by simpa using nx) 8 0 (by decide) rfl
    refine ⟨k + 1, ?_⟩
    rw [FnD.H_succ, rpnt_l1]
    rw [tx_append]
    rw [List.take_zero, List.append_nil] at hk
    exact condT (by omega) (condT (by rw [tx_size, List.length_append]; omega) hk)
theorem rp_entries {u x : Int} {L : List (List D)} (h : (chkP u x L).2 = 0) : ∀ d i, i ≤ L.length → L.length - i = d →
    rpR u x L 0 [.i u, .i x, .r L, .s (tx (joinL ((fileL u x L (wordsN (bytN (dgL u x L)))).take (i + 2)))), .i (i : Int)] := by
  obtain ⟨hL, hu, hx, hg⟩ := chkP_ok h
  have h64 := goodTo_len hg (Nat.le_refl _)
  have hsz := file_size (w := wordsN (bytN (dgL u x L))) h (wordsN_len _)
  have hdl := dgL_len h
  intro d
  induction d with
  | zero =>
    intro i hi hd
    obtain rfl : i = L.length := by omega
    have hA := joinL_le (fileL u x L (wordsN (bytN (dgL u x L)))) (L.length + 2)
    obtain ⟨k, hk⟩ := rp_words u x L (wordsN (bytN (dgL u x L))) (wordsN_len _) (wordsN_lt _) (joinL ((fileL u x L (wordsN (bytN (dgL u x L)))).take (L.length + 2))) (by omega) file_all 5 0 (by decide) rfl
    refine ⟨k + 1, ?_⟩
    rw [FnD.H_succ, rpnt_l0]
    dsimp only
    have e : List.take (tx (dgL u x L)).size (bytesI (tx (dgL u x L))) = castL (bytN (dgL u x L)) := by
      rw [bytesI_tx, tx_size, List.take_of_length_le (by rw [castL_length, bytN_len]; exact Nat.le_refl _)]
    rw [e, natL_castL, tx_append]
    refine condF (by omega) (condT ⟨by omega, by omega, hg⟩ (condB ?_ (condT ⟨castB (bytN_lt _), by rw [castL_length, bytN_len]; omega⟩ (condT ?_ hk))))
    · rw [bytesI_tx, castL_length, bytN_len, tx_size]; simp
    · rw [tx_size]; omega
  | succ d ih =>
    intro i hi hd
    have g : i < L.length := by omega
    obtain ⟨k, hk⟩ := ih (i + 1) (by omega) (by omega)
    refine ⟨k + 1, ?_⟩
    rw [FnD.H_succ, rpnt_l0]
    dsimp only
    have hT := joinL_le (fileL u x L (wordsN (bytN (dgL u x L)))) (i + 2)
    have hb := behP_len (hg i g)
    have ea : (0 : Int) ≤ atR (L.getD i []) ∧ atR (L.getD i []) < 9223372036854775808 := by omega
    have eo : (0 : Int) ≤ ofR (L.getD i []) ∧ ofR (L.getD i []) < 9223372036854775808 := by omega
    have la := dec_len41 ea
    have lo := dec_len41 eo
    rw [Int.toNat_natCast, show IntKind.i64.wrap ((i : Int) + 1) = ((i + 1 : Nat) : Int) by rw [IntWalk.i64_in _ (by omega)]; omega]
    show (bif decide ((i : Int) < (L.length : Int)) then bif inB (i : Int) L.length then bif decide (0 ≤ atR (L.getD i []) ∧ atR (L.getD i []) < 9223372036854775808) then
      bif decide ((tx (joinL ((fileL u x L (wordsN (bytN (dgL u x L)))).take (i + 2)))).size + (tx (Lib.decDigits (atR (L.getD i [])).toNat)).size ≤ 9223372036854775807) then
      bif decide ((tx (joinL ((fileL u x L (wordsN (bytN (dgL u x L)))).take (i + 2))) ++ tx (Lib.decDigits (atR (L.getD i [])).toNat)).size + 1 ≤ 9223372036854775807) then
      bif inB (i : Int) L.length then bif decide (0 ≤ ofR (L.getD i []) ∧ ofR (L.getD i []) < 9223372036854775808) then
      bif decide ((tx (joinL ((fileL u x L (wordsN (bytN (dgL u x L)))).take (i + 2))) ++ tx (Lib.decDigits (atR (L.getD i [])).toNat) ++ tx [9]).size + (tx (Lib.decDigits (ofR (L.getD i [])).toNat)).size ≤ 9223372036854775807) then
      bif decide ((tx (joinL ((fileL u x L (wordsN (bytN (dgL u x L)))).take (i + 2))) ++ tx (Lib.decDigits (atR (L.getD i [])).toNat) ++ tx [9] ++ tx (Lib.decDigits (ofR (L.getD i [])).toNat)).size + 1 ≤ 9223372036854775807) then
      rpnt_f.H rpnt_e [] k 0 [.i u, .i x, .r L, .s (tx (joinL ((fileL u x L (wordsN (bytN (dgL u x L)))).take (i + 2))) ++ tx (Lib.decDigits (atR (L.getD i [])).toNat) ++ tx [9] ++ tx (Lib.decDigits (ofR (L.getD i [])).toNat) ++ tx [10]), .i ((i + 1 : Nat) : Int)]
      else none else none else none else none else none else none else none else none else _) = _
    rw [tx_append, tx_append, tx_append, tx_append]
    rw [show i + 1 + 2 = i + 3 by omega, file_take g, lnE, itoa_pos ea.1, itoa_pos eo.1] at hk
    refine condT (by omega) (condB ((inB_iff _ _).2 (by omega)) (condT ea (condT ?_ (condT ?_ (condB ((inB_iff _ _).2 (by omega)) (condT eo (condT ?_ (condT ?_ ?_))))))))
    · rw [tx_size, tx_size]; omega
    · rw [tx_size, List.length_append]; omega
    · simp only [tx_size, List.length_append, List.length_cons, List.length_nil]; omega
    · simp only [tx_size, List.length_append, List.length_cons, List.length_nil]; omega
    · simpa using hk
theorem rpnt_run (u : Int) (x : Int) (L : List (List D)) (hp : (chkP u x L).2 = 0) : ∃ fu, rpnt_f.run rpnt_e [] fu [agg [.c (.int .i64 u), .c (.int .i64 x), .c (.rows [.int .i64, .int .i64] L)]] [] = some ⟨vS (tx (prnL u x L)), []⟩ := by
  obtain ⟨hL, hu, hx, hg⟩ := chkP_ok hp
  have l1 := dec_len41 (v := u) (by omega)
  have l2 := dec_len41 (v := x) (by omega)
  obtain ⟨k, hk⟩ := rp_entries hp _ 0 (Nat.zero_le _) rfl
  have et : joinL ((fileL u x L (wordsN (bytN (dgL u x L)))).take (0 + 2)) = [35, 36, 9] ++ Lib.decDigits u.toNat ++ [10, 35, 64, 9] ++ Lib.decDigits x.toNat ++ [10] := by
    show joinL [lnU u, lnX x] = _
    unfold joinL lnU lnX
    rw [itoa_pos hu.1, itoa_pos hx.1]
    simp
  rw [et] at hk
  refine ⟨k, ?_⟩
  rw [FnD.run, rpnt_ent]
  dsimp only
  rw [tx_append, tx_append, tx_append, tx_append]
  simp only [tx_size, List.length_append, List.length_cons, List.length_nil]
  exact condT (by omega) (condT (by omega) (condT (by omega) (condT (by omega) (condT (by omega) (condT (by omega) hk)))))
theorem rpnt_ok (u : Int) (x : Int) (L : List (List D)) (hp : (chkP u x L).2 = 0) : FnOk cfg 30 ([agg [.c (.int .i64 u), .c (.int .i64 x), .c (.rows [.int .i64, .int .i64] L)]].map SV.den) (vS (tx (prnL u x L)) : SV).den := by
  obtain ⟨nn, h⟩ := rpnt_run u x L hp
  exact FnD.ok rpnt_g rpnt_f mixed Tryz.func30 rfl rfl rfl rfl rfl rfl h
noncomputable def c_rpnt : SpecF := fun args _ K => match args with
  | [.one (.agg [.c (.int .i64 u), .c (.int .i64 x), .c (.rows [.int .i64, .int .i64] L)])] => bif decide ((chkP u x L).2 = 0) then K (vS (tx (prnL u x L))) [] else none
  | _ => none
theorem c_rpnt_ok : SpecOk cfg 30 c_rpnt := by
  intro args bx K out h
  unfold c_rpnt at h
  split at h
  · obtain ⟨hp, h⟩ := bif_some h
    exact ⟨_, _, h, .inl (rpnt_ok _ _ _ (of_decide_eq_true hp) _), by simp [isTupS]⟩
  · cases h
end Go.Proofs.YtldofkogmkfpjaaGreatDoor
