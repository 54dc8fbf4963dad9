/-
  The contract of layer 11's statement ListNotes.
-/
import Derived.Test.YtldofkogmkfpjaaGreatDoorWLzSyR10
import Derived.Test.YtldofkogmkfpjaaGreatDoorWLzSyLawC
import Derived.Test.YtldofkogmkfpjaaGreatDoorWPListTurn
namespace Go.Proofs.YtldofkogmkfpjaaGreatDoor
open Go Go.Ev Go.Sy
set_option linter.unusedSimpArgs false
set_option linter.unusedVariables false
set_option maxRecDepth 10000
set_option maxHeartbeats 4000000
open Go.Sy.Sh

theorem joinL_app (A B : List (List UInt8)) : joinL (A ++ B) = joinL A ++ joinL B := by simp [joinL]
theorem joinL_one (a : List UInt8) : joinL [a] = a ++ [10] := by simp [joinL]
/-- The lines so far, where the note stands ahead of the line at q. -/
def gP (F : List (List UInt8)) (q : Nat) (n : List UInt8) (i : Nat) : List (List UInt8) := if i ≤ q then F.take i else F.take q ++ (35 :: 32 :: n) :: (F.take i).drop q
theorem gP_end (F : List (List UInt8)) (q : Nat) (n : List UInt8) (hq : q ≤ F.length) : gP F q n (F.length + 1) = F.take q ++ (35 :: 32 :: n) :: F.drop q := by
  unfold gP
  rw [if_neg (by omega), List.take_of_length_le (Nat.le_succ _)]
theorem gP_last (F : List (List UInt8)) (q : Nat) (n : List UInt8) (hq : q < F.length) : gP F q n (F.length + 1) = gP F q n F.length := by
  unfold gP
  rw [if_neg (by omega), if_neg (by omega), List.take_of_length_le (Nat.le_succ _), List.take_length]
theorem gP_at (F : List (List UInt8)) (q : Nat) (n : List UInt8) (hq : q ≤ F.length) : gP F q n (q + 1) = gP F q n q ++ [35 :: 32 :: n] ++ (if q < F.length then [F.getD q []] else []) := by
  unfold gP
  rw [if_neg (by omega), if_pos (Nat.le_refl q)]
  by_cases h : q < F.length
  · rw [if_pos h, List.take_succ_eq_append_getElem h, List.drop_append_of_le_length (by rw [List.length_take]; omega), List.drop_of_length_le (by rw [List.length_take]; omega), List.getD_eq_getElem?_getD, List.getElem?_eq_getElem h]
    simp
  · rw [if_neg h, List.take_of_length_le (show F.length ≤ q + 1 by omega), List.drop_of_length_le (by omega)]
    simp
theorem gP_ne (F : List (List UInt8)) (q : Nat) (n : List UInt8) {i : Nat} (h : i < F.length) (he : i ≠ q) : gP F q n (i + 1) = gP F q n i ++ [F.getD i []] := by
  unfold gP
  rw [List.take_succ_eq_append_getElem h, List.getD_eq_getElem?_getD, List.getElem?_eq_getElem h]
  by_cases g : i < q
  · rw [if_pos (by omega), if_pos (by omega)]; rfl
  · rw [if_neg (by omega), if_neg (by omega), List.drop_append_of_le_length (by rw [List.length_take]; omega)]
    simp
theorem gP_size (F : List (List UInt8)) (q : Nat) (n : List UInt8) (i : Nat) (hF : ∀ l ∈ F, l.length ≤ 84) (hn : n.length ≤ 100) (hl : F.length ≤ 100) (hi : i ≤ F.length) : (joinL (gP F q n i)).length ≤ 20000 := by
  have h1 := joinL_each (c := 102) (gP F q n i) (fun l hm => by
    unfold gP at hm
    split at hm
    · have := hF l (List.mem_of_mem_take hm); omega
    · rcases List.mem_append.1 hm with hm | hm
      · have := hF l (List.mem_of_mem_take hm); omega
      · rcases List.mem_cons.1 hm with rfl | hm
        · simp only [List.length_cons]; omega
        · have := hF l (List.mem_of_mem_take (List.mem_of_mem_drop hm)); omega)
  have h2 : (gP F q n i).length ≤ 102 := by
    unfold gP
    split
    · rw [List.length_take]; omega
    · rw [List.length_append, List.length_cons, List.length_take, List.length_drop, List.length_take]; omega
  have := Nat.mul_le_mul_left 103 h2
  omega
/-! ### epactlaw11.ListNotes -/
noncomputable def lk10a_e : Ev' := ⟨Tryz.prog, glob, Γof [(24, c_rtab), (33, c_rlines), (30, c_rpnt), (28, c_lprs), (31, c_rsame), (25, c_lans)]⟩
theorem lk10a_g : Gd cfg lk10a_e := gd (env_cons c_rtab_ok (env_cons c_rlines_ok (env_cons c_rpnt_ok (env_cons c_lprs_ok (env_cons c_rsame_ok (env_cons c_lans_ok (env_nil _)))))))
noncomputable def lk10a_f : FnD := ⟨10, Tryz.f10, shOf [(0, ⟨130, [], [(4, [.c (.int .i64), .c (.int .i64), .c (.rows [.int .i64, .int .i64])])], [(1, .c (.str)), (2, .c (.int .u8)), (3, .c (.int .u8)), (4, .c (.ptr 4 0)), (11, .c (.int .i64))]⟩), (1, ⟨130, [], [(4, [.c (.int .i64), .c (.int .i64), .c (.rows [.int .i64, .int .i64])])], [(1, .c (.str)), (4, .c (.ptr 4 0)), (14, .c (.rows [.str])), (15, .c (.int .i64)), (16, .c (.str)), (17, .c (.int .i64))]⟩)], Tryz.f10.resultTypes.toList, 0⟩
theorem lk10a_ent (h : Hd) (u : Int) (x : Int) (P : List (Int × Int)) (s : ByteArray) (a : Int) (b : Int) : lk10a_f.ent lk10a_e [] h [agg [.c (.int .i64 u), .c (.int .i64 x), .c (.rows [.int .i64, .int .i64] (P.map rowP))], vS s, c1 (.int .u8 a), c1 (.int .u8 b)] [] = bif !decide ((chkP u x (List.map rowP P)).snd = (0 : Int)) then ret (vB true) else bif decide ((100 : Int) < (↑s.size : Int)) then ret (vB true) else h (0 : Nat) [Lf.i u, Lf.i x, Lf.r (List.map rowP P), Lf.s s, Lf.i a, Lf.i b, Lf.i (0 : Int)] := by kernel_rfl
theorem lk10a_l0 (h : Hd) (i0 : Int) (i1 : Int) (r2 : List (List D)) (s3 : ByteArray) (i4 : Int) (i5 : Int) (i6 : Int) : lk10a_f.seg lk10a_e [] h 0 [.i i0, .i i1, .r r2, .s s3, .i i4, .i i5, .i i6] = let v1 : Int := (IntKind.i64.wrap i5).tmod (↑(List.map (fun l => [D.s (tx l)]) (linesP (tx (prnL i0 i1 r2)).data.toList)).length : Int); let v2 : List (List D) := piece (List.map (fun l => [D.s (tx l)]) (linesP (tx (prnL i0 i1 r2)).data.toList)) (0 : Int) v1; let v3 : Nat := v2.length; let v4 : Nat := (0 : Nat) + v3; let v5 : Int := IntKind.i64.wrap (v1 + (1 : Int)); let v6 : List (List D) := piece (List.map (fun l => [D.s (tx l)]) (linesP (tx (prnL i0 i1 r2)).data.toList)) v5 (↑(List.map (fun l => [D.s (tx l)]) (linesP (tx (prnL i0 i1 r2)).data.toList)).length : Int); let v7 : Nat := v4 + v6.length; let v8 : Nat := (List.take v4 v2 ++ v6).length; let v9 : Nat := (1 : Nat) + v7; let v10 : Int := IntKind.i64.wrap ((↑(List.map (fun l => [D.s (tx l)]) (linesP (tx (prnL i0 i1 r2)).data.toList)).length : Int) - (1 : Int)); let v11 : Int := IntKind.i64.wrap ((↑(List.map (fun l => [D.s (tx l)]) (linesP (tx (prnL i0 i1 r2)).data.toList)).length : Int) + (1 : Int)); let v12 : Int := IntKind.i64.wrap ((↑v9 : Int) + (1 : Int)); bif decide (i6 < (↑s3.size : Int)) then bif inB i6 s3.size then bif decide ((bytesI s3).getD i6.toNat (0 : Int) = (10 : Int)) then ret (vB true) else h (0 : Nat) [Lf.i i0, Lf.i i1, Lf.r r2, Lf.s s3, Lf.i i4, Lf.i i5, Lf.i (IntKind.i64.wrap (i6 + (1 : Int)))] else none else bif decide ((chkP i0 i1 r2).snd = (0 : Int)) then bif decide ((tx (prnL i0 i1 r2)).size ≤ (1000000000 : Nat)) then bif !decide ((↑(List.map (fun l => [D.s (tx l)]) (linesP (tx (prnL i0 i1 r2)).data.toList)).length : Int) = (0 : Int)) then bif inB v1 (List.map (fun l => [D.s (tx l)]) (linesP (tx (prnL i0 i1 r2)).data.toList)).length then bif slB (0 : Int) v1 (List.map (fun l => [D.s (tx l)]) (linesP (tx (prnL i0 i1 r2)).data.toList)).length then bif roomB v4 (16 : Nat) then bif slB v5 (↑(List.map (fun l => [D.s (tx l)]) (linesP (tx (prnL i0 i1 r2)).data.toList)).length : Int) (List.map (fun l => [D.s (tx l)]) (linesP (tx (prnL i0 i1 r2)).data.toList)).length then bif decide (v4 ≤ v3) && roomB v7 (16 : Nat) then bif decide (v7 ≤ v8) && true && true && true && roomB v9 (16 : Nat) then bif decide ((2 : Int) < v1) then bif decide (v1 < v10) then bif !decide (v11 = (0 : Int)) then h (1 : Nat) [Lf.i i0, Lf.i i1, Lf.r r2, Lf.s s3, Lf.r (List.map (fun l => [D.s (tx l)]) (linesP (tx (prnL i0 i1 r2)).data.toList)), Lf.i ((IntKind.i64.wrap i4).tmod v11), Lf.s (tx []), Lf.i (0 : Int)] else none else bif !decide (v12 = (0 : Int)) then none else none else bif !decide (v12 = (0 : Int)) then none else none else none else none else none else none else none else none else none else none else none := by kernel_rfl
theorem lk10a_l1 (h : Hd) (i0 : Int) (i1 : Int) (r2 : List (List D)) (s3 : ByteArray) (r4 : List (List D)) (i5 : Int) (s6 : ByteArray) (i7 : Int) : lk10a_f.seg lk10a_e [] h 1 [.i i0, .i i1, .r r2, .s s3, .r r4, .i i5, .s s6, .i i7] = let v1 : ByteArray := s6 ++ (tx [(35 : UInt8), (32 : UInt8)]); let v2 : Nat := v1.size + s3.size; let v3 : ByteArray := v1 ++ s3; let v4 : Nat := v3.size + (1 : Nat); let v5 : ByteArray := v3 ++ (tx [(10 : UInt8)]); let v6 : Nat := v5.size + ((r4.getD i7.toNat []).getD (0 : Nat) (D.i (0 : Int))).toS.size; let v7 : ByteArray := v5 ++ ((r4.getD i7.toNat []).getD (0 : Nat) (D.i (0 : Int))).toS; let v8 : Nat := v7.size + (1 : Nat); let v9 : Nat := s6.size + ((r4.getD i7.toNat []).getD (0 : Nat) (D.i (0 : Int))).toS.size; let v10 : ByteArray := s6 ++ ((r4.getD i7.toNat []).getD (0 : Nat) (D.i (0 : Int))).toS; let v11 : Nat := v10.size + (1 : Nat); bif decide (i7 ≤ (↑r4.length : Int)) then bif decide (i7 = i5) then bif decide (s6.size + (2 : Nat) ≤ (9223372036854775807 : Nat)) then bif decide (v2 ≤ (9223372036854775807 : Nat)) then bif decide (v4 ≤ (9223372036854775807 : Nat)) then bif decide (i7 < (↑r4.length : Int)) then bif inB i7 r4.length then bif decide (v6 ≤ (9223372036854775807 : Nat)) then bif decide (v8 ≤ (9223372036854775807 : Nat)) then h (1 : Nat) [Lf.i i0, Lf.i i1, Lf.r r2, Lf.s s3, Lf.r r4, Lf.i i5, Lf.s (v7 ++ (tx [(10 : UInt8)])), Lf.i (IntKind.i64.wrap (i7 + (1 : Int)))] else none else none else none else h (1 : Nat) [Lf.i i0, Lf.i i1, Lf.r r2, Lf.s s3, Lf.r r4, Lf.i i5, Lf.s v5, Lf.i (IntKind.i64.wrap (i7 + (1 : Int)))] else none else none else none else bif decide (i7 < (↑r4.length : Int)) then bif inB i7 r4.length then bif decide (v9 ≤ (9223372036854775807 : Nat)) then bif decide (v11 ≤ (9223372036854775807 : Nat)) then h (1 : Nat) [Lf.i i0, Lf.i i1, Lf.r r2, Lf.s s3, Lf.r r4, Lf.i i5, Lf.s (v10 ++ (tx [(10 : UInt8)])), Lf.i (IntKind.i64.wrap (i7 + (1 : Int)))] else none else none else none else h (1 : Nat) [Lf.i i0, Lf.i i1, Lf.r r2, Lf.s s3, Lf.r r4, Lf.i i5, Lf.s s6, Lf.i (IntKind.i64.wrap (i7 + (1 : Int)))] else bif decide ((parT s6.data.toList).snd.snd = (0 : Int)) then bif decide ((parT s6.data.toList).snd.fst = (0 : Int)) then bif decide (r2.length ≤ (9000000000000000000 : Nat)) then ret (vB (sameP i0 i1 r2 (parT s6.data.toList).fst.fst (parT s6.data.toList).fst.snd.fst (parT s6.data.toList).fst.snd.snd)) else none else ret (vB false) else ret (vB false) := by kernel_rfl

theorem lk10a_loop1 {u x : Int} {L : List (List D)} (n : List UInt8) (F : List (List UInt8)) (q : Nat) (hq : q ≤ F.length) (hF : F.length ≤ 100) (hFl : ∀ l ∈ F, l.length ≤ 84) (hnl : n.length ≤ 100) (hLl : L.length ≤ 140737488355328) (hfin : parT (joinL (F.take q ++ (35 :: 32 :: n) :: F.drop q)) = ((u, x, L), (0, 0))) : ∀ d i, i ≤ F.length + 1 → F.length + 1 - i = d →
    ∃ k, lk10a_f.H lk10a_e [] k 1 [.i u, .i x, .r L, .s (tx n), .r (rowsT F), .i (q : Int), .s (tx (joinL (gP F q n i))), .i ((i : Int))] = some ⟨vB true, []⟩ := by
  intro d
  induction d with
  | zero =>
    intro i hi hd
    obtain rfl : i = F.length + 1 := by omega
    refine ⟨1, ?_⟩
    rw [FnD.H_succ, lk10a_l1]
    try dsimp only
    rw [tx_toList, gP_end F q n hq, hfin]
    refine condF (by rw [rowsT_len]; omega) (condT rfl (condT rfl (condT (by omega) ?_)))
    rw [sameP_self]
  | succ d ih =>
    intro i hi hd
    have hi2 : i ≤ F.length := by omega
    obtain ⟨k, hk⟩ := ih (i + 1) (by omega) (by omega)
    refine ⟨k + 1, ?_⟩
    rw [FnD.H_succ, lk10a_l1]
    try dsimp only
    have hle : (i : Int) ≤ ((rowsT F).length : Int) := by rw [rowsT_len]; omega
    have hs := gP_size F q n i hFl hnl hF hi2
    rw [show IntKind.i64.wrap ((i : Int) + 1) = ((i + 1 : Nat) : Int) by rw [IntWalk.i64_in _ (by omega)]; omega]
    by_cases hlt : i < F.length
    · have hltI : (i : Int) < ((rowsT F).length : Int) := by rw [rowsT_len]; omega
      have hin : inB (i : Int) (rowsT F).length = true := (inB_iff _ _).2 (by rw [rowsT_len]; omega)
      have hfl : (F.getD i []).length ≤ 84 := hFl _ (by rw [List.getD_eq_getElem?_getD, List.getElem?_eq_getElem hlt]; exact List.getElem_mem hlt)
      rw [Int.toNat_natCast, rowsT_at hlt]
      simp only [D.toS, tx_append]
      by_cases he : i = q
      · subst he
        rw [gP_at F i n hq, if_pos hlt, joinL_app, joinL_app, joinL_one, joinL_one] at hk
        refine condT hle (condT rfl (condT ?_ (condT ?_ (condT ?_ (condT hltI (condB hin (condT ?_ (condT ?_ ?_))))))))
        · rw [tx_size]; omega
        · rw [tx_size, tx_size, List.length_append]; simp; omega
        · rw [tx_size, List.length_append, List.length_append]; simp; omega
        · simp only [tx_size, List.length_append, List.length_cons, List.length_nil]; omega
        · simp only [tx_size, List.length_append, List.length_cons, List.length_nil]; omega
        · simpa using hk
      · rw [gP_ne F q n hlt he, joinL_app, joinL_one] at hk
        refine condT hle (condF (by omega) (condT hltI (condB hin (condT ?_ (condT ?_ ?_)))))
        · rw [tx_size, tx_size]; omega
        · simp only [tx_size, List.length_append]; omega
        · simpa using hk
    · obtain rfl : i = F.length := by omega
      have hltI : ¬ (F.length : Int) < ((rowsT F).length : Int) := by rw [rowsT_len]; omega
      simp only [tx_append]
      by_cases he : F.length = q
      · subst he
        rw [gP_at F F.length n hq, if_neg hlt, List.append_nil, joinL_app, joinL_one] at hk
        refine condT hle (condT rfl (condT ?_ (condT ?_ (condT ?_ (condF hltI ?_)))))
        · rw [tx_size]; omega
        · rw [tx_size, tx_size, List.length_append]; simp; omega
        · rw [tx_size, List.length_append, List.length_append]; simp; omega
        · simpa using hk
      · rw [gP_last F q n (by omega)] at hk
        exact condT hle (condF (by omega) (condF hltI hk))
theorem lk10a_loop0 (u x : Int) (L : List (List D)) (l : List UInt8) (hl : l.length ≤ 100) (a b : Int) (nx : (∀ c ∈ l, c ≠ 10) → ∃ k, lk10a_f.H lk10a_e [] k 0 [.i u, .i x, .r L, .s (tx l), .i a, .i b, .i (l.length : Int)] = some ⟨vB true, []⟩) : ∀ d i, i ≤ l.length → l.length - i = d → (∀ c ∈ l.take i, c ≠ 10) →
    ∃ k, lk10a_f.H lk10a_e [] k 0 [.i u, .i x, .r L, .s (tx l), .i a, .i b, .i (i : Int)] = some ⟨vB true, []⟩ := by
  intro d
  induction d with
  | zero =>
    intro i hi hd hc
    obtain rfl : i = l.length := by omega
    rw [List.take_length] at hc
    exact nx hc
  | succ d ih =>
    intro i hi hd hc
    have hlt : i < l.length := by omega
    have hin : inB (i : Int) (tx l).size = true := (inB_iff _ _).2 (by rw [tx_size]; omega)
    have hltI : (i : Int) < ((tx l).size : Int) := by rw [tx_size]; omega
    by_cases h10 : l.getD i 0 = 10
    · refine ⟨1, ?_⟩
      rw [FnD.H_succ, lk10a_l0]
      dsimp only
      rw [Int.toNat_natCast, bytesI_get, h10]
      exact condT hltI (condB hin (condT rfl rfl))
    · obtain ⟨k, hk⟩ := ih (i + 1) (by omega) (by omega) (fun c hcm => by
        rw [List.take_succ_eq_append_getElem hlt] at hcm
        rcases List.mem_append.1 hcm with hcm | hcm
        · exact hc c hcm
        · simp only [List.mem_cons, List.not_mem_nil, or_false] at hcm
          subst hcm
          rw [List.getD_eq_getElem?_getD, List.getElem?_eq_getElem hlt] at h10
          exact h10)
      refine ⟨k + 1, ?_⟩
      rw [FnD.H_succ, lk10a_l0]
      dsimp only
      rw [Int.toNat_natCast, bytesI_get, show IntKind.i64.wrap ((i : Int) + 1) = ((i + 1 : Nat) : Int) by rw [IntWalk.i64_in _ (by omega)]; omega]
      exact condT hltI (condB hin (condF (fun e => h10 (u8_nat.1 (show _ = (((10 : UInt8).toNat : Nat) : Int) from e))) hk))
theorem lk10a_run (u : Int) (x : Int) (P : List (Int × Int)) (s : ByteArray) (a : Int) (b : Int) (hp : (P.length ≤ 9223372036854775807 ∧ (0 ≤ a ∧ a < 256) ∧ 0 ≤ b ∧ b < 256) ∧ (2 < b.toNat % (P.length + 3) ∧ b.toNat % (P.length + 3) < P.length + 2)) : ∃ fu, lk10a_f.run lk10a_e [] fu [agg [.c (.int .i64 u), .c (.int .i64 x), .c (.rows [.int .i64, .int .i64] (P.map rowP))], vS s, c1 (.int .u8 a), c1 (.int .u8 b)] [] = some ⟨vB true, []⟩ := by
  obtain ⟨hp, hv⟩ := hp
  have hv : (chkP u x (P.map rowP)).2 = 0 → (2 < b.toNat % ((P.map rowP).length + 3) ∧ b.toNat % ((P.map rowP).length + 3) < (P.map rowP).length + 2) := fun _ => by rw [List.length_map]; exact hv
  obtain ⟨hP, ⟨ha0, ha1⟩, hb0, hb1⟩ := hp
  have hn := norm_pairs P
  have hLl : (P.map rowP).length = P.length := List.length_map _
  obtain ⟨L, hL0⟩ : ∃ L, L = P.map rowP := ⟨_, rfl⟩
  rw [← hL0] at hn hLl hv
  obtain ⟨l, rfl, hls⟩ := tx_get s
  obtain ⟨a, rfl⟩ := Int.eq_ofNat_of_zero_le ha0
  obtain ⟨b, rfl⟩ := Int.eq_ofNat_of_zero_le hb0
  by_cases h : (chkP u x L).2 = 0
  case neg =>
    refine ⟨0, ?_⟩
    rw [FnD.run, lk10a_ent, ← hL0]
    exact condB (by rw [decide_eq_false h]; rfl) rfl
  by_cases hl : l.length ≤ 100
  case neg =>
    refine ⟨0, ?_⟩
    rw [FnD.run, lk10a_ent, ← hL0]
    exact condN (by rw [decide_eq_true h]; rfl) (condT (by rw [tx_size]; omega) rfl)
  have key := lk10a_loop0 u x L l hl a b (fun h10 => ?_) _ 0 (Nat.zero_le _) rfl (fun c hc => by simp at hc)
  · obtain ⟨k, hk⟩ := key
    refine ⟨k, ?_⟩
    rw [FnD.run, lk10a_ent, ← hL0]
    exact condN (by rw [decide_eq_true h]; rfl) (condF (by rw [tx_size]; omega) hk)
  · obtain ⟨hL, hu, hx, hg⟩ := chkP_ok h
    have h64 := goodTo_len hg (Nat.le_refl _)
    have hfl := file_len u x L (wordsN (bytN (dgL u x L)))
    have hsz := file_size (w := wordsN (bytN (dgL u x L))) h (wordsN_len _)
    have hT : (prnL u x L).length ≤ 6000 := hsz
    have hrl : (rowsT (fileL u x L (wordsN (bytN (dgL u x L))))).length = L.length + 3 := by rw [rowsT_len, hfl]
    have hb : b < 256 := by omega
    have ha : a < 256 := by omega
    have ek : (IntKind.i64.wrap (b : Int)).tmod ((L.length + 3 : Nat) : Int) = ((b % (L.length + 3) : Nat) : Int) := by
      rw [IntWalk.i64_in _ (by omega)]; rfl
    have hv := hv h
    simp only [Int.toNat_natCast] at hv
    generalize hkd : b % (L.length + 3) = k at ek hv
    have hk : k < L.length + 3 := by rw [← hkd]; exact Nat.mod_lt _ (by omega)
    have hturn : (turnF (fileL u x L (wordsN (bytN (dgL u x L)))) k).length = L.length + 3 := (turn_len (by omega)).trans hfl
    have hfin := notes_parse h hn hk (i := a % (L.length + 4)) h10 hl
    have e1 : IntKind.i64.wrap ((k : Int) + 1) = ((k + 1 : Nat) : Int) := by rw [IntWalk.i64_in _ (by omega)]; omega
    have e2 : IntKind.i64.wrap (((L.length + 3 : Nat) : Int) - 1) = ((L.length + 2 : Nat) : Int) := by rw [IntWalk.i64_in _ (by omega)]; omega
    have e3 : IntKind.i64.wrap (((L.length + 3 : Nat) : Int) + 1) = ((L.length + 4 : Nat) : Int) := by rw [IntWalk.i64_in _ (by omega)]; omega
    have ea : IntKind.i64.wrap (a : Int) = (a : Int) := IntWalk.i64_in _ (by omega)
    have eN4 : ((a : Int)).tmod ((L.length + 4 : Nat) : Int) = ((a % (L.length + 4) : Nat) : Int) := rfl
    have ham : a % (L.length + 4) < L.length + 4 := Nat.mod_lt _ (by omega)
    have p0 : piece (rowsT (fileL u x L (wordsN (bytN (dgL u x L))))) 0 (k : Int) = (rowsT (fileL u x L (wordsN (bytN (dgL u x L))))).take k := by
      unfold piece; simp
    have p1 : piece (rowsT (fileL u x L (wordsN (bytN (dgL u x L))))) ((k + 1 : Nat) : Int) ((L.length + 3 : Nat) : Int) = (rowsT (fileL u x L (wordsN (bytN (dgL u x L))))).drop (k + 1) := by
      unfold piece
      rw [Int.toNat_natCast, Int.toNat_natCast, List.take_of_length_le (by rw [List.length_drop, hrl]; exact Nat.le_refl _)]
    have hl1 : ((rowsT (fileL u x L (wordsN (bytN (dgL u x L))))).take k).length = k := by rw [List.length_take, hrl]; omega
    have hl2 : ((rowsT (fileL u x L (wordsN (bytN (dgL u x L))))).drop (k + 1)).length = L.length + 3 - (k + 1) := by rw [List.length_drop, hrl]
    have hrow : turnF (fileL u x L (wordsN (bytN (dgL u x L)))) k = fileL u x L (wordsN (bytN (dgL u x L))) := by
      unfold turnF
      rw [if_pos (by rw [hfl]; omega)]
    rw [hrow] at hfin hturn
    obtain ⟨m, hm⟩ := lk10a_loop1 (u := u) (x := x) (L := L) l (fileL u x L (wordsN (bytN (dgL u x L)))) (a % (L.length + 4)) (by rw [hturn]; omega) (by rw [hturn]; omega) (fun y hy => file_each h (wordsN_len _) y hy) hl (by omega) hfin _ 0 (by omega) rfl
    refine ⟨m + 1, ?_⟩
    rw [FnD.H_succ, lk10a_l0]
    dsimp only
    rw [tx_toList, prn_lines]
    simp only [show ((fileL u x L (wordsN (bytN (dgL u x L)))).map fun l => [D.s (tx l)]) = rowsT (fileL u x L (wordsN (bytN (dgL u x L)))) from rfl, hrl]
    rw [ek, e1, e2, e3, ea]
    rw [p0, p1]
    simp only [hl1, hl2, Nat.zero_add]
    have room : ∀ m, m ≤ 1000 → roomB m 16 = true := fun m hm => by unfold roomB; rw [Bool.and_eq_true, decide_eq_true_eq, decide_eq_true_eq]; constructor <;> omega
    have hnz : (!decide (((L.length + 4 : Nat) : Int) = 0)) = true := by rw [decide_eq_false (by omega)]; rfl
    refine condF (by rw [tx_size]; omega) (condT h (condT (by rw [tx_size]; omega) (condB (by rw [decide_eq_false (by omega)]; rfl) (condB ((inB_iff _ _).2 (by omega)) (condB (by unfold slB; simp; omega) (condB (room _ (by omega)) (condB (by unfold slB; simp; omega) (condB (by rw [room _ (by omega)]; simp) (condB ?_ (condT (by omega) (condT (by omega) (condB hnz (by rw [eN4]; exact hm)))))))))))))
    rw [room _ (by omega)]
    simp only [List.length_append, List.length_take, hrl, hl2, Bool.and_true, decide_eq_true_eq]
    omega
theorem lk10a_ok (u : Int) (x : Int) (P : List (Int × Int)) (s : ByteArray) (a : Int) (b : Int) (hp : (P.length ≤ 9223372036854775807 ∧ (0 ≤ a ∧ a < 256) ∧ 0 ≤ b ∧ b < 256) ∧ (2 < b.toNat % (P.length + 3) ∧ b.toNat % (P.length + 3) < P.length + 2)) : FnOk cfg 10 ([agg [.c (.int .i64 u), .c (.int .i64 x), .c (.rows [.int .i64, .int .i64] (P.map rowP))], vS s, c1 (.int .u8 a), c1 (.int .u8 b)].map SV.den) (vB true : SV).den := by
  obtain ⟨nn, h⟩ := lk10a_run u x P s a b hp
  exact FnD.ok lk10a_g lk10a_f mixed Tryz.func10 rfl rfl rfl rfl rfl rfl h
/-! ### epactlaw11.ListNotes -/
noncomputable def lk10b_e : Ev' := ⟨Tryz.prog, glob, Γof [(24, c_rtab), (33, c_rlines), (30, c_rpnt), (28, c_lprs), (31, c_rsame), (25, c_lans)]⟩
theorem lk10b_g : Gd cfg lk10b_e := gd (env_cons c_rtab_ok (env_cons c_rlines_ok (env_cons c_rpnt_ok (env_cons c_lprs_ok (env_cons c_rsame_ok (env_cons c_lans_ok (env_nil _)))))))
noncomputable def lk10b_f : FnD := ⟨10, Tryz.f10, shOf [(0, ⟨130, [], [(4, [.c (.int .i64), .c (.int .i64), .c (.rows [.int .i64, .int .i64])])], [(1, .c (.str)), (2, .c (.int .u8)), (3, .c (.int .u8)), (4, .c (.ptr 4 0)), (11, .c (.int .i64))]⟩), (1, ⟨130, [(14, ⟨.rows [.str], false, false⟩)], [(4, [.c (.int .i64), .c (.int .i64), .c (.rows [.int .i64, .int .i64])])], [(1, .c (.str)), (4, .c (.ptr 4 0)), (14, .c (.sl 14 1)), (15, .c (.int .i64)), (16, .c (.str)), (17, .c (.int .i64))]⟩)], Tryz.f10.resultTypes.toList, 0⟩
theorem lk10b_ent (h : Hd) (u : Int) (x : Int) (P : List (Int × Int)) (s : ByteArray) (a : Int) (b : Int) : lk10b_f.ent lk10b_e [] h [agg [.c (.int .i64 u), .c (.int .i64 x), .c (.rows [.int .i64, .int .i64] (P.map rowP))], vS s, c1 (.int .u8 a), c1 (.int .u8 b)] [] = bif !decide ((chkP u x (List.map rowP P)).snd = (0 : Int)) then ret (vB true) else bif decide ((100 : Int) < (↑s.size : Int)) then ret (vB true) else h (0 : Nat) [Lf.i u, Lf.i x, Lf.r (List.map rowP P), Lf.s s, Lf.i a, Lf.i b, Lf.i (0 : Int)] := by kernel_rfl
theorem lk10b_l0 (h : Hd) (i0 : Int) (i1 : Int) (r2 : List (List D)) (s3 : ByteArray) (i4 : Int) (i5 : Int) (i6 : Int) : lk10b_f.seg lk10b_e [] h 0 [.i i0, .i i1, .r r2, .s s3, .i i4, .i i5, .i i6] = let v1 : Int := (IntKind.i64.wrap i5).tmod (↑(List.map (fun l => [D.s (tx l)]) (linesP (tx (prnL i0 i1 r2)).data.toList)).length : Int); let v2 : List (List D) := piece (List.map (fun l => [D.s (tx l)]) (linesP (tx (prnL i0 i1 r2)).data.toList)) (0 : Int) v1; let v3 : Nat := v2.length; let v4 : Nat := (0 : Nat) + v3; let v5 : Int := IntKind.i64.wrap (v1 + (1 : Int)); let v6 : List (List D) := piece (List.map (fun l => [D.s (tx l)]) (linesP (tx (prnL i0 i1 r2)).data.toList)) v5 (↑(List.map (fun l => [D.s (tx l)]) (linesP (tx (prnL i0 i1 r2)).data.toList)).length : Int); let v7 : Nat := v4 + v6.length; let v8 : List (List D) := List.take v4 v2 ++ v6; let v9 : Nat := v8.length; let v10 : Nat := (1 : Nat) + v7; let v11 : Int := IntKind.i64.wrap ((↑(List.map (fun l => [D.s (tx l)]) (linesP (tx (prnL i0 i1 r2)).data.toList)).length : Int) - (1 : Int)); let v12 : Int := IntKind.i64.wrap ((↑(List.map (fun l => [D.s (tx l)]) (linesP (tx (prnL i0 i1 r2)).data.toList)).length : Int) + (1 : Int)); let v13 : Int := IntKind.i64.wrap ((↑v10 : Int) + (1 : Int)); let v14 : List (List D) := [[D.s (((List.map (fun l => [D.s (tx l)]) (linesP (tx (prnL i0 i1 r2)).data.toList)).getD v1.toNat []).getD (0 : Nat) (D.i (0 : Int))).toS]] ++ List.take v7 v8; let v15 : Nat := v14.length; let v16 : Int := (IntKind.i64.wrap i4).tmod v13; bif decide (i6 < (↑s3.size : Int)) then bif inB i6 s3.size then bif decide ((bytesI s3).getD i6.toNat (0 : Int) = (10 : Int)) then ret (vB true) else h (0 : Nat) [Lf.i i0, Lf.i i1, Lf.r r2, Lf.s s3, Lf.i i4, Lf.i i5, Lf.i (IntKind.i64.wrap (i6 + (1 : Int)))] else none else bif decide ((chkP i0 i1 r2).snd = (0 : Int)) then bif decide ((tx (prnL i0 i1 r2)).size ≤ (1000000000 : Nat)) then bif !decide ((↑(List.map (fun l => [D.s (tx l)]) (linesP (tx (prnL i0 i1 r2)).data.toList)).length : Int) = (0 : Int)) then bif inB v1 (List.map (fun l => [D.s (tx l)]) (linesP (tx (prnL i0 i1 r2)).data.toList)).length then bif slB (0 : Int) v1 (List.map (fun l => [D.s (tx l)]) (linesP (tx (prnL i0 i1 r2)).data.toList)).length then bif roomB v4 (16 : Nat) then bif slB v5 (↑(List.map (fun l => [D.s (tx l)]) (linesP (tx (prnL i0 i1 r2)).data.toList)).length : Int) (List.map (fun l => [D.s (tx l)]) (linesP (tx (prnL i0 i1 r2)).data.toList)).length then bif decide (v4 ≤ v3) && roomB v7 (16 : Nat) then bif decide (v7 ≤ v9) && true && true && true && roomB v10 (16 : Nat) then bif decide ((2 : Int) < v1) then bif decide (v1 < v11) then bif !decide (v12 = (0 : Int)) then none else none else bif !decide (v13 = (0 : Int)) then bif decide (v10 = v15) then h (1 : Nat) [Lf.r v14, Lf.i i0, Lf.i i1, Lf.r r2, Lf.s s3, Lf.i v16, Lf.s (tx []), Lf.i (0 : Int)] else none else none else bif !decide (v13 = (0 : Int)) then bif decide (v10 = v15) then h (1 : Nat) [Lf.r v14, Lf.i i0, Lf.i i1, Lf.r r2, Lf.s s3, Lf.i v16, Lf.s (tx []), Lf.i (0 : Int)] else none else none else none else none else none else none else none else none else none else none else none := by kernel_rfl
theorem lk10b_l1 (h : Hd) (r0 : List (List D)) (i1 : Int) (i2 : Int) (r3 : List (List D)) (s4 : ByteArray) (i5 : Int) (s6 : ByteArray) (i7 : Int) : lk10b_f.seg lk10b_e [] h 1 [.r r0, .i i1, .i i2, .r r3, .s s4, .i i5, .s s6, .i i7] = let v1 : ByteArray := s6 ++ (tx [(35 : UInt8), (32 : UInt8)]); let v2 : Nat := v1.size + s4.size; let v3 : ByteArray := v1 ++ s4; let v4 : Nat := v3.size + (1 : Nat); let v5 : ByteArray := v3 ++ (tx [(10 : UInt8)]); let v6 : Nat := v5.size + ((r0.getD i7.toNat []).getD (0 : Nat) (D.i (0 : Int))).toS.size; let v7 : ByteArray := v5 ++ ((r0.getD i7.toNat []).getD (0 : Nat) (D.i (0 : Int))).toS; let v8 : Nat := v7.size + (1 : Nat); let v9 : Nat := s6.size + ((r0.getD i7.toNat []).getD (0 : Nat) (D.i (0 : Int))).toS.size; let v10 : ByteArray := s6 ++ ((r0.getD i7.toNat []).getD (0 : Nat) (D.i (0 : Int))).toS; let v11 : Nat := v10.size + (1 : Nat); bif decide (i7 ≤ (↑r0.length : Int)) then bif decide (i7 = i5) then bif decide (s6.size + (2 : Nat) ≤ (9223372036854775807 : Nat)) then bif decide (v2 ≤ (9223372036854775807 : Nat)) then bif decide (v4 ≤ (9223372036854775807 : Nat)) then bif decide (i7 < (↑r0.length : Int)) then bif inB i7 r0.length then bif decide (i7.toNat < r0.length) then bif decide (v6 ≤ (9223372036854775807 : Nat)) then bif decide (v8 ≤ (9223372036854775807 : Nat)) then bif decide (r0.length = r0.length) then h (1 : Nat) [Lf.r r0, Lf.i i1, Lf.i i2, Lf.r r3, Lf.s s4, Lf.i i5, Lf.s (v7 ++ (tx [(10 : UInt8)])), Lf.i (IntKind.i64.wrap (i7 + (1 : Int)))] else none else none else none else none else none else bif decide (r0.length = r0.length) then h (1 : Nat) [Lf.r r0, Lf.i i1, Lf.i i2, Lf.r r3, Lf.s s4, Lf.i i5, Lf.s v5, Lf.i (IntKind.i64.wrap (i7 + (1 : Int)))] else none else none else none else none else bif decide (i7 < (↑r0.length : Int)) then bif inB i7 r0.length then bif decide (i7.toNat < r0.length) then bif decide (v9 ≤ (9223372036854775807 : Nat)) then bif decide (v11 ≤ (9223372036854775807 : Nat)) then bif decide (r0.length = r0.length) then h (1 : Nat) [Lf.r r0, Lf.i i1, Lf.i i2, Lf.r r3, Lf.s s4, Lf.i i5, Lf.s (v10 ++ (tx [(10 : UInt8)])), Lf.i (IntKind.i64.wrap (i7 + (1 : Int)))] else none else none else none else none else none else bif decide (r0.length = r0.length) then h (1 : Nat) [Lf.r r0, Lf.i i1, Lf.i i2, Lf.r r3, Lf.s s4, Lf.i i5, Lf.s s6, Lf.i (IntKind.i64.wrap (i7 + (1 : Int)))] else none else bif decide ((parT s6.data.toList).snd.snd = (0 : Int)) then bif decide ((parT s6.data.toList).snd.fst = (0 : Int)) then bif decide (r3.length ≤ (9000000000000000000 : Nat)) then ret (vB (sameP i1 i2 r3 (parT s6.data.toList).fst.fst (parT s6.data.toList).fst.snd.fst (parT s6.data.toList).fst.snd.snd)) else none else ret (vB false) else ret (vB false) := by kernel_rfl

theorem lk10b_loop1 {u x : Int} {L : List (List D)} (n : List UInt8) (F : List (List UInt8)) (q : Nat) (hq : q ≤ F.length) (hF : F.length ≤ 100) (hFl : ∀ l ∈ F, l.length ≤ 84) (hnl : n.length ≤ 100) (hLl : L.length ≤ 140737488355328) (hfin : parT (joinL (F.take q ++ (35 :: 32 :: n) :: F.drop q)) = ((u, x, L), (0, 0))) : ∀ d i, i ≤ F.length + 1 → F.length + 1 - i = d →
    ∃ k, lk10b_f.H lk10b_e [] k 1 [.r (rowsT F), .i u, .i x, .r L, .s (tx n), .i (q : Int), .s (tx (joinL (gP F q n i))), .i ((i : Int))] = some ⟨vB true, []⟩ := by
  intro d
  induction d with
  | zero =>
    intro i hi hd
    obtain rfl : i = F.length + 1 := by omega
    refine ⟨1, ?_⟩
    rw [FnD.H_succ, lk10b_l1]
    try dsimp only
    rw [tx_toList, gP_end F q n hq, hfin]
    refine condF (by rw [rowsT_len]; omega) (condT rfl (condT rfl (condT (by omega) ?_)))
    rw [sameP_self]
  | succ d ih =>
    intro i hi hd
    have hi2 : i ≤ F.length := by omega
    obtain ⟨k, hk⟩ := ih (i + 1) (by omega) (by omega)
    refine ⟨k + 1, ?_⟩
    rw [FnD.H_succ, lk10b_l1]
    try dsimp only
    have hle : (i : Int) ≤ ((rowsT F).length : Int) := by rw [rowsT_len]; omega
    have hs := gP_size F q n i hFl hnl hF hi2
    rw [show IntKind.i64.wrap ((i : Int) + 1) = ((i + 1 : Nat) : Int) by rw [IntWalk.i64_in _ (by omega)]; omega]
    by_cases hlt : i < F.length
    · have hltI : (i : Int) < ((rowsT F).length : Int) := by rw [rowsT_len]; omega
      have hin : inB (i : Int) (rowsT F).length = true := (inB_iff _ _).2 (by rw [rowsT_len]; omega)
      have hfl : (F.getD i []).length ≤ 84 := hFl _ (by rw [List.getD_eq_getElem?_getD, List.getElem?_eq_getElem hlt]; exact List.getElem_mem hlt)
      rw [Int.toNat_natCast, rowsT_at hlt]
      simp only [D.toS, tx_append]
      by_cases he : i = q
      · subst he
        rw [gP_at F i n hq, if_pos hlt, joinL_app, joinL_app, joinL_one, joinL_one] at hk
        refine condT hle (condT rfl (condT ?_ (condT ?_ (condT ?_ (condT hltI (condB hin (condT (by rw [rowsT_len]; exact hlt) (condT ?_ (condT ?_ (condB (by simp) ?_))))))))))
        · rw [tx_size]; omega
        · rw [tx_size, tx_size, List.length_append]; simp; omega
        · rw [tx_size, List.length_append, List.length_append]; simp; omega
        · simp only [tx_size, List.length_append, List.length_cons, List.length_nil]; omega
        · simp only [tx_size, List.length_append, List.length_cons, List.length_nil]; omega
        · simpa using hk
      · rw [gP_ne F q n hlt he, joinL_app, joinL_one] at hk
        refine condT hle (condF (by omega) (condT hltI (condB hin (condT (by rw [rowsT_len]; exact hlt) (condT ?_ (condT ?_ (condB (by simp) ?_)))))))
        · rw [tx_size, tx_size]; omega
        · simp only [tx_size, List.length_append]; omega
        · simpa using hk
    · obtain rfl : i = F.length := by omega
      have hltI : ¬ (F.length : Int) < ((rowsT F).length : Int) := by rw [rowsT_len]; omega
      simp only [tx_append]
      by_cases he : F.length = q
      · subst he
        rw [gP_at F F.length n hq, if_neg hlt, List.append_nil, joinL_app, joinL_one] at hk
        refine condT hle (condT rfl (condT ?_ (condT ?_ (condT ?_ (condF hltI (condB (by simp) ?_))))))
        · rw [tx_size]; omega
        · rw [tx_size, tx_size, List.length_append]; simp; omega
        · rw [tx_size, List.length_append, List.length_append]; simp; omega
        · simpa using hk
      · rw [gP_last F q n (by omega)] at hk
        exact condT hle (condF (by omega) (condF hltI (condB (by simp) hk)))
theorem lk10b_loop0 (u x : Int) (L : List (List D)) (l : List UInt8) (hl : l.length ≤ 100) (a b : Int) (nx : (∀ c ∈ l, c ≠ 10) → ∃ k, lk10b_f.H lk10b_e [] k 0 [.i u, .i x, .r L, .s (tx l), .i a, .i b, .i (l.length : Int)] = some ⟨vB true, []⟩) : ∀ d i, i ≤ l.length → l.length - i = d → (∀ c ∈ l.take i, c ≠ 10) →
    ∃ k, lk10b_f.H lk10b_e [] k 0 [.i u, .i x, .r L, .s (tx l), .i a, .i b, .i (i : Int)] = some ⟨vB true, []⟩ := by
  intro d
  induction d with
  | zero =>
    intro i hi hd hc
    obtain rfl : i = l.length := by omega
    rw [List.take_length] at hc
    exact nx hc
  | succ d ih =>
    intro i hi hd hc
    have hlt : i < l.length := by omega
    have hin : inB (i : Int) (tx l).size = true := (inB_iff _ _).2 (by rw [tx_size]; omega)
    have hltI : (i : Int) < ((tx l).size : Int) := by rw [tx_size]; omega
    by_cases h10 : l.getD i 0 = 10
    · refine ⟨1, ?_⟩
      rw [FnD.H_succ, lk10b_l0]
      dsimp only
      rw [Int.toNat_natCast, bytesI_get, h10]
      exact condT hltI (condB hin (condT rfl rfl))
    · obtain ⟨k, hk⟩ := ih (i + 1) (by omega) (by omega) (fun c hcm => by
        rw [List.take_succ_eq_append_getElem hlt] at hcm
        rcases List.mem_append.1 hcm with hcm | hcm
        · exact hc c hcm
        · simp only [List.mem_cons, List.not_mem_nil, or_false] at hcm
          subst hcm
          rw [List.getD_eq_getElem?_getD, List.getElem?_eq_getElem hlt] at h10
          exact h10)
      refine ⟨k + 1, ?_⟩
      rw [FnD.H_succ, lk10b_l0]
      dsimp only
      rw [Int.toNat_natCast, bytesI_get, show IntKind.i64.wrap ((i : Int) + 1) = ((i + 1 : Nat) : Int) by rw [IntWalk.i64_in _ (by omega)]; omega]
      exact condT hltI (condB hin (condF (fun e => h10 (u8_nat.1 (show _ = (((10 : UInt8).toNat : Nat) : Int) from e))) hk))
theorem lk10b_run (u : Int) (x : Int) (P : List (Int × Int)) (s : ByteArray) (a : Int) (b : Int) (hp : (P.length ≤ 9223372036854775807 ∧ (0 ≤ a ∧ a < 256) ∧ 0 ≤ b ∧ b < 256) ∧ ¬ (2 < b.toNat % (P.length + 3) ∧ b.toNat % (P.length + 3) < P.length + 2)) : ∃ fu, lk10b_f.run lk10b_e [] fu [agg [.c (.int .i64 u), .c (.int .i64 x), .c (.rows [.int .i64, .int .i64] (P.map rowP))], vS s, c1 (.int .u8 a), c1 (.int .u8 b)] [] = some ⟨vB true, []⟩ := by
  obtain ⟨hp, hv⟩ := hp
  have hv : (chkP u x (P.map rowP)).2 = 0 → ¬ (2 < b.toNat % ((P.map rowP).length + 3) ∧ b.toNat % ((P.map rowP).length + 3) < (P.map rowP).length + 2) := fun _ => by rw [List.length_map]; exact hv
  obtain ⟨hP, ⟨ha0, ha1⟩, hb0, hb1⟩ := hp
  have hn := norm_pairs P
  have hLl : (P.map rowP).length = P.length := List.length_map _
  obtain ⟨L, hL0⟩ : ∃ L, L = P.map rowP := ⟨_, rfl⟩
  rw [← hL0] at hn hLl hv
  obtain ⟨l, rfl, hls⟩ := tx_get s
  obtain ⟨a, rfl⟩ := Int.eq_ofNat_of_zero_le ha0
  obtain ⟨b, rfl⟩ := Int.eq_ofNat_of_zero_le hb0
  by_cases h : (chkP u x L).2 = 0
  case neg =>
    refine ⟨0, ?_⟩
    rw [FnD.run, lk10b_ent, ← hL0]
    exact condB (by rw [decide_eq_false h]; rfl) rfl
  by_cases hl : l.length ≤ 100
  case neg =>
    refine ⟨0, ?_⟩
    rw [FnD.run, lk10b_ent, ← hL0]
    exact condN (by rw [decide_eq_true h]; rfl) (condT (by rw [tx_size]; omega) rfl)
  have key := lk10b_loop0 u x L l hl a b (fun h10 => ?_) _ 0 (Nat.zero_le _) rfl (fun c hc => by simp at hc)
  · obtain ⟨k, hk⟩ := key
    refine ⟨k, ?_⟩
    rw [FnD.run, lk10b_ent, ← hL0]
    exact condN (by rw [decide_eq_true h]; rfl) (condF (by rw [tx_size]; omega) hk)
  · obtain ⟨hL, hu, hx, hg⟩ := chkP_ok h
    have h64 := goodTo_len hg (Nat.le_refl _)
    have hfl := file_len u x L (wordsN (bytN (dgL u x L)))
    have hsz := file_size (w := wordsN (bytN (dgL u x L))) h (wordsN_len _)
    have hT : (prnL u x L).length ≤ 6000 := hsz
    have hrl : (rowsT (fileL u x L (wordsN (bytN (dgL u x L))))).length = L.length + 3 := by rw [rowsT_len, hfl]
    have hb : b < 256 := by omega
    have ha : a < 256 := by omega
    have ek : (IntKind.i64.wrap (b : Int)).tmod ((L.length + 3 : Nat) : Int) = ((b % (L.length + 3) : Nat) : Int) := by
      rw [IntWalk.i64_in _ (by omega)]; rfl
    have hv := hv h
    simp only [Int.toNat_natCast] at hv
    generalize hkd : b % (L.length + 3) = k at ek hv
    have hk : k < L.length + 3 := by rw [← hkd]; exact Nat.mod_lt _ (by omega)
    have hturn : (turnF (fileL u x L (wordsN (bytN (dgL u x L)))) k).length = L.length + 3 := (turn_len (by omega)).trans hfl
    have hfin := notes_parse h hn hk (i := a % (L.length + 4)) h10 hl
    have e1 : IntKind.i64.wrap ((k : Int) + 1) = ((k + 1 : Nat) : Int) := by rw [IntWalk.i64_in _ (by omega)]; omega
    have e2 : IntKind.i64.wrap (((L.length + 3 : Nat) : Int) - 1) = ((L.length + 2 : Nat) : Int) := by rw [IntWalk.i64_in _ (by omega)]; omega
    have e3 : IntKind.i64.wrap (((L.length + 3 : Nat) : Int) + 1) = ((L.length + 4 : Nat) : Int) := by rw [IntWalk.i64_in _ (by omega)]; omega
    have ea : IntKind.i64.wrap (a : Int) = (a : Int) := IntWalk.i64_in _ (by omega)
    have eN4 : ((a : Int)).tmod ((L.length + 4 : Nat) : Int) = ((a % (L.length + 4) : Nat) : Int) := rfl
    have ham : a % (L.length + 4) < L.length + 4 := Nat.mod_lt _ (by omega)
    have p0 : piece (rowsT (fileL u x L (wordsN (bytN (dgL u x L))))) 0 (k : Int) = (rowsT (fileL u x L (wordsN (bytN (dgL u x L))))).take k := by
      unfold piece; simp
    have p1 : piece (rowsT (fileL u x L (wordsN (bytN (dgL u x L))))) ((k + 1 : Nat) : Int) ((L.length + 3 : Nat) : Int) = (rowsT (fileL u x L (wordsN (bytN (dgL u x L))))).drop (k + 1) := by
      unfold piece
      rw [Int.toNat_natCast, Int.toNat_natCast, List.take_of_length_le (by rw [List.length_drop, hrl]; exact Nat.le_refl _)]
    have hl1 : ((rowsT (fileL u x L (wordsN (bytN (dgL u x L))))).take k).length = k := by rw [List.length_take, hrl]; omega
    have hl2 : ((rowsT (fileL u x L (wordsN (bytN (dgL u x L))))).drop (k + 1)).length = L.length + 3 - (k + 1) := by rw [List.length_drop, hrl]
    have hrow : rowsT (turnF (fileL u x L (wordsN (bytN (dgL u x L)))) k) = [[D.s (tx ((fileL u x L (wordsN (bytN (dgL u x L)))).getD k []))]] ++ ((rowsT (fileL u x L (wordsN (bytN (dgL u x L))))).take k ++ (rowsT (fileL u x L (wordsN (bytN (dgL u x L))))).drop (k + 1)) := by
      unfold turnF rowsT
      rw [if_neg (by rw [hfl]; omega)]
      simp
    obtain ⟨m, hm⟩ := lk10b_loop1 (u := u) (x := x) (L := L) l (turnF (fileL u x L (wordsN (bytN (dgL u x L)))) k) (a % (L.length + 4)) (by rw [hturn]; omega) (by rw [hturn]; omega) (fun y hy => file_each h (wordsN_len _) y (turn_mem (by omega) y hy)) hl (by omega) hfin _ 0 (by omega) rfl
    refine ⟨m + 1, ?_⟩
    rw [FnD.H_succ, lk10b_l0]
    dsimp only
    rw [tx_toList, prn_lines]
    show (bif decide ((l.length : Int) < ((tx l).size : Int)) then _ else _) = _
    change _ = _ at hrl
    simp only [show ((fileL u x L (wordsN (bytN (dgL u x L)))).map fun l => [D.s (tx l)]) = rowsT (fileL u x L (wordsN (bytN (dgL u x L)))) from rfl, hrl]
    rw [ek, e1, e2, e3, ea]
    simp only [Int.toNat_natCast]
    rw [rowsT_at (by omega)]
    simp only [D.toS]
    rw [p0, p1]
    simp only [hl1, hl2, Nat.zero_add]
    have et : List.take (k + (L.length + 3 - (k + 1))) (List.take k (List.take k (rowsT (fileL u x L (wordsN (bytN (dgL u x L)))))) ++ List.drop (k + 1) (rowsT (fileL u x L (wordsN (bytN (dgL u x L)))))) = (rowsT (fileL u x L (wordsN (bytN (dgL u x L))))).take k ++ (rowsT (fileL u x L (wordsN (bytN (dgL u x L))))).drop (k + 1) := by
      rw [List.take_take, Nat.min_self, List.take_of_length_le (by rw [List.length_append, hl1, hl2]; exact Nat.le_refl _)]
    rw [et, ← hrow]
    have hlen14 : (rowsT (turnF (fileL u x L (wordsN (bytN (dgL u x L)))) k)).length = L.length + 3 := by rw [rowsT_len, hturn]
    have hsum : 1 + (k + (L.length + 3 - (k + 1))) = L.length + 3 := by omega
    simp only [hsum, hlen14, e3]
    have eL : IntKind.i64.wrap (((L.length + 3 : Nat) : Int) + 1) = ((L.length + 4 : Nat) : Int) := by rw [IntWalk.i64_in _ (by omega)]; omega
    have room : ∀ m, m ≤ 1000 → roomB m 16 = true := fun m hm => by unfold roomB; rw [Bool.and_eq_true, decide_eq_true_eq, decide_eq_true_eq]; constructor <;> omega
    have hnz : (!decide (((L.length + 4 : Nat) : Int) = 0)) = true := by rw [decide_eq_false (by omega)]; rfl
    refine condF (by rw [tx_size]; omega) (condT h (condT (by rw [tx_size]; omega) (condB (by rw [decide_eq_false (by omega)]; rfl) (condB ((inB_iff _ _).2 (by omega)) (condB (by unfold slB; simp; omega) (condB (room _ (by omega)) (condB (by unfold slB; simp; omega) (condB (by rw [room _ (by omega)]; simp) (condB ?_ ?_)))))))))
    · rw [room _ (by omega)]
      simp only [List.length_append, List.length_take, hrl, hl2, Bool.and_true, decide_eq_true_eq]
      omega
    · by_cases hk2 : 2 < k
      · exact condT (by omega) (condF (by omega) (condB hnz (condT trivial (by rw [eN4]; exact hm))))
      · exact condF (by omega) (condB hnz (condT trivial (by rw [eN4]; exact hm)))
theorem lk10b_ok (u : Int) (x : Int) (P : List (Int × Int)) (s : ByteArray) (a : Int) (b : Int) (hp : (P.length ≤ 9223372036854775807 ∧ (0 ≤ a ∧ a < 256) ∧ 0 ≤ b ∧ b < 256) ∧ ¬ (2 < b.toNat % (P.length + 3) ∧ b.toNat % (P.length + 3) < P.length + 2)) : FnOk cfg 10 ([agg [.c (.int .i64 u), .c (.int .i64 x), .c (.rows [.int .i64, .int .i64] (P.map rowP))], vS s, c1 (.int .u8 a), c1 (.int .u8 b)].map SV.den) (vB true : SV).den := by
  obtain ⟨nn, h⟩ := lk10b_run u x P s a b hp
  exact FnD.ok lk10b_g lk10b_f mixed Tryz.func10 rfl rfl rfl rfl rfl rfl h
theorem lk10_ok (u x : Int) (P : List (Int × Int)) (s : ByteArray) (a b : Int) (hp : P.length ≤ 9223372036854775807 ∧ (0 ≤ a ∧ a < 256) ∧ 0 ≤ b ∧ b < 256) : FnOk cfg 10 ([agg [.c (.int .i64 u), .c (.int .i64 x), .c (.rows [.int .i64, .int .i64] (P.map rowP))], vS s, c1 (.int .u8 a), c1 (.int .u8 b)].map SV.den) (vB true : SV).den := by
  by_cases h : (2 < b.toNat % (P.length + 3) ∧ b.toNat % (P.length + 3) < P.length + 2)
  · exact lk10a_ok u x P s a b ⟨hp, h⟩
  · exact lk10b_ok u x P s a b ⟨hp, h⟩
end Go.Proofs.YtldofkogmkfpjaaGreatDoor
