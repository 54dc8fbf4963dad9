/-
  The contracts of layer 11's statements: ListPrints, ListTurned, ListTwice.
-/
import Derived.Test.YtldofkogmkfpjaaGreatDoorWLzSyR10
import Derived.Test.YtldofkogmkfpjaaGreatDoorWLzSyLawC
import Derived.Test.YtldofkogmkfpjaaGreatDoorWPListTurn
namespace Go.Proofs.YtldofkogmkfpjaaGreatDoor
open Go Go.Ev Go.Sy
set_option linter.unusedSimpArgs false
set_option linter.unusedVariables false
set_option maxRecDepth 10000
set_option maxHeartbeats 4000000
open Go.Sy.Sh
/-! ### epactlaw11.ListPrints -/
noncomputable def lk7_e : Ev' := ⟨Tryz.prog, glob, Γof [(26, c_lprn), (24, c_rtab), (27, c_ldg), (28, c_lprs), (29, c_rdgs), (30, c_rpnt), (31, c_rsame), (25, c_lans)]⟩
theorem lk7_g : Gd cfg lk7_e := gd (env_cons c_lprn_ok (env_cons c_rtab_ok (env_cons c_ldg_ok (env_cons c_lprs_ok (env_cons c_rdgs_ok (env_cons c_rpnt_ok (env_cons c_rsame_ok (env_cons c_lans_ok (env_nil _)))))))))
noncomputable def lk7_f : FnD := ⟨7, Tryz.f7, noSh, Tryz.f7.resultTypes.toList, 0⟩
theorem lk7_ent (h : Hd) (u : Int) (x : Int) (P : List (Int × Int)) : lk7_f.ent lk7_e [] h [agg [.c (.int .i64 u), .c (.int .i64 x), .c (.rows [.int .i64, .int .i64] (P.map rowP))]] [] = let v1 : Int := (parT (tx (prnP u x (List.map rowP P))).data.toList).snd.snd; let v2 : Int := (parT (tx (prnP u x (List.map rowP P))).data.toList).snd.fst; bif !decide ((chkP u x (List.map rowP P)).snd = (0 : Int)) then bif eqB (tx (prnP u x (List.map rowP P))) (tx []) then ret (vB (eqB (tx (dgP u x (List.map rowP P))) (tx []))) else ret (vB false) else bif decide (((0 : Int) ≤ u ∧ u < (9223372036854775808 : Int)) ∧ ((0 : Int) ≤ x ∧ x < (9223372036854775808 : Int)) ∧ goodTo (List.map rowP P) (List.map rowP P).length) then bif eqB (tx (dgP u x (List.map rowP P))) (tx (dgL u x (List.map rowP P))) then bif decide ((chkP u x (List.map rowP P)).snd = (0 : Int)) then bif eqB (tx (prnP u x (List.map rowP P))) (tx (prnL u x (List.map rowP P))) then bif decide (v1 = (0 : Int)) then bif decide (v2 = (0 : Int)) then bif decide ((List.map rowP P).length ≤ (9000000000000000000 : Nat)) then ret (vB (sameP u x (List.map rowP P) (parT (tx (prnP u x (List.map rowP P))).data.toList).fst.fst (parT (tx (prnP u x (List.map rowP P))).data.toList).fst.snd.fst (parT (tx (prnP u x (List.map rowP P))).data.toList).fst.snd.snd)) else none else ret (vB false) else ret (vB false) else ret (vB false) else none else ret (vB false) else none := by kernel_rfl
theorem lk7_run (u : Int) (x : Int) (P : List (Int × Int)) (hp : P.length ≤ 9223372036854775807) : ∃ fu, lk7_f.run lk7_e [] fu [agg [.c (.int .i64 u), .c (.int .i64 x), .c (.rows [.int .i64, .int .i64] (P.map rowP))]] [] = some ⟨vB true, []⟩ := by
  refine ⟨0, ?_⟩
  rw [FnD.run, lk7_ent]
  have hn := norm_pairs P
  have hl : (P.map rowP).length = P.length := List.length_map _
  generalize P.map rowP = L at hn hl ⊢
  try dsimp only
  by_cases h : (chkP u x L).2 = 0
  · obtain ⟨hL, hu, hx, hg⟩ := chkP_ok h
    have h64 := goodTo_len hg (Nat.le_refl _)
    have e1 : prnP u x L = prnL u x L := if_pos h
    have e2 : dgP u x L = dgL u x L := if_pos h
    rw [e1, e2, tx_toList, parT_prn h hn]
    refine condN (by rw [decide_eq_true h]; rfl) (condT ⟨by omega, by omega, hg⟩ (condB (eqB_self _) (condT h (condB (eqB_self _) (condT rfl (condT rfl (condT (by omega) ?_)))))))
    rw [sameP_self]
  · have e1 : prnP u x L = [] := if_neg h
    have e2 : dgP u x L = [] := if_neg h
    rw [e1, e2]
    refine condB (by rw [decide_eq_false h]; rfl) (condB (eqB_self _) ?_)
    rw [eqB_self]
theorem lk7_ok (u : Int) (x : Int) (P : List (Int × Int)) (hp : P.length ≤ 9223372036854775807) : FnOk cfg 7 ([agg [.c (.int .i64 u), .c (.int .i64 x), .c (.rows [.int .i64, .int .i64] (P.map rowP))]].map SV.den) (vB true : SV).den := by
  obtain ⟨nn, h⟩ := lk7_run u x P hp
  exact FnD.ok lk7_g lk7_f mixed Tryz.func7 rfl rfl rfl rfl rfl rfl h
/-! ### epactlaw11.ListTurned -/
noncomputable def lk9_e : Ev' := ⟨Tryz.prog, glob, Γof [(24, c_rtab), (30, c_rpnt), (28, c_lprs), (31, c_rsame), (25, c_lans)]⟩
theorem lk9_g : Gd cfg lk9_e := gd (env_cons c_rtab_ok (env_cons c_rpnt_ok (env_cons c_lprs_ok (env_cons c_rsame_ok (env_cons c_lans_ok (env_nil _))))))
noncomputable def lk9_f : FnD := ⟨9, Tryz.f9, noSh, Tryz.f9.resultTypes.toList, 0⟩
theorem lk9_ent (h : Hd) (u : Int) (x : Int) (P : List (Int × Int)) (a : Int) : lk9_f.ent lk9_e [] h [agg [.c (.int .i64 u), .c (.int .i64 x), .c (.rows [.int .i64, .int .i64] (P.map rowP))], c1 (.int .u8 a)] [] = let v1 : Int := IntKind.i64.wrap ((↑(tx (prnL u x (List.map rowP P))).size : Int) - IntKind.i64.wrap (IntKind.i64.wrap (IntKind.i64.wrap (IntKind.i64.wrap (a.tmod (5 : Int)) * (9 : Int)) + IntKind.i64.wrap ((IntKind.u8.wrap (a.tdiv (5 : Int))).tmod (8 : Int))) + (2 : Int))); let v2 : Nat := v1.toNat; let v3 : Int := (bytesI (tx (prnL u x (List.map rowP P)))).getD v2 (0 : Int); let v4 : List Int := (bytesI (tx (prnL u x (List.map rowP P)))).set v2 (102 : Int); let v5 : Nat := v4.length; let v6 : Int := (parT (textOf (List.take (tx (prnL u x (List.map rowP P))).size v4)).data.toList).snd.snd; let v7 : Int := (parT (textOf (List.take (tx (prnL u x (List.map rowP P))).size v4)).data.toList).snd.fst; let v8 : Int := IntKind.i64.wrap ((↑(List.map rowP P).length : Int) + (3 : Int)); let v9 : List (List D) := (parT (textOf (List.take (tx (prnL u x (List.map rowP P))).size v4)).data.toList).fst.snd.snd; let v10 : Nat := v9.length; let v11 : List Int := (bytesI (tx (prnL u x (List.map rowP P)))).set v2 (48 : Int); let v12 : Nat := v11.length; let v13 : Int := (parT (textOf (List.take (tx (prnL u x (List.map rowP P))).size v11)).data.toList).snd.snd; let v14 : Int := (parT (textOf (List.take (tx (prnL u x (List.map rowP P))).size v11)).data.toList).snd.fst; let v15 : List (List D) := (parT (textOf (List.take (tx (prnL u x (List.map rowP P))).size v11)).data.toList).fst.snd.snd; let v16 : Nat := v15.length; bif !decide ((chkP u x (List.map rowP P)).snd = (0 : Int)) then ret (vB true) else bif decide ((chkP u x (List.map rowP P)).snd = (0 : Int)) then bif inB v1 (tx (prnL u x (List.map rowP P))).size then bif decide (v2 < (bytesI (tx (prnL u x (List.map rowP P)))).length) then bif decide (v3 = (48 : Int)) then bif inB v1 (tx (prnL u x (List.map rowP P))).size then bif decide (v2 < (bytesI (tx (prnL u x (List.map rowP P)))).length) then bif decide ((tx (prnL u x (List.map rowP P))).size ≤ v5) then bif decide (v6 = (11 : Int)) then bif decide (v7 = v8) then bif decide (v10 ≤ (9000000000000000000 : Nat)) then ret (vB (sameP (parT (textOf (List.take (tx (prnL u x (List.map rowP P))).size v4)).data.toList).fst.fst (parT (textOf (List.take (tx (prnL u x (List.map rowP P))).size v4)).data.toList).fst.snd.fst v9 (0 : Int) (0 : Int) [])) else none else ret (vB false) else ret (vB false) else none else none else none else bif inB v1 (tx (prnL u x (List.map rowP P))).size then bif decide (v2 < (bytesI (tx (prnL u x (List.map rowP P)))).length) then bif decide ((tx (prnL u x (List.map rowP P))).size ≤ v12) then bif decide (v13 = (11 : Int)) then bif decide (v14 = v8) then bif decide (v16 ≤ (9000000000000000000 : Nat)) then ret (vB (sameP (parT (textOf (List.take (tx (prnL u x (List.map rowP P))).size v11)).data.toList).fst.fst (parT (textOf (List.take (tx (prnL u x (List.map rowP P))).size v11)).data.toList).fst.snd.fst v15 (0 : Int) (0 : Int) [])) else none else ret (vB false) else ret (vB false) else none else none else none else none else none else none := by kernel_rfl
theorem lk9_run (u : Int) (x : Int) (P : List (Int × Int)) (a : Int) (hp : P.length ≤ 9223372036854775807 ∧ 0 ≤ a ∧ a < 256) : ∃ fu, lk9_f.run lk9_e [] fu [agg [.c (.int .i64 u), .c (.int .i64 x), .c (.rows [.int .i64, .int .i64] (P.map rowP))], c1 (.int .u8 a)] [] = some ⟨vB true, []⟩ := by
  refine ⟨0, ?_⟩
  rw [FnD.run, lk9_ent]
  obtain ⟨hP, ha0, ha1⟩ := hp
  have hn := norm_pairs P
  have hl : (P.map rowP).length = P.length := List.length_map _
  generalize P.map rowP = L at hn hl ⊢
  try dsimp only
  by_cases h : (chkP u x L).2 = 0
  case neg => exact condB (by rw [decide_eq_false h]; rfl) rfl
  have h64 := goodTo_len (chkP_ok h).2.2.2 (Nat.le_refl _)
  obtain ⟨n, rfl⟩ := Int.eq_ofNat_of_zero_le ha0
  have hn256 : n < 256 := by omega
  obtain ⟨t1, t2⟩ := turned_parse h hn (q := n % 5) (j := n / 5 % 8) (by omega) (by omega)
  have hsz := file_size (w := wordsN (bytN (dgL u x L))) h (wordsN_len _)
  have hT : (prnL u x L).length ≤ 6000 := hsz
  have eq1 : IntKind.i64.wrap (((n : Int)).tmod 5) = ((n % 5 : Nat) : Int) := by
    rw [show ((n : Int)).tmod 5 = ((n % 5 : Nat) : Int) from rfl, IntWalk.i64_in _ (by omega)]
  have eq2 : IntKind.i64.wrap ((IntKind.u8.wrap (((n : Int)).tdiv 5)).tmod 8) = ((n / 5 % 8 : Nat) : Int) := by
    rw [show ((n : Int)).tdiv 5 = ((n / 5 : Nat) : Int) from rfl, wrap_u8, Nat.mod_eq_of_lt (by omega), show (((n / 5 : Nat) : Int)).tmod 8 = ((n / 5 % 8 : Nat) : Int) from rfl, IntWalk.i64_in _ (by omega)]
  generalize hq : n % 5 = q at t1 t2 eq1
  generalize hj : n / 5 % 8 = j at t1 t2 eq2
  have hq5 : q < 5 := by omega
  have hj8 : j < 8 := by omega
  have ev : IntKind.i64.wrap (((tx (prnL u x L)).size : Int) - IntKind.i64.wrap (IntKind.i64.wrap (IntKind.i64.wrap (IntKind.i64.wrap (((n : Int)).tmod 5) * 9) + IntKind.i64.wrap ((IntKind.u8.wrap (((n : Int)).tdiv 5)).tmod 8)) + 2)) = (((prnL u x L).length - (q * 9 + j + 2) : Nat) : Int) := by
    rw [eq1, eq2, tx_size]
    rw [IntWalk.i64_in ((q : Int) * 9) (by omega), IntWalk.i64_in ((q : Int) * 9 + (j : Int)) (by omega), IntWalk.i64_in ((q : Int) * 9 + (j : Int) + 2) (by omega), IntWalk.i64_in _ (by omega)]
    omega
  rw [ev, Int.toNat_natCast, bytesI_get]
  generalize hp : (prnL u x L).length - (q * 9 + j + 2) = p at t2
  have hpl : p < (prnL u x L).length := by omega
  have el : IntKind.i64.wrap ((L.length : Int) + 3) = (L.length : Int) + 3 := IntWalk.i64_in _ (by omega)
  have etx : ∀ c : UInt8, textOf (List.take (tx (prnL u x L)).size ((bytesI (tx (prnL u x L))).set p (c.toNat : Int))) = tx ((prnL u x L).set p c) := fun c => by
    rw [bytesI_set, tx_size, List.take_of_length_le (by rw [bytesI_len, List.length_set]; exact Nat.le_refl _), textOf_bytesI]
  have e102 := etx 102
  have e48 := etx 48
  rw [show (((102 : UInt8).toNat : Nat) : Int) = 102 from rfl] at e102
  rw [show (((48 : UInt8).toNat : Nat) : Int) = 48 from rfl] at e48
  rw [e102, e48, tx_toList, tx_toList, el]
  have hin : inB (p : Int) (tx (prnL u x L)).size = true := (inB_iff _ _).2 (by rw [tx_size]; omega)
  have hpb : p < (bytesI (tx (prnL u x L))).length := by rw [bytesI_len]; exact hpl
  refine condN (by rw [decide_eq_true h]; rfl) (condT h (condB hin (condT hpb ?_)))
  by_cases h48 : (prnL u x L).getD p 0 = 48
  · rw [if_pos h48] at t2
    rw [t2]
    refine condT (by rw [h48]; rfl) (condB hin (condT hpb (condT ?_ (condT rfl (condT rfl (condT (by simp) rfl))))))
    rw [List.length_set, bytesI_len, tx_size]; exact Nat.le_refl _
  · rw [if_neg h48] at t2
    rw [t2]
    refine condF (fun e => h48 (u8_nat.1 (show _ = (((48 : UInt8).toNat : Nat) : Int) from e))) (condB hin (condT hpb (condT ?_ (condT rfl (condT rfl (condT (by simp) rfl))))))
    rw [List.length_set, bytesI_len, tx_size]; exact Nat.le_refl _
theorem lk9_ok (u : Int) (x : Int) (P : List (Int × Int)) (a : Int) (hp : P.length ≤ 9223372036854775807 ∧ 0 ≤ a ∧ a < 256) : FnOk cfg 9 ([agg [.c (.int .i64 u), .c (.int .i64 x), .c (.rows [.int .i64, .int .i64] (P.map rowP))], c1 (.int .u8 a)].map SV.den) (vB true : SV).den := by
  obtain ⟨nn, h⟩ := lk9_run u x P a hp
  exact FnD.ok lk9_g lk9_f mixed Tryz.func9 rfl rfl rfl rfl rfl rfl h
/-! ### epactlaw11.ListTwice -/
noncomputable def lk11_e : Ev' := ⟨Tryz.prog, glob, Γof [(24, c_rtab), (33, c_rlines), (30, c_rpnt), (28, c_lprs), (31, c_rsame), (25, c_lans)]⟩
theorem lk11_g : Gd cfg lk11_e := gd (env_cons c_rtab_ok (env_cons c_rlines_ok (env_cons c_rpnt_ok (env_cons c_lprs_ok (env_cons c_rsame_ok (env_cons c_lans_ok (env_nil _)))))))
noncomputable def lk11_f : FnD := ⟨11, Tryz.f11, noSh, Tryz.f11.resultTypes.toList, 0⟩
theorem lk11_ent (h : Hd) (u : Int) (x : Int) (P : List (Int × Int)) (a : Int) : lk11_f.ent lk11_e [] h [agg [.c (.int .i64 u), .c (.int .i64 x), .c (.rows [.int .i64, .int .i64] (P.map rowP))], c1 (.int .u8 a)] [] = let v1 : Nat := (List.map (fun l => [D.s (tx l)]) (linesP (tx (prnL u x (List.map rowP P))).data.toList)).length; let v2 : Int := IntKind.i64.wrap ((↑v1 : Int) - (1 : Int)); let v3 : ByteArray := (([[D.s (((List.map (fun l => [D.s (tx l)]) (linesP (tx (prnL u x (List.map rowP P))).data.toList)).getD (0 : Nat) []).getD (0 : Nat) (D.i (0 : Int))).toS], [D.s (((List.map (fun l => [D.s (tx l)]) (linesP (tx (prnL u x (List.map rowP P))).data.toList)).getD (1 : Nat) []).getD (0 : Nat) (D.i (0 : Int))).toS], [D.s (((List.map (fun l => [D.s (tx l)]) (linesP (tx (prnL u x (List.map rowP P))).data.toList)).getD v2.toNat []).getD (0 : Nat) (D.i (0 : Int))).toS]].getD (a.tmod (3 : Int)).toNat []).getD (0 : Nat) (D.i (0 : Int))).toS; let v4 : Nat := (tx (prnL u x (List.map rowP P))).size + v3.size; let v5 : ByteArray := tx (prnL u x (List.map rowP P)) ++ v3; let v6 : Nat := v5.size + (1 : Nat); let v7 : Int := (parT (v5 ++ (tx [(10 : UInt8)])).data.toList).snd.snd; let v8 : Int := (parT (v5 ++ (tx [(10 : UInt8)])).data.toList).snd.fst; let v9 : Int := IntKind.i64.wrap ((↑v1 : Int) + (1 : Int)); let v10 : List (List D) := (parT (v5 ++ (tx [(10 : UInt8)])).data.toList).fst.snd.snd; let v11 : Nat := v10.length; bif !decide ((chkP u x (List.map rowP P)).snd = (0 : Int)) then ret (vB true) else bif decide ((chkP u x (List.map rowP P)).snd = (0 : Int)) then bif decide ((tx (prnL u x (List.map rowP P))).size ≤ (1000000000 : Nat)) then bif inB (0 : Int) v1 then bif inB (1 : Int) v1 then bif inB v2 v1 then bif inB (a.tmod (3 : Int)) (3 : Nat) then bif decide ((a.tmod (3 : Int)).toNat < (3 : Nat)) then bif decide ((chkP u x (List.map rowP P)).snd = (0 : Int)) then bif decide (v4 ≤ (9223372036854775807 : Nat)) then bif decide (v6 ≤ (9223372036854775807 : Nat)) then bif decide (v7 = (4 : Int)) then bif decide (v8 = v9) then bif decide (v11 ≤ (9000000000000000000 : Nat)) then ret (vB (sameP (parT (v5 ++ (tx [(10 : UInt8)])).data.toList).fst.fst (parT (v5 ++ (tx [(10 : UInt8)])).data.toList).fst.snd.fst v10 (0 : Int) (0 : Int) [])) else none else ret (vB false) else ret (vB false) else none else none else none else none else none else none else none else none else none else none := by kernel_rfl
theorem lk11_run (u : Int) (x : Int) (P : List (Int × Int)) (a : Int) (hp : P.length ≤ 9223372036854775807 ∧ 0 ≤ a ∧ a < 256) : ∃ fu, lk11_f.run lk11_e [] fu [agg [.c (.int .i64 u), .c (.int .i64 x), .c (.rows [.int .i64, .int .i64] (P.map rowP))], c1 (.int .u8 a)] [] = some ⟨vB true, []⟩ := by
  refine ⟨0, ?_⟩
  rw [FnD.run, lk11_ent]
  obtain ⟨hP, ha0, ha1⟩ := hp
  have hn := norm_pairs P
  have hl : (P.map rowP).length = P.length := List.length_map _
  generalize P.map rowP = L at hn hl ⊢
  try dsimp only
  by_cases h : (chkP u x L).2 = 0
  case neg => exact condB (by rw [decide_eq_false h]; rfl) rfl
  obtain ⟨hL, hu, hx, hg⟩ := chkP_ok h
  have h64 := goodTo_len hg (Nat.le_refl _)
  obtain ⟨n, rfl⟩ := Int.eq_ofNat_of_zero_le ha0
  have hsz := file_size (w := wordsN (bytN (dgL u x L))) h (wordsN_len _)
  have hT : (prnL u x L).length ≤ 6000 := hsz
  rw [tx_toList, prn_lines]
  have hfl := file_len u x L (wordsN (bytN (dgL u x L)))
  show (bif !decide ((chkP u x L).2 = 0) then _ else _) = _
  have hrl : ((fileL u x L (wordsN (bytN (dgL u x L)))).map fun l => [D.s (tx l)]).length = L.length + 3 := by rw [List.length_map, hfl]
  have hat : ∀ i, i < L.length + 3 → (((fileL u x L (wordsN (bytN (dgL u x L)))).map fun l => [D.s (tx l)]).getD i []).getD 0 (D.i 0) = D.s (tx ((fileL u x L (wordsN (bytN (dgL u x L)))).getD i [])) := fun i hi => rowsT_at (ls := fileL u x L (wordsN (bytN (dgL u x L)))) (by omega)
  rw [hrl]
  have ei : IntKind.i64.wrap (((L.length + 3 : Nat) : Int) - 1) = ((L.length + 2 : Nat) : Int) := by rw [IntWalk.i64_in _ (by omega)]; omega
  have ej : IntKind.i64.wrap (((L.length + 3 : Nat) : Int) + 1) = (L.length : Int) + 4 := by rw [IntWalk.i64_in _ (by omega)]; omega
  have em : ((n : Int)).tmod 3 = ((n % 3 : Nat) : Int) := rfl
  have h0 : (fileL u x L (wordsN (bytN (dgL u x L)))).getD 0 [] = lnU u := rfl
  have h1 : (fileL u x L (wordsN (bytN (dgL u x L)))).getD 1 [] = lnX x := rfl
  have h2 : (fileL u x L (wordsN (bytN (dgL u x L)))).getD (L.length + 2) [] = lnH (wordsN (bytN (dgL u x L))) := by
    unfold fileL
    simp only [List.getD_eq_getElem?_getD]
    rw [List.getElem?_append_right (by simp), List.getElem?_append_right (by simp)]
    simp
  rw [ei, ej, em, Int.toNat_natCast, Int.toNat_natCast, hat 0 (by omega), hat 1 (by omega), hat (L.length + 2) (by omega), h0, h1, h2]
  have hm : ∃ l, (l = lnU u ∨ l = lnX x ∨ l = lnH (wordsN (bytN (dgL u x L)))) ∧ (([[D.s (D.s (tx (lnU u))).toS], [D.s (D.s (tx (lnX x))).toS], [D.s (D.s (tx (lnH (wordsN (bytN (dgL u x L)))))).toS]].getD (n % 3) []).getD 0 (D.i 0)).toS = tx l := by
    have hn3 : n % 3 < 3 := Nat.mod_lt _ (by decide)
    match n % 3, hn3 with
    | 0, _ => exact ⟨_, .inl rfl, rfl⟩
    | 1, _ => exact ⟨_, .inr (.inl rfl), rfl⟩
    | 2, _ => exact ⟨_, .inr (.inr rfl), rfl⟩
  obtain ⟨l, hl3, hm⟩ := hm
  have hll : l.length ≤ 84 := file_each h (wordsN_len (bytN (dgL u x L))) l (by unfold fileL; rcases hl3 with rfl | rfl | rfl <;> simp)
  rw [hm, tx_append, tx_append, tx_toList, twice_parse h hn hl3]
  refine condN (by rw [decide_eq_true h]; rfl) (condT h (condT (by rw [tx_size]; omega) (condB ((inB_iff _ _).2 (by omega)) (condB ((inB_iff _ _).2 (by omega)) (condB ((inB_iff _ _).2 (by omega)) (condB ((inB_iff _ _).2 (by omega)) (condT (by omega) (condT h (condT ?_ (condT ?_ (condT rfl (condT rfl (condT (by simp) rfl)))))))))))))
  · rw [tx_size, tx_size]; omega
  · rw [tx_size, List.length_append]; omega
theorem lk11_ok (u : Int) (x : Int) (P : List (Int × Int)) (a : Int) (hp : P.length ≤ 9223372036854775807 ∧ 0 ≤ a ∧ a < 256) : FnOk cfg 11 ([agg [.c (.int .i64 u), .c (.int .i64 x), .c (.rows [.int .i64, .int .i64] (P.map rowP))], c1 (.int .u8 a)].map SV.den) (vB true : SV).den := by
  obtain ⟨nn, h⟩ := lk11_run u x P a hp
  exact FnD.ok lk11_g lk11_f mixed Tryz.func11 rfl rfl rfl rfl rfl rfl h
end Go.Proofs.YtldofkogmkfpjaaGreatDoor
