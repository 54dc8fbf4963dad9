/-
  The contracts of layer 25 (iso): shape, Parse.
-/
import Derived.Test.YtldofkogmkfpjaaGreatDoorIzSyIso
namespace Go.Proofs.YtldofkogmkfpjaaGreatDoor
open Go Go.Ev Go.Sy
set_option linter.unusedSimpArgs false
set_option linter.unusedVariables false
set_option maxRecDepth 10000
set_option maxHeartbeats 4000000
/-! ### iso.shape -/
noncomputable def ishape_e : Ev' := ⟨Tryz.prog, glob, Γof [(100, c_cuts), (101, c_ixb), (102, c_iry), (103, c_itwo), (104, c_irf)]⟩
theorem ishape_g : Gd cfg ishape_e := gd (env_cons c_cuts_ok (env_cons c_ixb_ok (env_cons c_iry_ok (env_cons c_itwo_ok (env_cons c_irf_ok (env_nil _))))))
noncomputable def ishape_f : FnD := ⟨53, Tryz.f53, noSh, Tryz.f53.resultTypes.toList⟩
theorem ishape_ent (h : Hd) (s : ByteArray) : ishape_f.ent ishape_e [] h [vS s] [] = let v1 : Int := Lib.indexByte (tx (Lib.trimSuffix s.data.toList (tx [(90 : UInt8)]).data.toList)).data.toList (Nat.toUInt8 (84 : Nat)); let v2 : Int := IntKind.i64.wrap (v1 + (9 : Int)); let v3 : Int := IntKind.i64.wrap (v1 - (6 : Int)); let v4 : Nat := v3.toNat; let v5 : ByteArray := (tx (Lib.trimSuffix s.data.toList (tx [(90 : UInt8)]).data.toList)).extract (0 : Nat) v4; let v6 : Nat := v5.size; let v7 : Int := IntKind.i64.wrap (v1 - (5 : Int)); let v8 : ByteArray := (tx (Lib.trimSuffix s.data.toList (tx [(90 : UInt8)]).data.toList)).extract v7.toNat v1.toNat; let v9 : Nat := v8.size; let v10 : Int := IntKind.i64.wrap (v1 + (1 : Int)); let v11 : Nat := v2.toNat; let v12 : ByteArray := (tx (Lib.trimSuffix s.data.toList (tx [(90 : UInt8)]).data.toList)).extract v10.toNat v11; let v13 : Nat := v12.size; let v14 : ByteArray := (tx (Lib.trimSuffix s.data.toList (tx [(90 : UInt8)]).data.toList)).extract v11 (↑(tx (Lib.trimSuffix s.data.toList (tx [(90 : UInt8)]).data.toList)).size : Int).toNat; let v15 : Nat := v14.size; let v16 : List UInt8 := v5.data.toList; let v17 : List UInt8 := v8.data.toList; let v18 : List UInt8 := v12.data.toList; let v19 : List UInt8 := v14.data.toList; let v20 : Int := (bytesI (tx (Lib.trimSuffix s.data.toList (tx [(90 : UInt8)]).data.toList))).getD v4 (0 : Int); let v21 : List Int := twoL v17 (45 : Int); let v22 : Nat := v21.length; let v23 : List Int := twoL v18 (58 : Int); let v24 : Nat := v23.length; bif decide (s.size ≤ (9223372036854775807 : Nat)) then bif !Lib.hasSuffix s.data.toList (tx [(90 : UInt8)]).data.toList then ret (SV.tup [S1.agg [gI (0 : Int), gI (0 : Int), gI (0 : Int)], S1.agg [gI (0 : Int), gI (0 : Int), gI (0 : Int), gI (0 : Int)], S1.c (Cl.bool false)]) else bif decide (v1 < (7 : Int)) then ret (SV.tup [S1.agg [gI (0 : Int), gI (0 : Int), gI (0 : Int)], S1.agg [gI (0 : Int), gI (0 : Int), gI (0 : Int), gI (0 : Int)], S1.c (Cl.bool false)]) else bif decide ((↑(tx (Lib.trimSuffix s.data.toList (tx [(90 : UInt8)]).data.toList)).size : Int) < v2) then ret (SV.tup [S1.agg [gI (0 : Int), gI (0 : Int), gI (0 : Int)], S1.agg [gI (0 : Int), gI (0 : Int), gI (0 : Int), gI (0 : Int)], S1.c (Cl.bool false)]) else bif slB (0 : Int) v3 (tx (Lib.trimSuffix s.data.toList (tx [(90 : UInt8)]).data.toList)).size then bif decide (v6 ≤ (9223372036854775807 : Nat)) then bif slB v7 v1 (tx (Lib.trimSuffix s.data.toList (tx [(90 : UInt8)]).data.toList)).size then bif decide (v9 = (5 : Nat) ∨ v9 = (8 : Nat)) then bif slB v10 v2 (tx (Lib.trimSuffix s.data.toList (tx [(90 : UInt8)]).data.toList)).size then bif decide (v13 = (5 : Nat) ∨ v13 = (8 : Nat)) then bif slB v2 (↑(tx (Lib.trimSuffix s.data.toList (tx [(90 : UInt8)]).data.toList)).size : Int) (tx (Lib.trimSuffix s.data.toList (tx [(90 : UInt8)]).data.toList)).size then bif decide (v15 ≤ (9223372036854775807 : Nat)) then bif !ryOk v16 then ret (SV.tup [S1.agg [gI (0 : Int), gI (0 : Int), gI (0 : Int)], S1.agg [gI (0 : Int), gI (0 : Int), gI (0 : Int), gI (0 : Int)], S1.c (Cl.bool false)]) else bif !twoOk v17 (45 : Int) then ret (SV.tup [S1.agg [gI (0 : Int), gI (0 : Int), gI (0 : Int)], S1.agg [gI (0 : Int), gI (0 : Int), gI (0 : Int), gI (0 : Int)], S1.c (Cl.bool false)]) else bif !twoOk v18 (58 : Int) then ret (SV.tup [S1.agg [gI (0 : Int), gI (0 : Int), gI (0 : Int)], S1.agg [gI (0 : Int), gI (0 : Int), gI (0 : Int), gI (0 : Int)], S1.c (Cl.bool false)]) else bif !rfOk v19 then ret (SV.tup [S1.agg [gI (0 : Int), gI (0 : Int), gI (0 : Int)], S1.agg [gI (0 : Int), gI (0 : Int), gI (0 : Int), gI (0 : Int)], S1.c (Cl.bool false)]) else bif inB v3 (tx (Lib.trimSuffix s.data.toList (tx [(90 : UInt8)]).data.toList)).size then bif !decide (v20 = (45 : Int)) then ret (SV.tup [S1.agg [gI (0 : Int), gI (0 : Int), gI (0 : Int)], S1.agg [gI (0 : Int), gI (0 : Int), gI (0 : Int), gI (0 : Int)], S1.c (Cl.bool false)]) else bif inB (0 : Int) v22 then bif inB (1 : Int) v22 then bif inB (0 : Int) v24 then bif inB (1 : Int) v24 then bif inB (2 : Int) v24 then ret (SV.tup [S1.agg [gI (ryV v16), gI (v21.getD (0 : Nat) (0 : Int)), gI (v21.getD (1 : Nat) (0 : Int))], S1.agg [gI (v23.getD (0 : Nat) (0 : Int)), gI (v23.getD (1 : Nat) (0 : Int)), gI (v23.getD (2 : Nat) (0 : Int)), gI (rfV v19)], S1.c (Cl.bool true)]) else none else none else none else none else none else none else none else none else none else none else none else none else none else none else none := by kernel_rfl

theorem ix_lt (c : UInt8) (l : List UInt8) (h : 0 ≤ Lib.indexByte l c) : Lib.indexByte l c < l.length := by
  obtain ⟨p, q, e, hp⟩ := idx_split c l h
  have := congrArg List.length e
  rw [List.length_append, List.length_cons] at this
  omega
theorem ishape_run (s : ByteArray) (hp : s.size ≤ 9223372036854775700) : ∃ fu, ishape_f.run ishape_e [] fu [vS s] [] = some ⟨.tup [.agg [gI (shV s.data.toList).y, gI (shV s.data.toList).mo, gI (shV s.data.toList).d], .agg [gI (shV s.data.toList).h, gI (shV s.data.toList).mi, gI (shV s.data.toList).s, gI (shV s.data.toList).a], tB ((shapeP s.data.toList).isSome)], []⟩ := by
  refine ⟨0, ?_⟩
  rw [FnD.run, ishape_ent]
  obtain ⟨l, rfl, hl⟩ := tx_get s
  dsimp only
  simp only [tx_toList, tx_size, tx_extract, bytes_get, Int.toNat_natCast, show Nat.toUInt8 84 = 84 from rfl] at *
  have hlen : (Lib.trimSuffix l [90]).length ≤ l.length := by unfold Lib.trimSuffix; split <;> simp
  have hidx := ix_lt 84 (Lib.trimSuffix l [90])
  have hge := idx_ge 84 (Lib.trimSuffix l [90])
  unfold shV
  have no : shapeP l = none → (some ⟨.tup [.agg [gI 0, gI 0, gI 0], .agg [gI 0, gI 0, gI 0, gI 0], .c (.bool false)], []⟩ : Option Out) = some ⟨.tup [.agg [gI ((shapeP l).getD ⟨0, 0, 0, 0, 0, 0, 0⟩).y, gI ((shapeP l).getD ⟨0, 0, 0, 0, 0, 0, 0⟩).mo, gI ((shapeP l).getD ⟨0, 0, 0, 0, 0, 0, 0⟩).d], .agg [gI ((shapeP l).getD ⟨0, 0, 0, 0, 0, 0, 0⟩).h, gI ((shapeP l).getD ⟨0, 0, 0, 0, 0, 0, 0⟩).mi, gI ((shapeP l).getD ⟨0, 0, 0, 0, 0, 0, 0⟩).s, gI ((shapeP l).getD ⟨0, 0, 0, 0, 0, 0, 0⟩).a], tB ((shapeP l).isSome)], []⟩ := fun h => by rw [h]; rfl
  have yes : ∀ v, shapeP l = some v → (some ⟨.tup [.agg [gI v.y, gI v.mo, gI v.d], .agg [gI v.h, gI v.mi, gI v.s, gI v.a], .c (.bool true)], []⟩ : Option Out) = some ⟨.tup [.agg [gI ((shapeP l).getD ⟨0, 0, 0, 0, 0, 0, 0⟩).y, gI ((shapeP l).getD ⟨0, 0, 0, 0, 0, 0, 0⟩).mo, gI ((shapeP l).getD ⟨0, 0, 0, 0, 0, 0, 0⟩).d], .agg [gI ((shapeP l).getD ⟨0, 0, 0, 0, 0, 0, 0⟩).h, gI ((shapeP l).getD ⟨0, 0, 0, 0, 0, 0, 0⟩).mi, gI ((shapeP l).getD ⟨0, 0, 0, 0, 0, 0, 0⟩).s, gI ((shapeP l).getD ⟨0, 0, 0, 0, 0, 0, 0⟩).a], tB ((shapeP l).isSome)], []⟩ := fun v h => by rw [h]; rfl
  have hun : shapeP l = (if (!Lib.hasSuffix l [90] || (decide (Lib.indexByte (Lib.trimSuffix l [90]) 84 < 7) || decide (((Lib.trimSuffix l [90]).length : Int) < Lib.indexByte (Lib.trimSuffix l [90]) 84 + 9))) = true then none
    else if (ryOk ((Lib.trimSuffix l [90]).take (Lib.indexByte (Lib.trimSuffix l [90]) 84 - 6).toNat) && (ok5 45 (((Lib.trimSuffix l [90]).drop (Lib.indexByte (Lib.trimSuffix l [90]) 84 - 5).toNat).take 5) && (ok8 58 (((Lib.trimSuffix l [90]).drop (Lib.indexByte (Lib.trimSuffix l [90]) 84 + 1).toNat).take 8) && (rfOk ((Lib.trimSuffix l [90]).drop (Lib.indexByte (Lib.trimSuffix l [90]) 84 + 9).toNat) && decide ((Lib.trimSuffix l [90]).getD (Lib.indexByte (Lib.trimSuffix l [90]) 84 - 6).toNat 0 = 45))))) = true then some ⟨ryV ((Lib.trimSuffix l [90]).take (Lib.indexByte (Lib.trimSuffix l [90]) 84 - 6).toNat), at2 (((Lib.trimSuffix l [90]).drop (Lib.indexByte (Lib.trimSuffix l [90]) 84 - 5).toNat).take 5) 0, at2 (((Lib.trimSuffix l [90]).drop (Lib.indexByte (Lib.trimSuffix l [90]) 84 - 5).toNat).take 5) 3, at2 (((Lib.trimSuffix l [90]).drop (Lib.indexByte (Lib.trimSuffix l [90]) 84 + 1).toNat).take 8) 0, at2 (((Lib.trimSuffix l [90]).drop (Lib.indexByte (Lib.trimSuffix l [90]) 84 + 1).toNat).take 8) 3, at2 (((Lib.trimSuffix l [90]).drop (Lib.indexByte (Lib.trimSuffix l [90]) 84 + 1).toNat).take 8) 6, rfV ((Lib.trimSuffix l [90]).drop (Lib.indexByte (Lib.trimSuffix l [90]) 84 + 9).toNat)⟩ else none) := rfl
  generalize hT : Lib.trimSuffix l [90] = T at *
  generalize hK : Lib.indexByte T 84 = K at *
  generalize Lib.hasSuffix l [90] = B at *
  generalize shapeP l = R at *
  refine condT (by omega) ?_
  cases B with
  | false => exact condB rfl (no (by rw [hun]; rfl))
  | true =>
    refine condN rfl ?_
    by_cases h7 : K < 7
    · exact condT h7 (no (by rw [hun, decide_eq_true h7]; rfl))
    have hKT := hidx (by omega)
    have w9 : IntKind.i64.wrap (K + 9) = K + 9 := i64_in' _ (by omega)
    have w6 : IntKind.i64.wrap (K - 6) = K - 6 := i64_in' _ (by omega)
    have w5 : IntKind.i64.wrap (K - 5) = K - 5 := i64_in' _ (by omega)
    have w1 : IntKind.i64.wrap (K + 1) = K + 1 := i64_in' _ (by omega)
    rw [w9, w6, w5, w1]
    refine condF h7 ?_
    by_cases h9 : (T.length : Int) < K + 9
    · exact condT h9 (no (by rw [hun, decide_eq_true h9, Bool.or_true, Bool.or_true]; rfl))
    rw [decide_eq_false h7, decide_eq_false h9, if_neg (by decide)] at hun
    refine condF h9 ?_
    rw [List.drop_zero, Nat.sub_zero, show K.toNat - (K - 5).toNat = 5 by omega, show (K + 9).toNat - (K + 1).toNat = 8 by omega, List.take_of_length_le (show (T.drop (K + 9).toNat).length ≤ T.length - (K + 9).toNat by rw [List.length_drop]; exact Nat.le_refl _)]
    have l5 : ((T.drop (K - 5).toNat).take 5).length = 5 := by rw [List.length_take, List.length_drop]; omega
    have l8 : ((T.drop (K + 1).toNat).take 8).length = 8 := by rw [List.length_take, List.length_drop]; omega
    have lY : (T.take (K - 6).toNat).length ≤ T.length := by rw [List.length_take]; omega
    have lF : (T.drop (K + 9).toNat).length ≤ T.length := by rw [List.length_drop]; omega
    have e5 := two5 l5
    have e8 := two8 l8
    generalize T.take (K - 6).toNat = Y at *
    generalize (T.drop (K - 5).toNat).take 5 = D5 at *
    generalize (T.drop (K + 1).toNat).take 8 = T8 at *
    generalize T.drop (K + 9).toNat = F at *
    rw [e5.1, e8.1]
    refine condB (by unfold slB; simp; omega) (condT (by omega) (condB (by unfold slB; simp; omega) (condT (.inl l5) (condB (by unfold slB; simp; omega) (condT (.inr l8) (condB (by unfold slB; simp; omega) (condT (by omega) ?_)))))))
    cases c1 : ryOk Y with
    | false => exact condB rfl (no (by rw [hun, c1]; rfl))
    | true =>
      refine condN rfl ?_
      cases c2 : ok5 45 D5 with
      | false => exact condB rfl (no (by rw [hun, c1, c2]; rfl))
      | true =>
        refine condN rfl ?_
        cases c3 : ok8 58 T8 with
        | false => exact condB rfl (no (by rw [hun, c1, c2, c3]; rfl))
        | true =>
          refine condN rfl ?_
          cases c4 : rfOk F with
          | false => exact condB rfl (no (by rw [hun, c1, c2, c3, c4]; rfl))
          | true =>
            refine condN rfl (condB ((inB_iff _ _).2 (by omega)) ?_)
            by_cases h6 : T.getD (K - 6).toNat 0 = 45
            · rw [e5.2 c2, e8.2 c3]
              refine condN (by rw [Bool.not_eq_false', decide_eq_true_eq]; exact (byte_eq _ 45 (by omega)).2 h6) (condB rfl (condB rfl (condB rfl (condB rfl (condB rfl (yes ⟨ryV Y, at2 D5 0, at2 D5 3, at2 T8 0, at2 T8 3, at2 T8 6, rfV F⟩ ?_))))))
              rw [hun, c1, c2, c3, c4, decide_eq_true h6]; rfl
            · exact condB (by rw [Bool.not_eq_true', decide_eq_false_iff_not]; exact fun e => h6 ((byte_eq _ 45 (by omega)).1 e)) (no (by rw [hun, c1, c2, c3, c4, decide_eq_false h6]; rfl))
theorem ishape_ok (s : ByteArray) (hp : s.size ≤ 9223372036854775700) : FnOk cfg 53 ([vS s].map SV.den) (.tup [.agg [gI (shV s.data.toList).y, gI (shV s.data.toList).mo, gI (shV s.data.toList).d], .agg [gI (shV s.data.toList).h, gI (shV s.data.toList).mi, gI (shV s.data.toList).s, gI (shV s.data.toList).a], tB ((shapeP s.data.toList).isSome)] : SV).den := by
  obtain ⟨nn, h⟩ := ishape_run s hp
  exact FnD.ok ishape_g ishape_f mixed Tryz.func53 rfl rfl rfl rfl rfl rfl h
noncomputable def c_ishape : SpecF := fun args _ K => match args with
  | [.one (.c (.str s))] => bif decide (s.size ≤ 9223372036854775700) then K (.tup [.agg [gI (shV s.data.toList).y, gI (shV s.data.toList).mo, gI (shV s.data.toList).d], .agg [gI (shV s.data.toList).h, gI (shV s.data.toList).mi, gI (shV s.data.toList).s, gI (shV s.data.toList).a], tB ((shapeP s.data.toList).isSome)]) [] else none
  | _ => none
theorem c_ishape_ok : SpecOk cfg 53 c_ishape := by
  intro args bx K out h
  unfold c_ishape at h
  split at h
  · obtain ⟨hp, h⟩ := bif_some h
    exact ⟨_, _, h, .inl (ishape_ok _ (of_decide_eq_true hp) _), by simp [isTupS]⟩
  · cases h
/-! ### iso.Parse -/
noncomputable def iparse_e : Ev' := ⟨Tryz.prog, glob, Γof [(53, c_ishape), (54, c_gvalid), (55, c_fvalid), (56, c_gday), (57, c_fsec)]⟩
theorem iparse_g : Gd cfg iparse_e := gd (env_cons c_ishape_ok (env_cons c_gvalid_ok (env_cons c_fvalid_ok (env_cons c_gday_ok (env_cons c_fsec_ok (env_nil _))))))
noncomputable def iparse_f : FnD := ⟨20, Tryz.f20, noSh, Tryz.f20.resultTypes.toList⟩
theorem iparse_ent (h : Hd) (s : ByteArray) : iparse_f.ent iparse_e [] h [vS s] [] = bif decide (s.size ≤ (9223372036854775700 : Nat)) then bif !(shapeP s.data.toList).isSome then ret (SV.tup [S1.agg [gI (0 : Int), gI (0 : Int), gI (0 : Int)], tI (4 : Int)]) else bif !dateOk (shV s.data.toList).y (shV s.data.toList).mo (shV s.data.toList).d then ret (SV.tup [S1.agg [gI (0 : Int), gI (0 : Int), gI (0 : Int)], tI (5 : Int)]) else bif !timeOk (shV s.data.toList).h (shV s.data.toList).mi (shV s.data.toList).s (shV s.data.toList).a then ret (SV.tup [S1.agg [gI (0 : Int), gI (0 : Int), gI (0 : Int)], tI (5 : Int)]) else bif !decide (dayE (shV s.data.toList).y (shV s.data.toList).mo (shV s.data.toList).d = (0 : Int)) then ret (SV.tup [S1.agg [gI (0 : Int), gI (0 : Int), gI (0 : Int)], tI (dayE (shV s.data.toList).y (shV s.data.toList).mo (shV s.data.toList).d)]) else ret (SV.tup [S1.agg [gI (dayN (shV s.data.toList).y (shV s.data.toList).mo (shV s.data.toList).d), gI (if timeOk (shV s.data.toList).h (shV s.data.toList).mi (shV s.data.toList).s (shV s.data.toList).a = true then (shV s.data.toList).h * (3600 : Int) + (shV s.data.toList).mi * (60 : Int) + (shV s.data.toList).s else (0 : Int)), gI (if timeOk (shV s.data.toList).h (shV s.data.toList).mi (shV s.data.toList).s (shV s.data.toList).a = true then (shV s.data.toList).a else (0 : Int))], tI (0 : Int)]) else none := by kernel_rfl
theorem iparse_run (s : ByteArray) (hp : s.size ≤ 9223372036854775700) : ∃ fu, iparse_f.run iparse_e [] fu [vS s] [] = some ⟨.tup [.agg [gI (parN s.data.toList), gI (parS s.data.toList), gI (parA s.data.toList)], tI (parE s.data.toList)], []⟩ := by
  refine ⟨0, ?_⟩
  rw [FnD.run, iparse_ent]
  obtain ⟨l, rfl, hl⟩ := tx_get s
  simp only [tx_toList, tx_size] at *
  refine condT hp ?_
  unfold shV
  cases hS : shapeP l with
  | none =>
    obtain ⟨e1, e2, e3, e4⟩ := par_none hS
    rw [e1, e2, e3, e4]; rfl
  | some v =>
    obtain ⟨e1, e2, e3, e4⟩ := par_some hS
    rw [e1, e2, e3, e4]
    refine condN rfl ?_
    simp only [Option.getD_some]
    unfold resE
    cases hd : dateOk v.y v.mo v.d with
    | false => exact condB rfl rfl
    | true =>
      refine condN rfl ?_
      cases ht : timeOk v.h v.mi v.s v.a with
      | false => exact condB rfl rfl
      | true =>
        refine condN rfl ?_
        simp only [Bool.and_self, if_true]
        by_cases hE : dayE v.y v.mo v.d = 0
        · rw [if_pos hE, if_pos hE, if_pos hE]
          exact condN (by rw [Bool.not_eq_false', decide_eq_true_eq]; exact hE) (by rw [hE])
        · rw [if_neg hE, if_neg hE, if_neg hE]
          exact condB (by rw [Bool.not_eq_true', decide_eq_false_iff_not]; exact hE) rfl
theorem iparse_ok (s : ByteArray) (hp : s.size ≤ 9223372036854775700) : FnOk cfg 20 ([vS s].map SV.den) (.tup [.agg [gI (parN s.data.toList), gI (parS s.data.toList), gI (parA s.data.toList)], tI (parE s.data.toList)] : SV).den := by
  obtain ⟨nn, h⟩ := iparse_run s hp
  exact FnD.ok iparse_g iparse_f mixed Tryz.func20 rfl rfl rfl rfl rfl rfl h
noncomputable def c_iparse : SpecF := fun args _ K => match args with
  | [.one (.c (.str s))] => bif decide (s.size ≤ 9223372036854775700) then K (.tup [.agg [gI (parN s.data.toList), gI (parS s.data.toList), gI (parA s.data.toList)], tI (parE s.data.toList)]) [] else none
  | _ => none
theorem c_iparse_ok : SpecOk cfg 20 c_iparse := by
  intro args bx K out h
  unfold c_iparse at h
  split at h
  · obtain ⟨hp, h⟩ := bif_some h
    exact ⟨_, _, h, .inl (iparse_ok _ (of_decide_eq_true hp) _), by simp [isTupS]⟩
  · cases h
end Go.Proofs.YtldofkogmkfpjaaGreatDoor
