/-
  The contracts of layer 25 (iso).
-/
import Derived.Test.YtldofkogmkfpjaaGreatDoorIzSyGreg
import Derived.Test.YtldofkogmkfpjaaGreatDoorIzSyFace
namespace Go.Proofs.YtldofkogmkfpjaaGreatDoor
open Go Go.Ev Go.Sy
set_option linter.unusedSimpArgs false
set_option linter.unusedVariables false
set_option maxRecDepth 10000
set_option maxHeartbeats 4000000
/-! ### iso.pad -/
noncomputable def pad_e : Ev' := ⟨Tryz.prog, glob, Γof [(96, c_itoa), (97, c_rept)]⟩
theorem pad_g : Gd cfg pad_e := gd (env_cons c_itoa_ok (env_cons c_rept_ok (env_nil _)))
noncomputable def pad_f : FnD := ⟨46, Tryz.f46, noSh, Tryz.f46.resultTypes.toList⟩
theorem pad_ent (h : Hd) (n : Int) (w : Int) : pad_f.ent pad_e [] h [vI n, vI w] [] = let v1 : Nat := (bif decide (IntKind.i64.wrap (w - (↑(tx (Lib.itoa n)).size : Int)) < (0 : Int)) then (0 : Int) else IntKind.i64.wrap (w - (↑(tx (Lib.itoa n)).size : Int))).toNat; let v2 : Nat := (1 : Nat) * v1; let v3 : ByteArray := tx (Lib.repeatL (tx [(48 : UInt8)]).data.toList v1); let v4 : Nat := v3.size + (tx (Lib.itoa n)).size; bif decide (isH n) then bif decide (((0 : Int) ≤ bif decide (IntKind.i64.wrap (w - (↑(tx (Lib.itoa n)).size : Int)) < (0 : Int)) then (0 : Int) else IntKind.i64.wrap (w - (↑(tx (Lib.itoa n)).size : Int))) ∧ (bif decide (IntKind.i64.wrap (w - (↑(tx (Lib.itoa n)).size : Int)) < (0 : Int)) then (0 : Int) else IntKind.i64.wrap (w - (↑(tx (Lib.itoa n)).size : Int))) ≤ (1000000 : Int) ∧ v2 ≤ (140737488355328 : Nat)) then bif decide (v4 ≤ (9223372036854775807 : Nat)) then ret (vS (v3 ++ tx (Lib.itoa n))) else none else none else none := by kernel_rfl
theorem pad_run (n : Int) (w : Int) (hp : (0 ≤ n ∧ n < 9223372036854775808) ∧ 0 ≤ w ∧ w ≤ 1000) : ∃ fu, pad_f.run pad_e [] fu [vI n, vI w] [] = some ⟨vS (tx (padL w.toNat n.toNat)), []⟩ := by
  refine ⟨0, ?_⟩
  rw [FnD.run, pad_ent]
  obtain ⟨⟨h1, h2⟩, h3, h4⟩ := hp
  obtain ⟨N, rfl⟩ := Int.eq_ofNat_of_zero_le h1
  obtain ⟨W, rfl⟩ := Int.eq_ofNat_of_zero_le h3
  have hd : (Lib.decDigits N).length ≤ 19 := dec_len (k := 18) (by omega)
  simp only [itoa_pos (Int.natCast_nonneg N), Int.toNat_natCast, tx_size, tx_toList, repeatL_one]
  rw [i64_in' ((W : Int) - ((Lib.decDigits N).length : Nat)) (by omega)]
  have e : (bif decide ((W : Int) - ((Lib.decDigits N).length : Nat) < 0) then 0 else (W : Int) - ((Lib.decDigits N).length : Nat)) = ((W - (Lib.decDigits N).length : Nat) : Int) := by
    by_cases h : (W : Int) - ((Lib.decDigits N).length : Nat) < 0
    · rw [decide_eq_true h]; show (0 : Int) = _; omega
    · rw [decide_eq_false h]; show (W : Int) - _ = _; omega
  rw [e, Int.toNat_natCast, List.length_replicate]
  refine condT ⟨by omega, by omega⟩ (condT ⟨by omega, by omega, by omega⟩ (condT (by omega) (retV ?_)))
  rw [tx_append]; rfl
theorem pad_ok (n : Int) (w : Int) (hp : (0 ≤ n ∧ n < 9223372036854775808) ∧ 0 ≤ w ∧ w ≤ 1000) : FnOk cfg 46 ([vI n, vI w].map SV.den) (vS (tx (padL w.toNat n.toNat)) : SV).den := by
  obtain ⟨nn, h⟩ := pad_run n w hp
  exact FnD.ok pad_g pad_f mixed Tryz.func46 rfl rfl rfl rfl rfl rfl h
noncomputable def c_pad : SpecF := fun args _ K => match args with
  | [.one (.c (.int .i64 n)), .one (.c (.int .i64 w))] => bif decide ((0 ≤ n ∧ n < 9223372036854775808) ∧ 0 ≤ w ∧ w ≤ 1000) then K (vS (tx (padL w.toNat n.toNat))) [] else none
  | _ => none
theorem c_pad_ok : SpecOk cfg 46 c_pad := by
  intro args bx K out h
  unfold c_pad at h
  split at h
  · obtain ⟨hp, h⟩ := bif_some h
    exact ⟨_, _, h, .inl (pad_ok _ _ (of_decide_eq_true hp) _), by simp [isTupS]⟩
  · cases h
/-! ### iso.year -/
noncomputable def iyear_e : Ev' := ⟨Tryz.prog, glob, Γof [(46, c_pad)]⟩
theorem iyear_g : Gd cfg iyear_e := gd (env_cons c_pad_ok (env_nil _))
noncomputable def iyear_f : FnD := ⟨45, Tryz.f45, noSh, Tryz.f45.resultTypes.toList⟩
theorem iyear_ent (h : Hd) (n : Int) : iyear_f.ent iyear_e [] h [vI n] [] = let v1 : Nat := (1 : Nat) + (tx (padL (4 : Nat) (IntKind.i64.wrap ((0 : Int) - n)).toNat)).size; bif decide (n < (0 : Int)) then bif decide (((0 : Int) ≤ IntKind.i64.wrap ((0 : Int) - n) ∧ IntKind.i64.wrap ((0 : Int) - n) < (9223372036854775808 : Int)) ∧ (0 : Int) ≤ (4 : Int) ∧ (4 : Int) ≤ (1000 : Int)) then bif decide (v1 ≤ (9223372036854775807 : Nat)) then ret (vS ((tx [(45 : UInt8)]) ++ tx (padL (4 : Nat) (IntKind.i64.wrap ((0 : Int) - n)).toNat))) else none else none else bif decide ((9999 : Int) < n) then bif decide (((0 : Int) ≤ n ∧ n < (9223372036854775808 : Int)) ∧ (0 : Int) ≤ (4 : Int) ∧ (4 : Int) ≤ (1000 : Int)) then bif decide ((1 : Nat) + (tx (padL (4 : Nat) n.toNat)).size ≤ (9223372036854775807 : Nat)) then ret (vS ((tx [(43 : UInt8)]) ++ tx (padL (4 : Nat) n.toNat))) else none else none else bif decide (((0 : Int) ≤ n ∧ n < (9223372036854775808 : Int)) ∧ (0 : Int) ≤ (4 : Int) ∧ (4 : Int) ≤ (1000 : Int)) then ret (vS (tx (padL (4 : Nat) n.toNat))) else none := by kernel_rfl
theorem iyear_run (n : Int) (hp : -9223372036854775808 < n ∧ n < 9223372036854775808) : ∃ fu, iyear_f.run iyear_e [] fu [vI n] [] = some ⟨vS (tx (yearL n)), []⟩ := by
  refine ⟨0, ?_⟩
  rw [FnD.run, iyear_ent]
  dsimp only
  unfold yearL
  simp only [tx_size]
  by_cases h : n < 0
  · have hl := padL_len (w := 4) (n := (-n).toNat) (k := 18) (by omega) (by omega)
    rw [if_pos h, i64_in' (0 - n) (by omega), Int.zero_sub]
    exact condT h (condT ⟨⟨by omega, by omega⟩, by omega, by omega⟩ (condT (by omega) (retV (by rw [tx_append]; rfl))))
  · have hl := padL_len (w := 4) (n := n.toNat) (k := 18) (by omega) (by omega)
    rw [if_neg h]
    refine condF h ?_
    by_cases h2 : 9999 < n
    · rw [if_pos h2]
      exact condT h2 (condT ⟨⟨by omega, by omega⟩, by omega, by omega⟩ (condT (by omega) (retV (by rw [tx_append]; rfl))))
    · rw [if_neg h2]
      exact condF h2 (condT ⟨⟨by omega, by omega⟩, by omega, by omega⟩ rfl)
theorem iyear_ok (n : Int) (hp : -9223372036854775808 < n ∧ n < 9223372036854775808) : FnOk cfg 45 ([vI n].map SV.den) (vS (tx (yearL n)) : SV).den := by
  obtain ⟨nn, h⟩ := iyear_run n hp
  exact FnD.ok iyear_g iyear_f mixed Tryz.func45 rfl rfl rfl rfl rfl rfl h
noncomputable def c_iyear : SpecF := fun args _ K => match args with
  | [.one (.c (.int .i64 n))] => bif decide (-9223372036854775808 < n ∧ n < 9223372036854775808) then K (vS (tx (yearL n))) [] else none
  | _ => none
theorem c_iyear_ok : SpecOk cfg 45 c_iyear := by
  intro args bx K out h
  unfold c_iyear at h
  split at h
  · obtain ⟨hp, h⟩ := bif_some h
    exact ⟨_, _, h, .inl (iyear_ok _ (of_decide_eq_true hp) _), by simp [isTupS]⟩
  · cases h
/-! ### iso.fraction -/
noncomputable def ifrac_e : Ev' := ⟨Tryz.prog, glob, Γof [(46, c_pad), (98, c_trimr)]⟩
theorem ifrac_g : Gd cfg ifrac_e := gd (env_cons c_pad_ok (env_cons c_trimr_ok (env_nil _)))
noncomputable def ifrac_f : FnD := ⟨47, Tryz.f47, noSh, Tryz.f47.resultTypes.toList⟩
theorem ifrac_ent (h : Hd) (n : Int) : ifrac_f.ent ifrac_e [] h [vI n] [] = let v1 : ByteArray := tx (Lib.trimRightS (tx (padL (18 : Nat) n.toNat)).data.toList (tx [(48 : UInt8)]).data.toList); let v2 : Nat := (1 : Nat) + v1.size; bif decide (n = (0 : Int)) then ret (vS (tx [])) else bif decide (((0 : Int) ≤ n ∧ n < (9223372036854775808 : Int)) ∧ (0 : Int) ≤ (18 : Int) ∧ (18 : Int) ≤ (1000 : Int)) then bif decide ((tx (padL (18 : Nat) n.toNat)).size ≤ (9223372036854775807 : Nat) ∧ true = true ∧ (1 : Nat) ≤ (100 : Nat)) then bif decide (v2 ≤ (9223372036854775807 : Nat)) then ret (vS ((tx [(46 : UInt8)]) ++ v1)) else none else none else none := by kernel_rfl
theorem ifrac_run (n : Int) (hp : 0 ≤ n ∧ n < 9223372036854775808) : ∃ fu, ifrac_f.run ifrac_e [] fu [vI n] [] = some ⟨vS (tx (fracL n)), []⟩ := by
  refine ⟨0, ?_⟩
  rw [FnD.run, ifrac_ent]
  dsimp only
  simp only [tx_size, tx_toList]
  have hl := padL_len (w := 18) (n := n.toNat) (k := 18) (by omega) (by omega)
  have ht := trim_len (padL 18 n.toNat)
  by_cases h : n = 0
  · subst h; rfl
  · refine condF h (condT ⟨⟨by omega, by omega⟩, by omega, by omega⟩ (condT ⟨by omega, trivial, by omega⟩ (condT (by omega) (retV ?_))))
    rw [tx_append]; unfold fracL; rw [if_neg h]; rfl
theorem ifrac_ok (n : Int) (hp : 0 ≤ n ∧ n < 9223372036854775808) : FnOk cfg 47 ([vI n].map SV.den) (vS (tx (fracL n)) : SV).den := by
  obtain ⟨nn, h⟩ := ifrac_run n hp
  exact FnD.ok ifrac_g ifrac_f mixed Tryz.func47 rfl rfl rfl rfl rfl rfl h
noncomputable def c_ifrac : SpecF := fun args _ K => match args with
  | [.one (.c (.int .i64 n))] => bif decide (0 ≤ n ∧ n < 9223372036854775808) then K (vS (tx (fracL n))) [] else none
  | _ => none
theorem c_ifrac_ok : SpecOk cfg 47 c_ifrac := by
  intro args bx K out h
  unfold c_ifrac at h
  split at h
  · obtain ⟨hp, h⟩ := bif_some h
    exact ⟨_, _, h, .inl (ifrac_ok _ (of_decide_eq_true hp) _), by simp [isTupS]⟩
  · cases h
/-! ### iso.Print -/
noncomputable def iprint_e : Ev' := ⟨Tryz.prog, glob, Γof [(43, c_ftime), (44, c_gdate), (45, c_iyear), (46, c_pad), (47, c_ifrac), (48, c_join)]⟩
theorem iprint_g : Gd cfg iprint_e := gd (env_cons c_ftime_ok (env_cons c_gdate_ok (env_cons c_iyear_ok (env_cons c_pad_ok (env_cons c_ifrac_ok (env_cons c_join_ok (env_nil _)))))))
noncomputable def iprint_f : FnD := ⟨17, Tryz.f17, noSh, Tryz.f17.resultTypes.toList⟩
theorem iprint_ent (h : Hd) (n : Int) (x : Int) (a : Int) : iprint_f.ent iprint_e [] h [agg [.c (.int .i64 n), .c (.int .i64 x), .c (.int .i64 a)]] [] = let v1 : ByteArray := tx (padL (2 : Nat) (if secOk x a = true then hrH x else (0 : Int)).toNat); let v2 : ByteArray := tx (padL (2 : Nat) (if secOk x a = true then hrM x else (0 : Int)).toNat); let v3 : ByteArray := tx (padL (2 : Nat) (if secOk x a = true then hrS x else (0 : Int)).toNat); let v4 : Nat := [[D.s (tx (yearL (dtY n)))], [D.s (tx [(45 : UInt8)])], [D.s (tx (padL (2 : Nat) (dtM n).toNat))], [D.s (tx [(45 : UInt8)])], [D.s (tx (padL (2 : Nat) (dtD n).toNat))], [D.s (tx [(84 : UInt8)])], [D.s v1], [D.s (tx [(58 : UInt8)])], [D.s v2], [D.s (tx [(58 : UInt8)])], [D.s v3], [D.s (tx (fracL (if secOk x a = true then a else (0 : Int))))], [D.s (tx [(90 : UInt8)])]].length; let v5 : List UInt8 := joinD [[D.s (tx (yearL (dtY n)))], [D.s (tx [(45 : UInt8)])], [D.s (tx (padL (2 : Nat) (dtM n).toNat))], [D.s (tx [(45 : UInt8)])], [D.s (tx (padL (2 : Nat) (dtD n).toNat))], [D.s (tx [(84 : UInt8)])], [D.s v1], [D.s (tx [(58 : UInt8)])], [D.s v2], [D.s (tx [(58 : UInt8)])], [D.s v3], [D.s (tx (fracL (if secOk x a = true then a else (0 : Int))))], [D.s (tx [(90 : UInt8)])]] (tx []); let v6 : Nat := v5.length; bif !decide ((if secOk x a = true then (0 : Int) else (1 : Int)) = (0 : Int)) then ret (SV.tup [S1.c (Cl.str (tx [])), tI (if secOk x a = true then (0 : Int) else (1 : Int))]) else bif !decide (dtE n = (0 : Int)) then ret (SV.tup [S1.c (Cl.str (tx [])), tI (dtE n)]) else bif decide ((-9223372036854775808 : Int) < dtY n ∧ dtY n < (9223372036854775808 : Int)) then bif decide (((0 : Int) ≤ dtM n ∧ dtM n < (9223372036854775808 : Int)) ∧ (0 : Int) ≤ (2 : Int) ∧ (2 : Int) ≤ (1000 : Int)) then bif decide (((0 : Int) ≤ dtD n ∧ dtD n < (9223372036854775808 : Int)) ∧ (0 : Int) ≤ (2 : Int) ∧ (2 : Int) ≤ (1000 : Int)) then bif decide ((((0 : Int) ≤ if secOk x a = true then hrH x else (0 : Int)) ∧ (if secOk x a = true then hrH x else (0 : Int)) < (9223372036854775808 : Int)) ∧ (0 : Int) ≤ (2 : Int) ∧ (2 : Int) ≤ (1000 : Int)) then bif decide ((((0 : Int) ≤ if secOk x a = true then hrM x else (0 : Int)) ∧ (if secOk x a = true then hrM x else (0 : Int)) < (9223372036854775808 : Int)) ∧ (0 : Int) ≤ (2 : Int) ∧ (2 : Int) ≤ (1000 : Int)) then bif decide ((((0 : Int) ≤ if secOk x a = true then hrS x else (0 : Int)) ∧ (if secOk x a = true then hrS x else (0 : Int)) < (9223372036854775808 : Int)) ∧ (0 : Int) ≤ (2 : Int) ∧ (2 : Int) ≤ (1000 : Int)) then bif decide (((0 : Int) ≤ if secOk x a = true then a else (0 : Int)) ∧ (if secOk x a = true then a else (0 : Int)) < (9223372036854775808 : Int)) then bif decide (v4 ≤ (140737488355328 : Nat) ∧ v6 ≤ (140737488355328 : Nat)) then ret (SV.tup [S1.c (Cl.str (tx v5)), tI (0 : Int)]) else none else none else none else none else none else none else none else none := by kernel_rfl
theorem iprint_run (n : Int) (x : Int) (a : Int) : ∃ fu, iprint_f.run iprint_e [] fu [agg [.c (.int .i64 n), .c (.int .i64 x), .c (.int .i64 a)]] [] = some ⟨.tup [tS (if (secOk x a && inR n) = true then tx (isoL (labV n x a)) else tx []), tI (if secOk x a = true then (if inR n = true then 0 else 2) else 1)], []⟩ := by
  refine ⟨0, ?_⟩
  rw [FnD.run, iprint_ent]
  cases hs : secOk x a with
  | false => rfl
  | true =>
    cases hr : inR n with
    | false =>
      obtain ⟨d1, d2, d3, d4⟩ := dt_f hr
      simp only [d1, d2, d3, d4]; rfl
    | true =>
      obtain ⟨d1, d2, d3, d4⟩ := dt_t hr
      have ok := labV_ok hr hs
      have ky := gY_in hr
      have k1 : 0 ≤ gM n ∧ gM n < 100 := ok.mo
      have k2 : 0 ≤ gD n ∧ gD n < 100 := ok.d
      have k3 : 0 ≤ hrH x ∧ hrH x < 100 := ok.h
      have k4 : 0 ≤ hrM x ∧ hrM x < 100 := ok.mi
      have k5 : 0 ≤ hrS x ∧ hrS x < 100 := ok.s
      have k6 : 0 ≤ a ∧ a < 1000000000000000000 := ok.a
      simp only [d1, d2, d3, d4, if_true, Bool.and_self]
      have e : joinD [[D.s (tx (yearL (gY n)))], [D.s (tx [(45 : UInt8)])], [D.s (tx (padL 2 (gM n).toNat))], [D.s (tx [(45 : UInt8)])], [D.s (tx (padL 2 (gD n).toNat))], [D.s (tx [(84 : UInt8)])], [D.s (tx (padL 2 (hrH x).toNat))], [D.s (tx [(58 : UInt8)])], [D.s (tx (padL 2 (hrM x).toNat))], [D.s (tx [(58 : UInt8)])], [D.s (tx (padL 2 (hrS x).toNat))], [D.s (tx (fracL a))], [D.s (tx [(90 : UInt8)])]] (tx []) = isoL (labV n x a) := by
        unfold joinD
        rw [show (tx ([] : List UInt8)).data.toList = [] from rfl, join_flat]
        simp only [List.map_cons, List.map_nil, rowS, List.getD_cons_zero, D.toS, tx_toList, List.flatten_cons, List.flatten_nil, List.append_nil]
        unfold isoL midL labV
        simp only [List.append_assoc, List.cons_append, List.nil_append]
      have hy := year_len_le (y := gY n) (by omega)
      have hf := frac_len a (by omega)
      have p1 := padL_len (w := 2) (n := (gM n).toNat) (k := 1) (by omega) (by omega)
      have p2 := padL_len (w := 2) (n := (gD n).toNat) (k := 1) (by omega) (by omega)
      have p3 := padL_len (w := 2) (n := (hrH x).toNat) (k := 1) (by omega) (by omega)
      have p4 := padL_len (w := 2) (n := (hrM x).toNat) (k := 1) (by omega) (by omega)
      have p5 := padL_len (w := 2) (n := (hrS x).toNat) (k := 1) (by omega) (by omega)
      have hlen : (isoL (labV n x a)).length ≤ 1000 := by
        unfold isoL midL labV
        simp only [List.length_append, List.length_cons, List.length_nil]
        omega
      rw [e]
      refine condN rfl (condN rfl (condT (by omega) (condT (by omega) (condT (by omega) (condT (by omega) (condT (by omega) (condT (by omega) (condT (by omega) (condT ⟨by show 13 ≤ _; omega, by omega⟩ (retV rfl))))))))))
theorem iprint_ok (n : Int) (x : Int) (a : Int) : FnOk cfg 17 ([agg [.c (.int .i64 n), .c (.int .i64 x), .c (.int .i64 a)]].map SV.den) (.tup [tS (if (secOk x a && inR n) = true then tx (isoL (labV n x a)) else tx []), tI (if secOk x a = true then (if inR n = true then 0 else 2) else 1)] : SV).den := by
  obtain ⟨nn, h⟩ := iprint_run n x a
  exact FnD.ok iprint_g iprint_f mixed Tryz.func17 rfl rfl rfl rfl rfl rfl h
noncomputable def c_iprint : SpecF := fun args _ K => match args with
  | [.one (.agg [.c (.int .i64 n), .c (.int .i64 x), .c (.int .i64 a)])] => K (.tup [tS (if (secOk x a && inR n) = true then tx (isoL (labV n x a)) else tx []), tI (if secOk x a = true then (if inR n = true then 0 else 2) else 1)]) []
  | _ => none
theorem c_iprint_ok : SpecOk cfg 17 c_iprint := by
  intro args bx K out h
  unfold c_iprint at h
  split at h
  · exact ⟨_, _, h, .inl (iprint_ok _ _ _ _), by simp [isTupS]⟩
  · cases h
/-! ### iso.readYear -/
noncomputable def iry_e : Ev' := ⟨Tryz.prog, glob, Γof [(149, c_triml), (150, c_digits), (151, c_atoi), (45, c_iyear)]⟩
theorem iry_g : Gd cfg iry_e := gd (env_cons c_triml_ok (env_cons c_digits_ok (env_cons c_atoi_ok (env_cons c_iyear_ok (env_nil _)))))
noncomputable def iry_f : FnD := ⟨102, Tryz.f102, noSh, Tryz.f102.resultTypes.toList⟩
theorem iry_ent (h : Hd) (s : ByteArray) : iry_f.ent iry_e [] h [vS s] [] = let v1 : ByteArray := tx (Lib.trimLeftS s.data.toList (tx [(43 : UInt8), (45 : UInt8)]).data.toList); let v2 : Nat := v1.size; let v3 : Int := IntKind.i64.wrap ((↑s.size : Int) - (↑v2 : Int)); let v4 : List UInt8 := v1.data.toList; let v5 : Int := (Lib.atoi v4).getD (0 : Int); let v6 : Int := IntKind.i64.wrap ((0 : Int) - v5); bif decide ((1 : Int) < v3) then ret (SV.tup [tI (0 : Int), S1.c (Cl.bool false)]) else bif !digsB v4 then ret (SV.tup [tI (0 : Int), S1.c (Cl.bool false)]) else bif decide ((18 : Int) < (↑v2 : Int)) then ret (SV.tup [tI (0 : Int), S1.c (Cl.bool false)]) else bif decide (v2 ≤ (18 : Nat) ∧ (Lib.atoi v4).isSome = true) then bif inB (0 : Int) s.size then bif decide ((bytesI s).getD (0 : Nat) (0 : Int) = (45 : Int)) then bif decide ((-9223372036854775808 : Int) < v6 ∧ v6 < (9223372036854775808 : Int)) then ret (SV.tup [tI v6, S1.c (Cl.bool (eqB (tx (yearL v6)) s))]) else none else bif decide ((-9223372036854775808 : Int) < v5 ∧ v5 < (9223372036854775808 : Int)) then ret (SV.tup [tI v5, S1.c (Cl.bool (eqB (tx (yearL v5)) s))]) else none else none else none := by kernel_rfl

theorem dw_le (p : UInt8 → Bool) (l : List UInt8) : (l.dropWhile p).length ≤ l.length := by have := tw_dw p l; omega
theorem byte_eq (c : UInt8) (n : Nat) (hn : n < 256) : ((c.toNat : Nat) : Int) = n ↔ c = UInt8.ofNat n := by
  rw [← UInt8.toNat_inj, UInt8.toNat_ofNat']
  omega
theorem iry_run (s : ByteArray) (hp : s.size ≤ 9223372036854775807) : ∃ fu, iry_f.run iry_e [] fu [vS s] [] = some ⟨.tup [tI (ryV s.data.toList), tB (ryOk s.data.toList)], []⟩ := by
  refine ⟨0, ?_⟩
  rw [FnD.run, iry_ent]
  obtain ⟨l, rfl, hl⟩ := tx_get s
  simp only [tx_toList, tx_size, eqB_tx, bytes_get] at *
  have hb : Lib.trimLeftS l [43, 45] = ryBody l := rfl
  have hbl : (ryBody l).length ≤ l.length := dw_le _ l
  rw [hb, i64_in' ((l.length : Int) - ((ryBody l).length : Nat)) (by omega)]
  have no : ryC l = false → (some ⟨.tup [tI 0, .c (.bool false)], []⟩ : Option Out) = some ⟨.tup [tI (ryV l), tB (ryOk l)], []⟩ := fun h => by
    unfold ryOk ryV; rw [h]; rfl
  by_cases h1 : l.length - (ryBody l).length ≤ 1
  · refine condF (by omega) ?_
    cases h2 : digsB (ryBody l) with
    | false => exact condB rfl (no (by unfold ryC; rw [h2, Bool.false_and, Bool.and_false]))
    | true =>
      refine condN rfl ?_
      by_cases h3 : (ryBody l).length ≤ 18
      · have hc : ryC l = true := by unfold ryC; rw [h2, decide_eq_true h1, decide_eq_true h3]; rfl
        have h4 := h2
        unfold digsB at h4
        rw [Bool.and_eq_true, Bool.not_eq_true', decide_eq_false_iff_not] at h4
        have ea := atoi_dig h4.2 h4.1
        have hd := dval_bound h4.2
        have hp18 := pow10_le h3
        have h18 : (10 : Int) ^ 18 = 1000000000000000000 := by decide
        have hne : (ryBody l).length ≠ 0 := fun e => h4.1 (List.length_eq_zero_iff.1 e)
        rw [ea]
        refine condF (by omega) (condT ⟨h3, rfl⟩ (condB ((inB_iff _ _).2 (by omega)) ?_))
        simp only [Option.getD_some]
        unfold ryOk ryV
        rw [hc]
        by_cases h5 : l.getD 0 0 = 45
        · have e1 : IntKind.i64.wrap (0 - dval (ryBody l)) = - dval (ryBody l) := by rw [i64_in' (0 - dval (ryBody l)) (by omega), Int.zero_sub]
          simp only [e1]
          simp only [if_true, if_pos h5]
          exact condT ((byte_eq _ 45 (by omega)).2 h5) (condT (by omega) (retV rfl))
        · simp only [if_true, if_neg h5]
          exact condF (fun e => h5 ((byte_eq _ 45 (by omega)).1 e)) (condT (by omega) (retV rfl))
      · exact condT (by omega) (no (by unfold ryC; rw [decide_eq_false h3, Bool.and_false, Bool.and_false]))
  · exact condT (by omega) (no (by unfold ryC; rw [decide_eq_false h1, Bool.false_and]))
theorem iry_ok (s : ByteArray) (hp : s.size ≤ 9223372036854775807) : FnOk cfg 102 ([vS s].map SV.den) (.tup [tI (ryV s.data.toList), tB (ryOk s.data.toList)] : SV).den := by
  obtain ⟨nn, h⟩ := iry_run s hp
  exact FnD.ok iry_g iry_f mixed Tryz.func102 rfl rfl rfl rfl rfl rfl h
noncomputable def c_iry : SpecF := fun args _ K => match args with
  | [.one (.c (.str s))] => bif decide (s.size ≤ 9223372036854775807) then K (.tup [tI (ryV s.data.toList), tB (ryOk s.data.toList)]) [] else none
  | _ => none
theorem c_iry_ok : SpecOk cfg 102 c_iry := by
  intro args bx K out h
  unfold c_iry at h
  split at h
  · obtain ⟨hp, h⟩ := bif_some h
    exact ⟨_, _, h, .inl (iry_ok _ (of_decide_eq_true hp) _), by simp [isTupS]⟩
  · cases h
/-! ### iso.readFraction -/
noncomputable def irf_e : Ev' := ⟨Tryz.prog, glob, Γof [(123, c_cutp), (150, c_digits), (97, c_rept), (151, c_atoi), (47, c_ifrac)]⟩
theorem irf_g : Gd cfg irf_e := gd (env_cons c_cutp_ok (env_cons c_digits_ok (env_cons c_rept_ok (env_cons c_atoi_ok (env_cons c_ifrac_ok (env_nil _))))))
noncomputable def irf_f : FnD := ⟨104, Tryz.f104, noSh, Tryz.f104.resultTypes.toList⟩
theorem irf_ent (h : Hd) (s : ByteArray) : irf_f.ent irf_e [] h [vS s] [] = let v1 : Int := IntKind.i64.wrap ((18 : Int) - (↑(tx (Lib.trimPrefix s.data.toList (tx [(46 : UInt8)]).data.toList)).size : Int)); let v2 : Nat := v1.toNat; let v3 : Nat := (1 : Nat) * v2; let v4 : ByteArray := tx (Lib.repeatL (tx [(48 : UInt8)]).data.toList v2); let v5 : Nat := (tx (Lib.trimPrefix s.data.toList (tx [(46 : UInt8)]).data.toList)).size + v4.size; let v6 : ByteArray := tx (Lib.trimPrefix s.data.toList (tx [(46 : UInt8)]).data.toList) ++ v4; let v7 : Nat := v6.size; let v8 : Int := (Lib.atoi v6.data.toList).getD (0 : Int); bif eqB s (tx []) then ret (SV.tup [tI (0 : Int), S1.c (Cl.bool true)]) else bif !Lib.hasPrefix s.data.toList (tx [(46 : UInt8)]).data.toList then ret (SV.tup [tI (0 : Int), S1.c (Cl.bool false)]) else bif !digsB (tx (Lib.trimPrefix s.data.toList (tx [(46 : UInt8)]).data.toList)).data.toList then ret (SV.tup [tI (0 : Int), S1.c (Cl.bool false)]) else bif decide ((18 : Int) < (↑(tx (Lib.trimPrefix s.data.toList (tx [(46 : UInt8)]).data.toList)).size : Int)) then ret (SV.tup [tI (0 : Int), S1.c (Cl.bool false)]) else bif decide ((0 : Int) ≤ v1 ∧ v1 ≤ (1000000 : Int) ∧ v3 ≤ (140737488355328 : Nat)) then bif decide (v5 ≤ (9223372036854775807 : Nat)) then bif decide (v7 ≤ (18 : Nat) ∧ (Lib.atoi v6.data.toList).isSome = true) then bif decide ((0 : Int) ≤ v8 ∧ v8 < (9223372036854775808 : Int)) then ret (SV.tup [tI v8, S1.c (Cl.bool (eqB (tx (fracL v8)) s))]) else none else none else none else none := by kernel_rfl
theorem irf_run (s : ByteArray) (hp : s.size ≤ 9223372036854775807) : ∃ fu, irf_f.run irf_e [] fu [vS s] [] = some ⟨.tup [tI (rfV s.data.toList), tB (rfOk s.data.toList)], []⟩ := by
  refine ⟨0, ?_⟩
  rw [FnD.run, irf_ent]
  obtain ⟨l, rfl, hl⟩ := tx_get s
  simp only [tx_toList, tx_size, eqB_tx, repeatL_one, tx_append] at *
  have no : l ≠ [] → rfC l = false → (some ⟨.tup [tI 0, .c (.bool false)], []⟩ : Option Out) = some ⟨.tup [tI (rfV l), tB (rfOk l)], []⟩ := fun h0 h => by
    unfold rfOk rfV; rw [h, decide_eq_false h0]; rfl
  by_cases h0 : l = []
  · subst h0; rfl
  refine condN (by rw [decide_eq_false h0]) ?_
  cases h1 : Lib.hasPrefix l [46] with
  | false => exact condB rfl (no h0 (by unfold rfC; rw [h1, Bool.false_and]))
  | true =>
    have ht : Lib.trimPrefix l [46] = l.drop 1 := by unfold Lib.trimPrefix; rw [if_pos h1]; rfl
    rw [ht]
    refine condN rfl ?_
    cases h2 : digsB (l.drop 1) with
    | false => exact condB rfl (no h0 (by unfold rfC; rw [h2, Bool.false_and, Bool.and_false]))
    | true =>
      refine condN rfl ?_
      by_cases h3 : (l.drop 1).length ≤ 18
      · have hc : rfC l = true := by unfold rfC; rw [h1, h2, decide_eq_true h3]; rfl
        have h4 := h2
        unfold digsB at h4
        rw [Bool.and_eq_true, Bool.not_eq_true', decide_eq_false_iff_not] at h4
        have hrf := rfV_in l
        have e1 : IntKind.i64.wrap (18 - ((l.drop 1).length : Int)) = ((18 - (l.drop 1).length : Nat) : Int) := by rw [i64_in' _ (by omega)]; omega
        rw [e1, Int.toNat_natCast, List.length_replicate]
        generalize hB : l.drop 1 ++ List.replicate (18 - (l.drop 1).length) (48 : UInt8) = B at *
        have hBl : B.length = 18 := by rw [← hB, List.length_append, List.length_replicate]; omega
        have hBd : B.all isDig = true := by rw [← hB, List.all_append, h4.2, zeros_all]; rfl
        have hBn : B ≠ [] := by intro e; rw [e] at hBl; cases hBl
        have ev : rfV l = dval B := by unfold rfV; rw [if_pos hc, hB]
        rw [ev] at hrf
        rw [atoi_dig hBd hBn, hBl]
        refine condF (by omega) (condT ⟨by omega, by omega, by omega⟩ (condT (by omega) (condT ⟨by omega, rfl⟩ (condT (by simp only [Option.getD_some]; omega) (retV ?_)))))
        unfold rfOk
        rw [ev, hc, decide_eq_false h0]; rfl
      · exact condT (by omega) (no h0 (by unfold rfC; rw [decide_eq_false h3, Bool.and_false, Bool.and_false]))
theorem irf_ok (s : ByteArray) (hp : s.size ≤ 9223372036854775807) : FnOk cfg 104 ([vS s].map SV.den) (.tup [tI (rfV s.data.toList), tB (rfOk s.data.toList)] : SV).den := by
  obtain ⟨nn, h⟩ := irf_run s hp
  exact FnD.ok irf_g irf_f mixed Tryz.func104 rfl rfl rfl rfl rfl rfl h
noncomputable def c_irf : SpecF := fun args _ K => match args with
  | [.one (.c (.str s))] => bif decide (s.size ≤ 9223372036854775807) then K (.tup [tI (rfV s.data.toList), tB (rfOk s.data.toList)]) [] else none
  | _ => none
theorem c_irf_ok : SpecOk cfg 104 c_irf := by
  intro args bx K out h
  unfold c_irf at h
  split at h
  · obtain ⟨hp, h⟩ := bif_some h
    exact ⟨_, _, h, .inl (irf_ok _ (of_decide_eq_true hp) _), by simp [isTupS]⟩
  · cases h
/-! ### iso.two -/
noncomputable def itwo_e : Ev' := ⟨Tryz.prog, glob, Γof [(150, c_digits), (151, c_atoi)]⟩
theorem itwo_g : Gd cfg itwo_e := gd (env_cons c_digits_ok (env_cons c_atoi_ok (env_nil _)))
noncomputable def itwo_f : FnD := ⟨103, Tryz.f103, shOf [(0, ⟨66, [(6, ⟨.ints .i64, false, true⟩)], [], [(0, .c (.str)), (1, .c (.int .u8)), (6, .c (.sl 6 1)), (7, .c (.int .i64))]⟩)], Tryz.f103.resultTypes.toList⟩
theorem itwo_ent (h : Hd) (s : ByteArray) (c : Int) : itwo_f.ent itwo_e [] h [vS s, c1 (.int .u8 c)] [] = h (0 : Nat) [Lf.l [], Lf.b true, Lf.s s, Lf.i c, Lf.i (0 : Int)] := by kernel_rfl
theorem itwo_l0 (h : Hd) (l0 : List Int) (b1 : Bool) (s2 : ByteArray) (i3 : Int) (i4 : Int) : itwo_f.seg itwo_e [] h 0 [.l l0, .b b1, .s s2, .i i3, .i i4] = let v1 : Int := (bytesI s2).getD (IntKind.i64.wrap (i4 + (2 : Int))).toNat (0 : Int); let v2 : List Int := List.take l0.length l0 ++ [(Lib.atoi (s2.extract i4.toNat (IntKind.i64.wrap (i4 + (2 : Int))).toNat).data.toList).getD (0 : Int)]; let v3 : Nat := v2.length; bif decide (i4 < (↑s2.size : Int)) then bif decide ((↑s2.size : Int) < IntKind.i64.wrap (i4 + (2 : Int))) then ret (SV.tup [S1.c (Cl.ints IntKind.i64 []), S1.c (Cl.bool false)]) else bif slB i4 (IntKind.i64.wrap (i4 + (2 : Int))) s2.size then bif !digsB (s2.extract i4.toNat (IntKind.i64.wrap (i4 + (2 : Int))).toNat).data.toList then ret (SV.tup [S1.c (Cl.ints IntKind.i64 []), S1.c (Cl.bool false)]) else bif decide (IntKind.i64.wrap (i4 + (2 : Int)) < (↑s2.size : Int)) then bif inB (IntKind.i64.wrap (i4 + (2 : Int))) s2.size then bif !decide (v1 = i3) then ret (SV.tup [S1.c (Cl.ints IntKind.i64 []), S1.c (Cl.bool false)]) else bif decide (IntKind.i64.wrap (i4 + (3 : Int)) = (↑s2.size : Int)) then ret (SV.tup [S1.c (Cl.ints IntKind.i64 []), S1.c (Cl.bool false)]) else bif slB i4 (IntKind.i64.wrap (i4 + (2 : Int))) s2.size then bif decide ((s2.extract i4.toNat (IntKind.i64.wrap (i4 + (2 : Int))).toNat).size ≤ (18 : Nat) ∧ (Lib.atoi (s2.extract i4.toNat (IntKind.i64.wrap (i4 + (2 : Int))).toNat).data.toList).isSome = true) then bif b1 == b1 && true && decide (l0.length ≤ l0.length) && roomB (l0.length + (1 : Nat)) (8 : Nat) then bif nlAfter b1 (1 : Nat) == nlAfter b1 (1 : Nat) && decide (l0.length + (1 : Nat) = v3) then h (0 : Nat) [Lf.l v2, Lf.b (nlAfter b1 (1 : Nat)), Lf.s s2, Lf.i i3, Lf.i (IntKind.i64.wrap (i4 + (3 : Int)))] else none else none else none else none else none else bif slB i4 (IntKind.i64.wrap (i4 + (2 : Int))) s2.size then bif decide ((s2.extract i4.toNat (IntKind.i64.wrap (i4 + (2 : Int))).toNat).size ≤ (18 : Nat) ∧ (Lib.atoi (s2.extract i4.toNat (IntKind.i64.wrap (i4 + (2 : Int))).toNat).data.toList).isSome = true) then bif b1 == b1 && true && decide (l0.length ≤ l0.length) && roomB (l0.length + (1 : Nat)) (8 : Nat) then bif nlAfter b1 (1 : Nat) == nlAfter b1 (1 : Nat) && decide (l0.length + (1 : Nat) = v3) then h (0 : Nat) [Lf.l v2, Lf.b (nlAfter b1 (1 : Nat)), Lf.s s2, Lf.i i3, Lf.i (IntKind.i64.wrap (i4 + (3 : Int)))] else none else none else none else none else none else bif b1 == b1 && decide (l0.length ≤ l0.length) && true then ret (SV.tup [S1.c (Cl.ints IntKind.i64 (List.take l0.length l0)), S1.c (Cl.bool true)]) else none := by kernel_rfl

theorem drop_two {l : List UInt8} {i : Nat} (h : i + 2 ≤ l.length) : (l.drop i).take 2 = [l.getD i 0, l.getD (i + 1) 0] := by
  rw [List.drop_eq_getElem_cons (by omega), List.drop_eq_getElem_cons (by omega), List.getD_eq_getElem?_getD, List.getD_eq_getElem?_getD, List.getElem?_eq_getElem (by omega), List.getElem?_eq_getElem (by omega)]
  rfl
def twoG (l : List UInt8) (c : Int) (i : Nat) : Bool := (isDig (l.getD i 0) && isDig (l.getD (i + 1) 0)) && (decide (l.length ≤ i + 2) || decide (((l.getD (i + 2) 0).toNat : Int) = c))
theorem itwo_step {l : List UInt8} {c : Int} {i : Nat} (hi : i + 2 ≤ l.length) (h3 : i + 3 ≠ l.length) (hl : l.length ≤ 8) {acc : List Int} (ha : acc.length ≤ 3) (nl : Bool) (k : Nat) :
    itwo_f.H itwo_e [] (k + 1) 0 [.l acc, .b nl, .s (tx l), .i c, .i i] = if twoG l c i = true then itwo_f.H itwo_e [] k 0 [.l (acc ++ [at2 l i]), .b false, .s (tx l), .i c, .i ((i + 3 : Nat) : Int)] else some ⟨.tup [.c (.ints .i64 []), tB false], []⟩ := by
  rw [FnD.H_succ, itwo_l0]
  dsimp only
  have w2 : IntKind.i64.wrap ((i : Int) + 2) = ((i + 2 : Nat) : Int) := by rw [i64_in' _ (by omega)]; omega
  have w3 : IntKind.i64.wrap ((i : Int) + 3) = ((i + 3 : Nat) : Int) := by rw [i64_in' _ (by omega)]; omega
  rw [w2, w3]
  simp only [Int.toNat_natCast, tx_extract, tx_toList, tx_size, bytes_get]
  rw [show i + 2 - i = 2 by omega, drop_two hi, List.take_length]
  have hlen : (acc ++ [(Lib.atoi [l.getD i 0, l.getD (i + 1) 0]).getD 0]).length = acc.length + 1 := by simp
  have hroom : roomB (acc.length + 1) 8 = true := by unfold roomB; rw [Bool.and_eq_true, decide_eq_true_eq, decide_eq_true_eq]; omega
  have hnl : nlAfter nl 1 = false := by cases nl <;> rfl
  have hbb : ∀ b : Bool, (b == b) = true := fun b => by cases b <;> rfl
  rw [hlen, hroom, hnl, hbb]
  refine condT (by omega) (condF (by omega) (condB (by unfold slB; simp; omega) ?_))
  unfold twoG
  cases hd : digsB [l.getD i 0, l.getD (i + 1) 0] with
  | false =>
    have : (isDig (l.getD i 0) && isDig (l.getD (i + 1) 0)) = false := by
      unfold digsB at hd
      rw [decide_eq_false (by simp)] at hd
      simpa using hd
    rw [this, Bool.false_and, if_neg (by decide)]
    rfl
  | true =>
    have hd2 : (isDig (l.getD i 0) && isDig (l.getD (i + 1) 0)) = true := by
      unfold digsB at hd
      rw [decide_eq_false (by simp)] at hd
      simpa using hd
    have ea : Lib.atoi [l.getD i 0, l.getD (i + 1) 0] = some (at2 l i) := by
      rw [atoi_dig (by simpa using hd2) (by simp)]
      show some ((0 * 10 + dig (l.getD i 0)) * 10 + dig (l.getD (i + 1) 0)) = some (dig (l.getD i 0) * 10 + dig (l.getD (i + 1) 0))
      rw [Int.zero_mul, Int.zero_add]
    rw [hd2, Bool.true_and, ea]
    refine condN rfl ?_
    by_cases h5 : l.length ≤ i + 2
    · rw [decide_eq_true h5]
      simp only [Bool.true_or, if_true]
      exact condF (by omega) (condB (by unfold slB; simp; omega) (condT ⟨by simp, rfl⟩ (condB (by simp) (condB (by simp) rfl))))
    · rw [decide_eq_false h5, Bool.false_or]
      refine condT (by omega) (condB ((inB_iff _ _).2 (by omega)) ?_)
      by_cases h6 : ((l.getD (i + 2) 0).toNat : Int) = c
      · rw [decide_eq_true h6]
        simp only [Bool.and_self, if_true]
        exact condN rfl (condF (by omega) (condB (by unfold slB; simp; omega) (condT ⟨by simp, rfl⟩ (condB (by simp) (condB (by simp) rfl)))))
      · rw [decide_eq_false h6, if_neg (by decide)]
        exact condB rfl rfl
theorem itwo_end {l : List UInt8} {c : Int} {i : Nat} (hi : l.length ≤ i) (acc : List Int) (nl : Bool) (k : Nat) :
    itwo_f.H itwo_e [] (k + 1) 0 [.l acc, .b nl, .s (tx l), .i c, .i i] = some ⟨.tup [.c (.ints .i64 acc), tB true], []⟩ := by
  rw [FnD.H_succ, itwo_l0]
  dsimp only
  rw [tx_size, List.take_length]
  exact condF (by omega) (condB (by cases nl <;> simp) rfl)
theorem itwo_run (s : ByteArray) (c : Int) (hp : s.size = 5 ∨ s.size = 8) : ∃ fu, itwo_f.run itwo_e [] fu [vS s, c1 (.int .u8 c)] [] = some ⟨.tup [.c (.ints .i64 (twoL s.data.toList c)), tB (twoOk s.data.toList c)], []⟩ := by
  obtain ⟨l, rfl, hl⟩ := tx_get s
  rw [tx_size] at hp
  refine ⟨4, ?_⟩
  rw [FnD.run, itwo_ent, tx_toList, show (0 : Int) = ((0 : Nat) : Int) from rfl]
  unfold twoL twoOk
  rcases hp with hp | hp
  · rw [itwo_step (by omega) (by omega) (by omega) (by simp), itwo_step (by omega) (by omega) (by omega) (by simp), itwo_end (by omega), if_pos hp]
    unfold twoG
    rw [decide_eq_false (show ¬ l.length ≤ 0 + 2 by omega), decide_eq_true (show l.length ≤ 0 + 3 + 2 by omega), decide_eq_true hp]
    simp only [Nat.zero_add, Bool.false_or, Bool.true_or, Bool.and_true, List.nil_append, List.cons_append, Nat.reduceAdd]
    cases hA : (isDig (l.getD 0 0) && isDig (l.getD 1 0)) <;> cases hB : decide (((l.getD 2 0).toNat : Int) = c) <;> cases hC : (isDig (l.getD 3 0) && isDig (l.getD 4 0)) <;> rfl
  · rw [itwo_step (by omega) (by omega) (by omega) (by simp), itwo_step (by omega) (by omega) (by omega) (by simp), itwo_step (by omega) (by omega) (by omega) (by simp), itwo_end (by omega), if_neg (show ¬ l.length = 5 by omega)]
    unfold twoG
    rw [decide_eq_false (show ¬ l.length ≤ 0 + 2 by omega), decide_eq_false (show ¬ l.length ≤ 0 + 3 + 2 by omega), decide_eq_true (show l.length ≤ 0 + 3 + 3 + 2 by omega), decide_eq_false (show ¬ l.length = 5 by omega)]
    simp only [Nat.zero_add, Bool.false_or, Bool.true_or, Bool.and_true, List.nil_append, List.cons_append, Nat.reduceAdd]
    cases hA : (isDig (l.getD 0 0) && isDig (l.getD 1 0)) <;> cases hB : decide (((l.getD 2 0).toNat : Int) = c) <;> cases hC : (isDig (l.getD 3 0) && isDig (l.getD 4 0)) <;> cases hD : decide (((l.getD 5 0).toNat : Int) = c) <;> cases hE : (isDig (l.getD 6 0) && isDig (l.getD 7 0)) <;> rfl
theorem itwo_ok (s : ByteArray) (c : Int) (hp : s.size = 5 ∨ s.size = 8) : FnOk cfg 103 ([vS s, c1 (.int .u8 c)].map SV.den) (.tup [.c (.ints .i64 (twoL s.data.toList c)), tB (twoOk s.data.toList c)] : SV).den := by
  obtain ⟨nn, h⟩ := itwo_run s c hp
  exact FnD.ok itwo_g itwo_f mixed Tryz.func103 rfl rfl rfl rfl rfl rfl h
noncomputable def c_itwo : SpecF := fun args _ K => match args with
  | [.one (.c (.str s)), .one (.c (.int .u8 c))] => bif decide (s.size = 5 ∨ s.size = 8) then K (.tup [.c (.ints .i64 (twoL s.data.toList c)), tB (twoOk s.data.toList c)]) [] else none
  | _ => none
theorem c_itwo_ok : SpecOk cfg 103 c_itwo := by
  intro args bx K out h
  unfold c_itwo at h
  split at h
  · obtain ⟨hp, h⟩ := bif_some h
    exact ⟨_, _, h, .inl (itwo_ok _ _ (of_decide_eq_true hp) _), by simp [isTupS]⟩
  · cases h
end Go.Proofs.YtldofkogmkfpjaaGreatDoor
