/-
  IsoPrints, IsoParses, IsoOrder.
-/
import Derived.Test.YtldofkogmkfpjaaGreatDoorIzSyIsoAns
import Derived.Test.YtldofkogmkfpjaaGreatDoorIzSyIsoRef
namespace Go.Proofs.YtldofkogmkfpjaaGreatDoor
open Go Go.Ev Go.Sy
set_option linter.unusedSimpArgs false
set_option linter.unusedVariables false
set_option maxRecDepth 10000
set_option maxHeartbeats 4000000
/-! ### epactlaw25.IsoPrints -/
noncomputable def isoprints_e : Ev' := ⟨Tryz.prog, glob, Γof [(17, c_iprint), (18, c_rprint), (19, c_ianswers), (20, c_iparse)]⟩
theorem isoprints_g : Gd cfg isoprints_e := gd (env_cons c_iprint_ok (env_cons c_rprint_ok (env_cons c_ianswers_ok (env_cons c_iparse_ok (env_nil _)))))
noncomputable def isoprints_f : FnD := ⟨3, Tryz.f3, noSh, Tryz.f3.resultTypes.toList⟩
theorem isoprints_ent (h : Hd) (n : Int) (x : Int) (a : Int) : isoprints_f.ent isoprints_e [] h [agg [.c (.int .i64 n), .c (.int .i64 x), .c (.int .i64 a)]] [] = let v1 : ByteArray := if (secOk x a && inR n) = true then tx (isoL (labV n x a)) else tx []; let v2 : Int := if secOk x a = true then if inR n = true then (0 : Int) else (2 : Int) else (1 : Int); let v3 : Nat := v1.size; let v4 : List UInt8 := v1.data.toList; let v5 : Int := parE v4; let v6 : Int := parN v4; let v7 : Int := parS v4; let v8 : Int := parA v4; bif !eqB v1 v1 then ret (vB false) else bif !decide (v2 = v2) then ret (vB false) else bif !decide (v2 = (0 : Int)) then ret (vB true) else bif decide (v3 ≤ (9223372036854775700 : Nat)) then bif decide (v5 = (0 : Int)) then ret (vB (decide (v6 = n) && (decide (v7 = x) && (decide (v8 = a) && true)))) else ret (vB false) else none := by kernel_rfl
theorem isoprints_run (n : Int) (x : Int) (a : Int) : ∃ fu, isoprints_f.run isoprints_e [] fu [agg [.c (.int .i64 n), .c (.int .i64 x), .c (.int .i64 a)]] [] = some ⟨vB true, []⟩ := by
  refine ⟨0, ?_⟩
  rw [FnD.run, isoprints_ent]
  dsimp only
  have eb : ∀ s : ByteArray, eqB s s = true := fun s => by unfold eqB; simp
  rw [eb]
  refine condN rfl (condN (by simp) ?_)
  cases hs : secOk x a with
  | false => exact condB rfl rfl
  | true =>
    cases hr : inR n with
    | false => exact condB rfl rfl
    | true =>
      obtain ⟨p1, p2, p3, p4⟩ := par_print hr hs
      have hlen := iso_len hr hs
      simp only [Bool.and_self, if_true, tx_toList, tx_size]
      rw [p1, p2, p3, p4]
      exact condN rfl (condT (by omega) (condT rfl (retBB (by simp))))
theorem isoprints_ok (n : Int) (x : Int) (a : Int) : FnOk cfg 3 ([agg [.c (.int .i64 n), .c (.int .i64 x), .c (.int .i64 a)]].map SV.den) (vB true : SV).den := by
  obtain ⟨nn, h⟩ := isoprints_run n x a
  exact FnD.ok isoprints_g isoprints_f mixed Tryz.func3 rfl rfl rfl rfl rfl rfl h
noncomputable def c_isoprints : SpecF := fun args _ K => match args with
  | [.one (.agg [.c (.int .i64 n), .c (.int .i64 x), .c (.int .i64 a)])] => K (vB true) []
  | _ => none
theorem c_isoprints_ok : SpecOk cfg 3 c_isoprints := by
  intro args bx K out h
  unfold c_isoprints at h
  split at h
  · exact ⟨_, _, h, .inl (isoprints_ok _ _ _ _), by simp [isTupS]⟩
  · cases h
/-! ### epactlaw25.IsoParses -/
noncomputable def isoparses_e : Ev' := ⟨Tryz.prog, glob, Γof [(20, c_iparse), (21, c_rparse), (19, c_ianswers)]⟩
theorem isoparses_g : Gd cfg isoparses_e := gd (env_cons c_iparse_ok (env_cons c_rparse_ok (env_cons c_ianswers_ok (env_nil _))))
noncomputable def isoparses_f : FnD := ⟨4, Tryz.f4, noSh, Tryz.f4.resultTypes.toList⟩
theorem isoparses_ent (h : Hd) (s : ByteArray) : isoparses_f.ent isoparses_e [] h [vS s] [] = bif decide (s.size ≤ (9223372036854775700 : Nat)) then bif decide (s.size ≤ (9223372036854775600 : Nat)) then bif decide (parN s.data.toList = parN s.data.toList) && (decide (parS s.data.toList = parS s.data.toList) && (decide (parA s.data.toList = parA s.data.toList) && true)) then ret (vB (decide (parE s.data.toList = parE s.data.toList))) else ret (vB false) else none else none := by kernel_rfl
theorem isoparses_run (s : ByteArray) (hp : s.size ≤ 9223372036854775600) : ∃ fu, isoparses_f.run isoparses_e [] fu [vS s] [] = some ⟨vB true, []⟩ := by
  refine ⟨0, ?_⟩
  rw [FnD.run, isoparses_ent]
  exact condT (by omega) (condT (by omega) (condB (by simp) (retBB (by simp))))
theorem isoparses_ok (s : ByteArray) (hp : s.size ≤ 9223372036854775600) : FnOk cfg 4 ([vS s].map SV.den) (vB true : SV).den := by
  obtain ⟨nn, h⟩ := isoparses_run s hp
  exact FnD.ok isoparses_g isoparses_f mixed Tryz.func4 rfl rfl rfl rfl rfl rfl h
noncomputable def c_isoparses : SpecF := fun args _ K => match args with
  | [.one (.c (.str s))] => bif decide (s.size ≤ 9223372036854775600) then K (vB true) [] else none
  | _ => none
theorem c_isoparses_ok : SpecOk cfg 4 c_isoparses := by
  intro args bx K out h
  unfold c_isoparses at h
  split at h
  · obtain ⟨hp, h⟩ := bif_some h
    exact ⟨_, _, h, .inl (isoparses_ok _ (of_decide_eq_true hp) _), by simp [isTupS]⟩
  · cases h
/-! ### epactlaw25.IsoOrder -/
noncomputable def isoorder_e : Ev' := ⟨Tryz.prog, glob, Γof [(17, c_iprint), (19, c_ianswers), (22, c_rdate)]⟩
theorem isoorder_g : Gd cfg isoorder_e := gd (env_cons c_iprint_ok (env_cons c_ianswers_ok (env_cons c_rdate_ok (env_nil _))))
noncomputable def isoorder_f : FnD := ⟨5, Tryz.f5, noSh, Tryz.f5.resultTypes.toList⟩
theorem isoorder_ent (h : Hd) (n : Int) (x : Int) (a : Int) (m : Int) (y : Int) (b : Int) : isoorder_f.ent isoorder_e [] h [agg [.c (.int .i64 n), .c (.int .i64 x), .c (.int .i64 a)], agg [.c (.int .i64 m), .c (.int .i64 y), .c (.int .i64 b)]] [] = let v1 : Int := if secOk x (0 : Int) = true then if inR n = true then (0 : Int) else (2 : Int) else (1 : Int); let v2 : Int := if secOk y (0 : Int) = true then if inR m = true then (0 : Int) else (2 : Int) else (1 : Int); let v3 : ByteArray := if (secOk x (0 : Int) && inR n) = true then tx (isoL (labV n x (0 : Int))) else tx []; let v4 : ByteArray := if (secOk y (0 : Int) && inR m) = true then tx (isoL (labV m y (0 : Int))) else tx []; bif !decide (v1 = (0 : Int)) then ret (vB true) else bif !decide (v2 = (0 : Int)) then ret (vB true) else bif decide (inR n = true) then bif decide (inR m = true) then bif !decide (gY n = gY m) then ret (vB true) else bif decide (gY n < (0 : Int)) then ret (vB true) else bif decide ((9999 : Int) < gY n) then ret (vB true) else bif decide (n < m) then ret (vB (ltB v3 v4 == true)) else bif decide (n = m) then ret (vB (ltB v3 v4 == decide (x < y))) else ret (vB (ltB v3 v4 == false)) else none else none := by kernel_rfl
theorem isoorder_run (n : Int) (x : Int) (a : Int) (m : Int) (y : Int) (b : Int) : ∃ fu, isoorder_f.run isoorder_e [] fu [agg [.c (.int .i64 n), .c (.int .i64 x), .c (.int .i64 a)], agg [.c (.int .i64 m), .c (.int .i64 y), .c (.int .i64 b)]] [] = some ⟨vB true, []⟩ := by
  refine ⟨0, ?_⟩
  rw [FnD.run, isoorder_ent]
  dsimp only
  cases hs : secOk x 0 with
  | false => exact condB rfl rfl
  | true =>
  cases hr : inR n with
  | false => exact condB rfl rfl
  | true =>
  cases hs' : secOk y 0 with
  | false => exact condN rfl (condB rfl rfl)
  | true =>
  cases hr' : inR m with
  | false => exact condN rfl (condB rfl rfl)
  | true =>
  refine condN rfl (condN rfl (condT rfl (condT rfl ?_)))
  by_cases hy : gY n = gY m
  · refine condN (by rw [Bool.not_eq_false', decide_eq_true_eq]; exact hy) ?_
    by_cases h1 : gY n < 0
    · exact condT h1 rfl
    refine condF h1 ?_
    by_cases h2 : 9999 < gY n
    · exact condT h2 rfl
    refine condF h2 ?_
    have e := lt_iso hr hr' hs hs' hy
    simp only [Bool.and_self, if_true]
    unfold ltB
    rw [tx_toList, tx_toList, e]
    by_cases h3 : n < m
    · refine condT h3 (retBB ?_)
      rw [decide_eq_true h3]; rfl
    · refine condF h3 ?_
      by_cases h4 : n = m
      · refine condT h4 (retBB ?_)
        rw [decide_eq_false h3, decide_eq_true h4]; simp
      · refine condF h4 (retBB ?_)
        rw [decide_eq_false h3, decide_eq_false h4]; rfl
  · exact condB (by rw [Bool.not_eq_true', decide_eq_false_iff_not]; exact hy) rfl
theorem isoorder_ok (n : Int) (x : Int) (a : Int) (m : Int) (y : Int) (b : Int) : FnOk cfg 5 ([agg [.c (.int .i64 n), .c (.int .i64 x), .c (.int .i64 a)], agg [.c (.int .i64 m), .c (.int .i64 y), .c (.int .i64 b)]].map SV.den) (vB true : SV).den := by
  obtain ⟨nn, h⟩ := isoorder_run n x a m y b
  exact FnD.ok isoorder_g isoorder_f mixed Tryz.func5 rfl rfl rfl rfl rfl rfl h
noncomputable def c_isoorder : SpecF := fun args _ K => match args with
  | [.one (.agg [.c (.int .i64 n), .c (.int .i64 x), .c (.int .i64 a)]), .one (.agg [.c (.int .i64 m), .c (.int .i64 y), .c (.int .i64 b)])] => K (vB true) []
  | _ => none
theorem c_isoorder_ok : SpecOk cfg 5 c_isoorder := by
  intro args bx K out h
  unfold c_isoorder at h
  split at h
  · exact ⟨_, _, h, .inl (isoorder_ok _ _ _ _ _ _ _), by simp [isTupS]⟩
  · cases h
end Go.Proofs.YtldofkogmkfpjaaGreatDoor
