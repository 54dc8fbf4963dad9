/-
  The contracts of the document's answer for layer 25.
-/
import Derived.Test.YtldofkogmkfpjaaGreatDoorIzSyGreg
import Derived.Test.YtldofkogmkfpjaaGreatDoorIzSyFace
namespace Go.Proofs.YtldofkogmkfpjaaGreatDoor
open Go Go.Ev Go.Sy
set_option linter.unusedSimpArgs false
set_option linter.unusedVariables false
set_option maxRecDepth 10000
set_option maxHeartbeats 4000000

theorem dig_cnd (c : UInt8) : (decide ((48 : Int) ≤ (c.toNat : Int)) && decide ((c.toNat : Int) ≤ 57)) = isDig c := by
  unfold isDig
  rw [Bool.eq_iff_iff]; simp; omega
theorem byte_eq2 (c : UInt8) (n : Nat) (hn : n < 256) : ((c.toNat : Nat) : Int) = n ↔ c = UInt8.ofNat n := by
  rw [← UInt8.toNat_inj, UInt8.toNat_ofNat']
  omega
theorem textOf_1 (n : Nat) (h : n < 256) : textOf [(n : Int)] = tx [UInt8.ofNat n] := by
  simp [textOf, tx]
/-! ### epactref10.Dec -/
noncomputable def c_ndecB (B : Nat) : SpecF := fun args _ K => match args with
  | [.one (.c (.int .i64 n))] => bif decide ((0 ≤ n ∧ n < 9223372036854775808) ∧ n.toNat < B) then K (vS (tx (Lib.decDigits n.toNat))) [] else none
  | _ => none
noncomputable def ndec_e (B : Nat) : Ev' := ⟨Tryz.prog, glob, Γof [(79, c_ndecB B)]⟩
theorem ndec_g (B : Nat) (hB : SpecOk cfg 79 (c_ndecB B)) : Gd cfg (ndec_e B) := gd (env_cons hB (env_nil _))
noncomputable def ndec_f : FnD := ⟨79, Tryz.f79, noSh, Tryz.f79.resultTypes.toList⟩
theorem ndec_ent (h : Hd) (B : Nat) (n : Int) : ndec_f.ent (ndec_e B) [] h [vI n] [] = let v1 : ByteArray := textOf [IntKind.u8.wrap (IntKind.i64.wrap ((48 : Int) + n.tmod (10 : Int)))]; let v2 : Nat := (tx (Lib.decDigits (IntKind.i64.wrap (n.tdiv (10 : Int))).toNat)).size + v1.size; bif decide (n < (10 : Int)) then ret (vS (textOf [IntKind.u8.wrap (IntKind.i64.wrap ((48 : Int) + n))])) else bif decide (((0 : Int) ≤ IntKind.i64.wrap (n.tdiv (10 : Int)) ∧ IntKind.i64.wrap (n.tdiv (10 : Int)) < (9223372036854775808 : Int)) ∧ (IntKind.i64.wrap (n.tdiv (10 : Int))).toNat < B) then bif decide (v2 ≤ (9223372036854775807 : Nat)) then ret (vS (tx (Lib.decDigits (IntKind.i64.wrap (n.tdiv (10 : Int))).toNat) ++ v1)) else none else none := by kernel_rfl
theorem ndec_run (B : Nat) (n : Int) (hp : 0 ≤ n ∧ n < 9223372036854775808) (hB : n.toNat < B + 1) : ∃ fu, ndec_f.run (ndec_e B) [] fu [vI n] [] = some ⟨vS (tx (Lib.decDigits n.toNat)), []⟩ := by
  refine ⟨0, ?_⟩
  rw [FnD.run, ndec_ent]
  obtain ⟨h1, h2⟩ := hp
  obtain ⟨n, rfl⟩ := Int.eq_ofNat_of_zero_le h1
  rw [Int.toNat_natCast] at hB
  have w1 : IntKind.i64.wrap (((n : Nat) : Int).tdiv 10) = ((n / 10 : Nat) : Int) := by rw [show ((n : Nat) : Int).tdiv 10 = ((n / 10 : Nat) : Int) from rfl]; exact IntWalk.i64_in _ (by omega)
  have w2 : IntKind.u8.wrap (IntKind.i64.wrap (48 + ((n : Nat) : Int).tmod 10)) = ((48 + n % 10 : Nat) : Int) := by
    rw [show ((n : Nat) : Int).tmod 10 = ((n % 10 : Nat) : Int) from rfl, IntWalk.i64_in _ (by omega), IntWalk.u8_in _ (by omega)]; omega
  dsimp only
  rw [w1, w2, textOf_1 _ (by omega), Int.toNat_natCast, Int.toNat_natCast, tx_size, tx_size]
  by_cases h : n < 10
  · refine condT (by omega) (retV ?_)
    rw [IntWalk.i64_in _ (by omega), IntWalk.u8_in _ (by omega), show (48 : Int) + (n : Nat) = ((48 + n : Nat) : Int) by omega, textOf_1 _ (by omega), dec_small h]
  · have : (Lib.decDigits (n / 10)).length ≤ 19 := dec_len (k := 18) (by omega)
    refine condF (by omega) (condT ⟨by omega, by omega⟩ (condT (by rw [List.length_singleton]; omega) (retV ?_)))
    rw [dec_big h, tx_append]
theorem ndec_okB : ∀ (B : Nat), SpecOk cfg 79 (c_ndecB B)
  | 0 => by
    intro args bx K out h
    unfold c_ndecB at h
    split at h
    · obtain ⟨hp, _⟩ := bif_some h
      exact absurd (of_decide_eq_true hp).2 (Nat.not_lt_zero _)
    · cases h
  | B + 1 => by
    intro args bx K out h
    unfold c_ndecB at h
    split at h
    · obtain ⟨hp, h2⟩ := bif_some h
      have hp := of_decide_eq_true hp
      obtain ⟨nn, hr⟩ := ndec_run B _ hp.1 hp.2
      exact ⟨_, _, h2, .inl (FnD.ok (ndec_g B (ndec_okB B)) ndec_f mixed Tryz.func79 rfl rfl rfl rfl rfl rfl hr _), by simp [isTupS]⟩
    · cases h
theorem ndec_ok (n : Int) (hp : 0 ≤ n ∧ n < 9223372036854775808) : FnOk cfg 79 ([vI n].map SV.den) (vS (tx (Lib.decDigits n.toNat)) : SV).den := by
  obtain ⟨nn, h⟩ := ndec_run (n.toNat) n hp (Nat.lt_succ_self _)
  exact FnD.ok (ndec_g _ (ndec_okB _)) ndec_f mixed Tryz.func79 rfl rfl rfl rfl rfl rfl h
noncomputable def c_ndec : SpecF := fun args _ K => match args with
  | [.one (.c (.int .i64 n))] => bif decide (0 ≤ n ∧ n < 9223372036854775808) then K (vS (tx (Lib.decDigits n.toNat))) [] else none
  | _ => none
theorem c_ndec_ok : SpecOk cfg 79 c_ndec := by
  intro args bx K out h
  unfold c_ndec at h
  split at h
  · obtain ⟨hp, h⟩ := bif_some h
    exact ⟨_, _, h, .inl (ndec_ok _ (of_decide_eq_true hp) _), by simp [isTupS]⟩
  · cases h
/-! ### epactref25.fill -/
noncomputable def rfill_e : Ev' := ⟨Tryz.prog, glob, Γof [(79, c_ndec)]⟩
theorem rfill_g : Gd cfg rfill_e := gd (env_cons c_ndec_ok (env_nil _))
noncomputable def rfill_f : FnD := ⟨51, Tryz.f51, shOf [(0, ⟨15, [], [], [(1, .c (.int .i64)), (5, .c (.str))]⟩)], Tryz.f51.resultTypes.toList⟩
theorem rfill_ent (h : Hd) (n : Int) (w : Int) : rfill_f.ent rfill_e [] h [vI n, vI w] [] = bif decide ((0 : Int) ≤ n ∧ n < (9223372036854775808 : Int)) then h (0 : Nat) [Lf.i w, Lf.s (tx (Lib.decDigits n.toNat))] else none := by kernel_rfl
theorem rfill_l0 (h : Hd) (i0 : Int) (s1 : ByteArray) : rfill_f.seg rfill_e [] h 0 [.i i0, .s s1] = bif decide ((↑s1.size : Int) < i0) then bif decide ((1 : Nat) + s1.size ≤ (9223372036854775807 : Nat)) then h (0 : Nat) [Lf.i i0, Lf.s ((tx [(48 : UInt8)]) ++ s1)] else none else ret (vS s1) := by kernel_rfl

theorem rfill_loop {W N : Nat} (hW : W ≤ 1000) (hN : (Lib.decDigits N).length ≤ 19) : ∀ (k j : Nat), j ≤ W - (Lib.decDigits N).length → W - (Lib.decDigits N).length - j < k →
    rfill_f.H rfill_e [] k 0 [.i W, .s (tx (List.replicate j 48 ++ Lib.decDigits N))] = some ⟨vS (tx (padL W N)), []⟩ := by
  intro k
  induction k with
  | zero => intro j _ h; omega
  | succ k ih =>
    intro j hj hk
    rw [FnD.H_succ, rfill_l0, tx_size, List.length_append, List.length_replicate]
    by_cases h : j + (Lib.decDigits N).length < W
    · refine condT (by omega) (condT (by omega) ?_)
      rw [tx_append, show [(48 : UInt8)] ++ (List.replicate j 48 ++ Lib.decDigits N) = List.replicate (j + 1) 48 ++ Lib.decDigits N by rw [List.replicate_succ]; rfl]
      exact ih (j + 1) (by omega) (by omega)
    · refine condF (by omega) (retV ?_)
      unfold padL
      rw [show W - (Lib.decDigits N).length = j by omega]
theorem rfill_run (n : Int) (w : Int) (hp : (0 ≤ n ∧ n < 9223372036854775808) ∧ 0 ≤ w ∧ w ≤ 1000) : ∃ fu, rfill_f.run rfill_e [] fu [vI n, vI w] [] = some ⟨vS (tx (padL w.toNat n.toNat)), []⟩ := by
  obtain ⟨⟨h1, h2⟩, h3, h4⟩ := hp
  obtain ⟨N, rfl⟩ := Int.eq_ofNat_of_zero_le h1
  obtain ⟨W, rfl⟩ := Int.eq_ofNat_of_zero_le h3
  have hd : (Lib.decDigits N).length ≤ 19 := dec_len (k := 18) (by omega)
  refine ⟨W + 1, ?_⟩
  rw [FnD.run, rfill_ent]
  refine condT ⟨by omega, by omega⟩ ?_
  rw [Int.toNat_natCast, Int.toNat_natCast]
  exact rfill_loop (by omega) hd (W + 1) 0 (by omega) (by omega)
theorem rfill_ok (n : Int) (w : Int) (hp : (0 ≤ n ∧ n < 9223372036854775808) ∧ 0 ≤ w ∧ w ≤ 1000) : FnOk cfg 51 ([vI n, vI w].map SV.den) (vS (tx (padL w.toNat n.toNat)) : SV).den := by
  obtain ⟨nn, h⟩ := rfill_run n w hp
  exact FnD.ok rfill_g rfill_f mixed Tryz.func51 rfl rfl rfl rfl rfl rfl h
noncomputable def c_rfill : SpecF := fun args _ K => match args with
  | [.one (.c (.int .i64 n)), .one (.c (.int .i64 w))] => bif decide ((0 ≤ n ∧ n < 9223372036854775808) ∧ 0 ≤ w ∧ w ≤ 1000) then K (vS (tx (padL w.toNat n.toNat))) [] else none
  | _ => none
theorem c_rfill_ok : SpecOk cfg 51 c_rfill := by
  intro args bx K out h
  unfold c_rfill at h
  split at h
  · obtain ⟨hp, h⟩ := bif_some h
    exact ⟨_, _, h, .inl (rfill_ok _ _ (of_decide_eq_true hp) _), by simp [isTupS]⟩
  · cases h
/-! ### epactref25.Year -/
noncomputable def ryear_e : Ev' := ⟨Tryz.prog, glob, Γof [(51, c_rfill)]⟩
theorem ryear_g : Gd cfg ryear_e := gd (env_cons c_rfill_ok (env_nil _))
noncomputable def ryear_f : FnD := ⟨50, Tryz.f50, noSh, Tryz.f50.resultTypes.toList⟩
theorem ryear_ent (h : Hd) (n : Int) : ryear_f.ent ryear_e [] h [vI n] [] = let v1 : Nat := (1 : Nat) + (tx (padL (4 : Nat) (IntKind.i64.wrap ((0 : Int) - n)).toNat)).size; bif decide (n < (0 : Int)) then bif decide (((0 : Int) ≤ IntKind.i64.wrap ((0 : Int) - n) ∧ IntKind.i64.wrap ((0 : Int) - n) < (9223372036854775808 : Int)) ∧ (0 : Int) ≤ (4 : Int) ∧ (4 : Int) ≤ (1000 : Int)) then bif decide (v1 ≤ (9223372036854775807 : Nat)) then ret (vS ((tx [(45 : UInt8)]) ++ tx (padL (4 : Nat) (IntKind.i64.wrap ((0 : Int) - n)).toNat))) else none else none else bif decide ((9999 : Int) < n) then bif decide (((0 : Int) ≤ n ∧ n < (9223372036854775808 : Int)) ∧ (0 : Int) ≤ (4 : Int) ∧ (4 : Int) ≤ (1000 : Int)) then bif decide ((1 : Nat) + (tx (padL (4 : Nat) n.toNat)).size ≤ (9223372036854775807 : Nat)) then ret (vS ((tx [(43 : UInt8)]) ++ tx (padL (4 : Nat) n.toNat))) else none else none else bif decide (((0 : Int) ≤ n ∧ n < (9223372036854775808 : Int)) ∧ (0 : Int) ≤ (4 : Int) ∧ (4 : Int) ≤ (1000 : Int)) then ret (vS (tx (padL (4 : Nat) n.toNat))) else none := by kernel_rfl
theorem ryear_run (n : Int) (hp : -9223372036854775808 < n ∧ n < 9223372036854775808) : ∃ fu, ryear_f.run ryear_e [] fu [vI n] [] = some ⟨vS (tx (yearL n)), []⟩ := by
  refine ⟨0, ?_⟩
  rw [FnD.run, ryear_ent]
  dsimp only
  unfold yearL
  simp only [tx_size]
  by_cases h : n < 0
  · have hl := padL_len (w := 4) (n := (-n).toNat) (k := 18) (by omega) (by omega)
    rw [if_pos h, i64_in' (0 - n) (by omega), Int.zero_sub]
    exact condT h (condT ⟨⟨by omega, by omega⟩, by omega, by omega⟩ (condT (by omega) (retV (by rw [tx_append]; rfl))))
  · have hl := padL_len (w := 4) (n := n.toNat) (k := 18) (by omega) (by omega)
    rw [if_neg h]
    refine condF h ?_
    by_cases h2 : 9999 < n
    · rw [if_pos h2]
      exact condT h2 (condT ⟨⟨by omega, by omega⟩, by omega, by omega⟩ (condT (by omega) (retV (by rw [tx_append]; rfl))))
    · rw [if_neg h2]
      exact condF h2 (condT ⟨⟨by omega, by omega⟩, by omega, by omega⟩ rfl)
theorem ryear_ok (n : Int) (hp : -9223372036854775808 < n ∧ n < 9223372036854775808) : FnOk cfg 50 ([vI n].map SV.den) (vS (tx (yearL n)) : SV).den := by
  obtain ⟨nn, h⟩ := ryear_run n hp
  exact FnD.ok ryear_g ryear_f mixed Tryz.func50 rfl rfl rfl rfl rfl rfl h
noncomputable def c_ryear : SpecF := fun args _ K => match args with
  | [.one (.c (.int .i64 n))] => bif decide (-9223372036854775808 < n ∧ n < 9223372036854775808) then K (vS (tx (yearL n))) [] else none
  | _ => none
theorem c_ryear_ok : SpecOk cfg 50 c_ryear := by
  intro args bx K out h
  unfold c_ryear at h
  split at h
  · obtain ⟨hp, h⟩ := bif_some h
    exact ⟨_, _, h, .inl (ryear_ok _ (of_decide_eq_true hp) _), by simp [isTupS]⟩
  · cases h
/-! ### epactref25.Fraction -/
noncomputable def rfrac_e : Ev' := ⟨Tryz.prog, glob, Γof [(51, c_rfill)]⟩
theorem rfrac_g : Gd cfg rfrac_e := gd (env_cons c_rfill_ok (env_nil _))
noncomputable def rfrac_f : FnD := ⟨52, Tryz.f52, shOf [(0, ⟨21, [], [], [(3, .c (.str))]⟩)], Tryz.f52.resultTypes.toList⟩
theorem rfrac_ent (h : Hd) (n : Int) : rfrac_f.ent rfrac_e [] h [vI n] [] = bif decide (n = (0 : Int)) then ret (vS (tx [])) else bif decide (((0 : Int) ≤ n ∧ n < (9223372036854775808 : Int)) ∧ (0 : Int) ≤ (18 : Int) ∧ (18 : Int) ≤ (1000 : Int)) then h (0 : Nat) [Lf.s (tx (padL (18 : Nat) n.toNat))] else none := by kernel_rfl
theorem rfrac_l0 (h : Hd) (s0 : ByteArray) : rfrac_f.seg rfrac_e [] h 0 [.s s0] = let v1 : Int := (bytesI s0).getD (IntKind.i64.wrap ((↑s0.size : Int) - (1 : Int))).toNat (0 : Int); bif inB (IntKind.i64.wrap ((↑s0.size : Int) - (1 : Int))) s0.size then bif decide (v1 = (48 : Int)) then bif slB (0 : Int) (IntKind.i64.wrap ((↑s0.size : Int) - (1 : Int))) s0.size then h (0 : Nat) [Lf.s (s0.extract (0 : Nat) (IntKind.i64.wrap ((↑s0.size : Int) - (1 : Int))).toNat)] else none else bif decide ((1 : Nat) + s0.size ≤ (9223372036854775807 : Nat)) then ret (vS ((tx [(46 : UInt8)]) ++ s0)) else none else none := by kernel_rfl

theorem rfrac_loop {b : List UInt8} (hb : b ≠ []) (hl : b.length ≤ 18) (hx : ∀ x, b ≠ x ++ [48]) : ∀ (k j : Nat), j < k → j ≤ 30 →
    rfrac_f.H rfrac_e [] k 0 [.s (tx (b ++ List.replicate j 48))] = some ⟨vS (tx (46 :: b)), []⟩ := by
  have hb0 : b.length ≠ 0 := fun e => hb (List.length_eq_zero_iff.1 e)
  intro k
  induction k with
  | zero => intro j h; omega
  | succ k ih =>
    intro j hk hj
    rw [FnD.H_succ, rfrac_l0]
    have hs : (b ++ List.replicate j (48 : UInt8)).length = b.length + j := by rw [List.length_append, List.length_replicate]
    dsimp only
    rw [tx_size, hs, i64_in' (((b.length + j : Nat) : Int) - 1) (by omega), show (((b.length + j : Nat) : Int) - 1).toNat = b.length + j - 1 by omega, bytes_get]
    refine condB ((inB_iff _ _).2 (by omega)) ?_
    cases j with
    | zero =>
      have e := last_dec hb
      rw [Nat.add_zero, List.replicate_zero, List.append_nil]
      refine condF (fun h => ?_) (condT (by omega) (retV (by rw [tx_append]; rfl)))
      have h2 : b.getD (b.length - 1) 0 = 48 := (byte_eq2 _ 48 (by omega)).1 h
      rw [h2] at e
      exact hx _ e
    | succ j =>
      have e : b ++ List.replicate (j + 1) (48 : UInt8) = (b ++ List.replicate j 48) ++ [48] := by rw [List.replicate_succ', List.append_assoc]
      have hs2 : (b ++ List.replicate j (48 : UInt8)).length = b.length + (j + 1) - 1 := by rw [List.length_append, List.length_replicate]; omega
      rw [e, ← hs2, getD_add, tx_extract, List.drop_zero, Nat.sub_zero, List.take_left' rfl]
      refine condT rfl (condB (by unfold slB; simp; omega) ?_)
      exact ih j (by omega) (by omega)
theorem rfrac_run (n : Int) (hp : 0 ≤ n ∧ n < 1000000000000000000) : ∃ fu, rfrac_f.run rfrac_e [] fu [vI n] [] = some ⟨vS (tx (fracL n)), []⟩ := by
  by_cases h0 : n = 0
  · subst h0
    refine ⟨0, ?_⟩
    rw [FnD.run, rfrac_ent]; rfl
  · obtain ⟨b, e1, e2, e3, e4, e5, e6⟩ := body_of_frac (a := n) (by omega)
    obtain ⟨j, ej, _⟩ := trim_split (padL 18 n.toNat)
    have eb : Lib.trimRightS (padL 18 n.toNat) [48] = b := by
      unfold fracL at e1
      rw [if_neg h0] at e1
      exact (List.cons.inj e1).2
    rw [eb] at ej
    have hj : j ≤ 30 := by
      have hl := padL_len (w := 18) (n := n.toNat) (k := 17) (by omega) (by omega)
      rw [ej, List.length_append, List.length_replicate] at hl
      omega
    refine ⟨j + 1, ?_⟩
    rw [FnD.run, rfrac_ent]
    refine condF h0 (condT ⟨by omega, by omega, by omega⟩ ?_)
    rw [ej, e1]
    exact rfrac_loop e3 e4 e5 (j + 1) j (by omega) hj
theorem rfrac_ok (n : Int) (hp : 0 ≤ n ∧ n < 1000000000000000000) : FnOk cfg 52 ([vI n].map SV.den) (vS (tx (fracL n)) : SV).den := by
  obtain ⟨nn, h⟩ := rfrac_run n hp
  exact FnD.ok rfrac_g rfrac_f mixed Tryz.func52 rfl rfl rfl rfl rfl rfl h
noncomputable def c_rfrac : SpecF := fun args _ K => match args with
  | [.one (.c (.int .i64 n))] => bif decide (0 ≤ n ∧ n < 1000000000000000000) then K (vS (tx (fracL n))) [] else none
  | _ => none
theorem c_rfrac_ok : SpecOk cfg 52 c_rfrac := by
  intro args bx K out h
  unfold c_rfrac at h
  split at h
  · obtain ⟨hp, h⟩ := bif_some h
    exact ⟨_, _, h, .inl (rfrac_ok _ (of_decide_eq_true hp) _), by simp [isTupS]⟩
  · cases h
/-! ### epactref25.Print -/
noncomputable def rprint_e : Ev' := ⟨Tryz.prog, glob, Γof [(49, c_rin), (22, c_rdate), (50, c_ryear), (51, c_rfill), (52, c_rfrac)]⟩
theorem rprint_g : Gd cfg rprint_e := gd (env_cons c_rin_ok (env_cons c_rdate_ok (env_cons c_ryear_ok (env_cons c_rfill_ok (env_cons c_rfrac_ok (env_nil _))))))
noncomputable def rprint_f : FnD := ⟨18, Tryz.f18, noSh, Tryz.f18.resultTypes.toList⟩
theorem rprint_ent (h : Hd) (n : Int) (x : Int) (a : Int) : rprint_f.ent rprint_e [] h [agg [.c (.int .i64 n), .c (.int .i64 x), .c (.int .i64 a)]] [] = let v1 : Nat := (tx (yearL (gY n)) ++ (tx [(45 : UInt8)])).size + (tx (padL (2 : Nat) (gM n).toNat)).size; let v2 : ByteArray := tx (yearL (gY n)) ++ (tx [(45 : UInt8)]) ++ tx (padL (2 : Nat) (gM n).toNat); let v3 : Nat := v2.size + (1 : Nat); let v4 : ByteArray := v2 ++ (tx [(45 : UInt8)]); let v5 : Nat := v4.size + (tx (padL (2 : Nat) (gD n).toNat)).size; let v6 : ByteArray := v4 ++ tx (padL (2 : Nat) (gD n).toNat); let v7 : Nat := v6.size + (1 : Nat); let v8 : ByteArray := v6 ++ (tx [(84 : UInt8)]); let v9 : Nat := v8.size + (8 : Nat); let v10 : ByteArray := v8 ++ (tx [(50 : UInt8), (51 : UInt8), (58 : UInt8), (53 : UInt8), (57 : UInt8), (58 : UInt8), (54 : UInt8), (48 : UInt8)]); let v11 : Nat := v10.size + (tx (fracL a)).size; let v12 : ByteArray := v10 ++ tx (fracL a); let v13 : Nat := v12.size + (1 : Nat); let v14 : Nat := v8.size + (tx (padL (2 : Nat) (IntKind.i64.wrap (x.tdiv (3600 : Int))).toNat)).size; let v15 : ByteArray := v8 ++ tx (padL (2 : Nat) (IntKind.i64.wrap (x.tdiv (3600 : Int))).toNat); let v16 : Nat := v15.size + (1 : Nat); let v17 : ByteArray := v15 ++ (tx [(58 : UInt8)]); let v18 : Nat := v17.size + (tx (padL (2 : Nat) ((IntKind.i64.wrap (x.tdiv (60 : Int))).tmod (60 : Int)).toNat)).size; let v19 : ByteArray := v17 ++ tx (padL (2 : Nat) ((IntKind.i64.wrap (x.tdiv (60 : Int))).tmod (60 : Int)).toNat); let v20 : Nat := v19.size + (1 : Nat); let v21 : ByteArray := v19 ++ (tx [(58 : UInt8)]); let v22 : Nat := v21.size + (tx (padL (2 : Nat) (x.tmod (60 : Int)).toNat)).size; let v23 : ByteArray := v21 ++ tx (padL (2 : Nat) (x.tmod (60 : Int)).toNat); let v24 : Nat := v23.size + (tx (fracL a)).size; let v25 : ByteArray := v23 ++ tx (fracL a); let v26 : Nat := v25.size + (1 : Nat); bif decide (x < (0 : Int)) then ret (SV.tup [S1.c (Cl.str (tx [])), tI (1 : Int)]) else bif decide ((86400 : Int) < x) then ret (SV.tup [S1.c (Cl.str (tx [])), tI (1 : Int)]) else bif decide (a < (0 : Int)) then ret (SV.tup [S1.c (Cl.str (tx [])), tI (1 : Int)]) else bif decide ((1000000000000000000 : Int) ≤ a) then ret (SV.tup [S1.c (Cl.str (tx [])), tI (1 : Int)]) else bif !inR n then ret (SV.tup [S1.c (Cl.str (tx [])), tI (2 : Int)]) else bif decide (inR n = true) then bif decide ((-9223372036854775808 : Int) < gY n ∧ gY n < (9223372036854775808 : Int)) then bif decide ((tx (yearL (gY n))).size + (1 : Nat) ≤ (9223372036854775807 : Nat)) then bif decide (((0 : Int) ≤ gM n ∧ gM n < (9223372036854775808 : Int)) ∧ (0 : Int) ≤ (2 : Int) ∧ (2 : Int) ≤ (1000 : Int)) then bif decide (v1 ≤ (9223372036854775807 : Nat)) then bif decide (v3 ≤ (9223372036854775807 : Nat)) then bif decide (((0 : Int) ≤ gD n ∧ gD n < (9223372036854775808 : Int)) ∧ (0 : Int) ≤ (2 : Int) ∧ (2 : Int) ≤ (1000 : Int)) then bif decide (v5 ≤ (9223372036854775807 : Nat)) then bif decide (v7 ≤ (9223372036854775807 : Nat)) then bif decide (x = (86400 : Int)) then bif decide (v9 ≤ (9223372036854775807 : Nat)) then bif decide ((0 : Int) ≤ a ∧ a < (1000000000000000000 : Int)) then bif decide (v11 ≤ (9223372036854775807 : Nat)) then bif decide (v13 ≤ (9223372036854775807 : Nat)) then ret (SV.tup [S1.c (Cl.str (v12 ++ (tx [(90 : UInt8)]))), tI (0 : Int)]) else none else none else none else none else bif decide (((0 : Int) ≤ IntKind.i64.wrap (x.tdiv (3600 : Int)) ∧ IntKind.i64.wrap (x.tdiv (3600 : Int)) < (9223372036854775808 : Int)) ∧ (0 : Int) ≤ (2 : Int) ∧ (2 : Int) ≤ (1000 : Int)) then bif decide (v14 ≤ (9223372036854775807 : Nat)) then bif decide (v16 ≤ (9223372036854775807 : Nat)) then bif decide (((0 : Int) ≤ (IntKind.i64.wrap (x.tdiv (60 : Int))).tmod (60 : Int) ∧ (IntKind.i64.wrap (x.tdiv (60 : Int))).tmod (60 : Int) < (9223372036854775808 : Int)) ∧ (0 : Int) ≤ (2 : Int) ∧ (2 : Int) ≤ (1000 : Int)) then bif decide (v18 ≤ (9223372036854775807 : Nat)) then bif decide (v20 ≤ (9223372036854775807 : Nat)) then bif decide (((0 : Int) ≤ x.tmod (60 : Int) ∧ x.tmod (60 : Int) < (9223372036854775808 : Int)) ∧ (0 : Int) ≤ (2 : Int) ∧ (2 : Int) ≤ (1000 : Int)) then bif decide (v22 ≤ (9223372036854775807 : Nat)) then bif decide ((0 : Int) ≤ a ∧ a < (1000000000000000000 : Int)) then bif decide (v24 ≤ (9223372036854775807 : Nat)) then bif decide (v26 ≤ (9223372036854775807 : Nat)) then ret (SV.tup [S1.c (Cl.str (v25 ++ (tx [(90 : UInt8)]))), tI (0 : Int)]) else none else none else none else none else none else none else none else none else none else none else none else none else none else none else none else none else none else none else none else none := by kernel_rfl

theorem retSI {a b : List UInt8} {e : Int} (h : a = b) : (ret (.tup [.c (.str (tx a)), tI e])) = some ⟨.tup [tS (tx b), tI e], []⟩ := by rw [h]
theorem rprint_run (n : Int) (x : Int) (a : Int) : ∃ fu, rprint_f.run rprint_e [] fu [agg [.c (.int .i64 n), .c (.int .i64 x), .c (.int .i64 a)]] [] = some ⟨.tup [tS (if (secOk x a && inR n) = true then tx (isoL (labV n x a)) else tx []), tI (if secOk x a = true then (if inR n = true then 0 else 2) else 1)], []⟩ := by
  refine ⟨0, ?_⟩
  rw [FnD.run, rprint_ent]
  dsimp only
  simp only [tx_append, tx_size, List.append_assoc]
  cases hs : secOk x a with
  | false =>
    unfold secOk at hs
    rw [decide_eq_false_iff_not] at hs
    by_cases h1 : x < 0
    · exact condT h1 rfl
    refine condF h1 ?_
    by_cases h2 : 86400 < x
    · exact condT h2 rfl
    refine condF h2 ?_
    by_cases h3 : a < 0
    · exact condT h3 rfl
    · exact condF h3 (condT (by omega) rfl)
  | true =>
    have hs' := hs
    unfold secOk at hs'
    rw [decide_eq_true_eq] at hs'
    refine condF (by omega) (condF (by omega) (condF (by omega) (condF (by omega) ?_)))
    cases hr : inR n with
    | false => exact condB rfl rfl
    | true =>
      have ok := labV_ok hr hs
      have ky := gY_in hr
      have k1 : 0 ≤ gM n ∧ gM n < 100 := ok.mo
      have k2 : 0 ≤ gD n ∧ gD n < 100 := ok.d
      have hy := year_len_le (y := gY n) (by omega)
      have hf := frac_len a (by omega)
      have p1 := padL_len (w := 2) (n := (gM n).toNat) (k := 1) (by omega) (by omega)
      have p2 := padL_len (w := 2) (n := (gD n).toNat) (k := 1) (by omega) (by omega)
      have p3 : ∀ m : Nat, m < 100 → (padL 2 m).length ≤ 2 := fun m hm => padL_len (w := 2) (n := m) (k := 1) (by omega) (by omega)
      have L : ∀ (a b : List UInt8) (A B : Nat), a.length ≤ A → b.length ≤ B → (a ++ b).length ≤ A + B := fun a b A B h1 h2 => by rw [List.length_append]; omega
      simp only [List.length_append, List.length_cons, List.length_nil]
      refine condN rfl (condT trivial (condT (by omega) (condT (by omega) (condT ⟨by omega, by omega⟩ (condT (by omega) (condT (by omega) (condT ⟨by omega, by omega⟩ (condT (by omega) (condT (by omega) ?_)))))))))
      simp only [Bool.and_self, if_true]
      by_cases h6 : x = 86400
      · subst h6
        refine condT rfl (condT (by omega) (condT (by omega) (condT (by omega) (condT (by omega) (retSI ?_)))))
        have q1 : padL 2 (hrH 86400).toNat = [50, 51] := by rw [padL_D (k := 1) (by decide)]; rfl
        have q2 : padL 2 (hrM 86400).toNat = [53, 57] := by rw [padL_D (k := 1) (by decide)]; rfl
        have q3 : padL 2 (hrS 86400).toNat = [54, 48] := by rw [padL_D (k := 1) (by decide)]; rfl
        unfold isoL midL labV
        dsimp only
        rw [q1, q2, q3]
        simp
      · have w1 : IntKind.i64.wrap (x.tdiv 3600) = hrH x := by
          rw [tdiv_nn _ _ hs'.1, i64_in' _ (by omega)]; unfold hrH secM; split <;> omega
        have w2 : (IntKind.i64.wrap (x.tdiv 60)).tmod 60 = hrM x := by
          rw [tdiv_nn _ _ hs'.1, i64_in' _ (by omega), Int.tmod_eq_emod_of_nonneg (by omega)]; unfold hrM secM; split <;> omega
        have w3 : x.tmod 60 = hrS x := by
          rw [Int.tmod_eq_emod_of_nonneg hs'.1]; unfold hrS secM; split <;> omega
        have k3 : 0 ≤ hrH x ∧ hrH x < 100 := ok.h
        have k4 : 0 ≤ hrM x ∧ hrM x < 100 := ok.mi
        have k5 : 0 ≤ hrS x ∧ hrS x < 100 := ok.s
        have q1 := p3 (hrH x).toNat (by omega)
        have q2 := p3 (hrM x).toNat (by omega)
        have q3 := p3 (hrS x).toNat (by omega)
        rw [w1, w2, w3]
        refine condF h6 (condT ⟨by omega, by omega⟩ (condT (by omega) (condT (by omega) (condT ⟨by omega, by omega⟩ (condT (by omega) (condT (by omega) (condT ⟨by omega, by omega⟩ (condT (by omega) (condT (by omega) (condT (by omega) (condT (by omega) (retSI ?_))))))))))))
        unfold isoL midL labV
        simp only [List.append_assoc, List.cons_append, List.nil_append]
theorem rprint_ok (n : Int) (x : Int) (a : Int) : FnOk cfg 18 ([agg [.c (.int .i64 n), .c (.int .i64 x), .c (.int .i64 a)]].map SV.den) (.tup [tS (if (secOk x a && inR n) = true then tx (isoL (labV n x a)) else tx []), tI (if secOk x a = true then (if inR n = true then 0 else 2) else 1)] : SV).den := by
  obtain ⟨nn, h⟩ := rprint_run n x a
  exact FnD.ok rprint_g rprint_f mixed Tryz.func18 rfl rfl rfl rfl rfl rfl h
noncomputable def c_rprint : SpecF := fun args _ K => match args with
  | [.one (.agg [.c (.int .i64 n), .c (.int .i64 x), .c (.int .i64 a)])] => K (.tup [tS (if (secOk x a && inR n) = true then tx (isoL (labV n x a)) else tx []), tI (if secOk x a = true then (if inR n = true then 0 else 2) else 1)]) []
  | _ => none
theorem c_rprint_ok : SpecOk cfg 18 c_rprint := by
  intro args bx K out h
  unfold c_rprint at h
  split at h
  · exact ⟨_, _, h, .inl (rprint_ok _ _ _ _), by simp [isTupS]⟩
  · cases h
/-! ### epactref25.digit -/
noncomputable def rdigit_e : Ev' := ⟨Tryz.prog, glob, Γof []⟩
theorem rdigit_g : Gd cfg rdigit_e := gd (env_nil _)
noncomputable def rdigit_f : FnD := ⟨107, Tryz.f107, noSh, Tryz.f107.resultTypes.toList⟩
theorem rdigit_ent (h : Hd) (c : Int) : rdigit_f.ent rdigit_e [] h [c1 (.int .u8 c)] [] = bif decide ((48 : Int) ≤ c) then ret (vB (decide (c ≤ (57 : Int)))) else ret (vB false) := by kernel_rfl
theorem rdigit_run (c : Int) : ∃ fu, rdigit_f.run rdigit_e [] fu [c1 (.int .u8 c)] [] = some ⟨vB (decide (48 ≤ c) && decide (c ≤ 57)), []⟩ := by
  refine ⟨0, ?_⟩
  rw [FnD.run, rdigit_ent]
  by_cases h : 48 ≤ c <;> simp [h]
theorem rdigit_ok (c : Int) : FnOk cfg 107 ([c1 (.int .u8 c)].map SV.den) (vB (decide (48 ≤ c) && decide (c ≤ 57)) : SV).den := by
  obtain ⟨nn, h⟩ := rdigit_run c
  exact FnD.ok rdigit_g rdigit_f mixed Tryz.func107 rfl rfl rfl rfl rfl rfl h
noncomputable def c_rdigit : SpecF := fun args _ K => match args with
  | [.one (.c (.int .u8 c))] => K (vB (decide (48 ≤ c) && decide (c ≤ 57))) []
  | _ => none
theorem c_rdigit_ok : SpecOk cfg 107 c_rdigit := by
  intro args bx K out h
  unfold c_rdigit at h
  split at h
  · exact ⟨_, _, h, .inl (rdigit_ok _ _), by simp [isTupS]⟩
  · cases h
/-! ### epactref25.run -/
noncomputable def rrun_e : Ev' := ⟨Tryz.prog, glob, Γof [(107, c_rdigit)]⟩
theorem rrun_g : Gd cfg rrun_e := gd (env_cons c_rdigit_ok (env_nil _))
noncomputable def rrun_f : FnD := ⟨58, Tryz.f58, shOf [(0, ⟨23, [], [], [(0, .c (.str)), (1, .c (.int .i64)), (5, .c (.int .i64))]⟩)], Tryz.f58.resultTypes.toList⟩
theorem rrun_ent (h : Hd) (s : ByteArray) (k : Int) : rrun_f.ent rrun_e [] h [vS s, vI k] [] = h (0 : Nat) [Lf.s s, Lf.i k, Lf.i (0 : Int)] := by kernel_rfl
theorem rrun_l0 (h : Hd) (s0 : ByteArray) (i1 : Int) (i2 : Int) : rrun_f.seg rrun_e [] h 0 [.s s0, .i i1, .i i2] = bif decide (IntKind.i64.wrap (i1 + i2) < (↑s0.size : Int)) then bif inB (IntKind.i64.wrap (i1 + i2)) s0.size then bif decide ((48 : Int) ≤ (bytesI s0).getD (IntKind.i64.wrap (i1 + i2)).toNat (0 : Int)) && decide ((bytesI s0).getD (IntKind.i64.wrap (i1 + i2)).toNat (0 : Int) ≤ (57 : Int)) then h (0 : Nat) [Lf.s s0, Lf.i i1, Lf.i (IntKind.i64.wrap (i2 + (1 : Int)))] else ret (vI i2) else none else ret (vI i2) := by kernel_rfl

theorem rrun_loop {l : List UInt8} {K : Nat} (hl : l.length ≤ 9223372036854775700) (hK : K ≤ l.length) : ∀ (k j : Nat), j ≤ ((l.drop K).takeWhile isDig).length → ((l.drop K).takeWhile isDig).length - j < k →
    rrun_f.H rrun_e [] k 0 [.s (tx l), .i K, .i j] = some ⟨vI ((((l.drop K).takeWhile isDig).length : Nat) : Int), []⟩ := by
  have ht := tw_len isDig (l.drop K)
  rw [List.length_drop] at ht
  have hg : ∀ j, (l.drop K).getD j 0 = l.getD (K + j) 0 := fun j => by
    rw [List.getD_eq_getElem?_getD, List.getElem?_drop, ← List.getD_eq_getElem?_getD]
  intro k
  induction k with
  | zero => intro j _ h; omega
  | succ k ih =>
    intro j hj hk
    rw [FnD.H_succ, rrun_l0, tx_size, i64_in' ((K : Int) + j) (by omega), show ((K : Int) + (j : Nat)).toNat = K + j by omega, bytes_get, dig_cnd]
    rcases Nat.lt_or_ge j ((l.drop K).takeWhile isDig).length with h | h
    · have h2 := (tw_lt h).2
      rw [hg] at h2
      refine condT (by omega) (condB ((inB_iff _ _).2 (by omega)) (condB h2 ?_))
      rw [i64_in' ((j : Int) + 1) (by omega), show (j : Int) + 1 = ((j + 1 : Nat) : Int) by omega]
      exact ih (j + 1) (by omega) (by omega)
    · obtain rfl : j = ((l.drop K).takeWhile isDig).length := by omega
      by_cases h3 : K + ((l.drop K).takeWhile isDig).length < l.length
      · have h2 := tw_end (p := isDig) (l := l.drop K) (by rw [List.length_drop]; omega)
        rw [hg] at h2
        exact condT (by omega) (condB ((inB_iff _ _).2 (by omega)) (condN h2 rfl))
      · exact condF (by omega) rfl
theorem rrun_run (s : ByteArray) (k : Int) (hp : s.size ≤ 9223372036854775700 ∧ 0 ≤ k ∧ k ≤ s.size) : ∃ fu, rrun_f.run rrun_e [] fu [vS s, vI k] [] = some ⟨vI (((s.data.toList.drop k.toNat).takeWhile isDig).length : Int), []⟩ := by
  obtain ⟨l, rfl, hl⟩ := tx_get s
  rw [tx_size] at hp
  obtain ⟨h1, h2, h3⟩ := hp
  obtain ⟨K, rfl⟩ := Int.eq_ofNat_of_zero_le h2
  refine ⟨l.length + 1, ?_⟩
  rw [FnD.run, rrun_ent, tx_toList, Int.toNat_natCast]
  have := tw_len isDig (l.drop K)
  rw [List.length_drop] at this
  exact rrun_loop (by omega) (by omega) (l.length + 1) 0 (by omega) (by omega)
theorem rrun_ok (s : ByteArray) (k : Int) (hp : s.size ≤ 9223372036854775700 ∧ 0 ≤ k ∧ k ≤ s.size) : FnOk cfg 58 ([vS s, vI k].map SV.den) (vI (((s.data.toList.drop k.toNat).takeWhile isDig).length : Int) : SV).den := by
  obtain ⟨nn, h⟩ := rrun_run s k hp
  exact FnD.ok rrun_g rrun_f mixed Tryz.func58 rfl rfl rfl rfl rfl rfl h
noncomputable def c_rrun : SpecF := fun args _ K => match args with
  | [.one (.c (.str s)), .one (.c (.int .i64 k))] => bif decide (s.size ≤ 9223372036854775700 ∧ 0 ≤ k ∧ k ≤ s.size) then K (vI (((s.data.toList.drop k.toNat).takeWhile isDig).length : Int)) [] else none
  | _ => none
theorem c_rrun_ok : SpecOk cfg 58 c_rrun := by
  intro args bx K out h
  unfold c_rrun at h
  split at h
  · obtain ⟨hp, h⟩ := bif_some h
    exact ⟨_, _, h, .inl (rrun_ok _ _ (of_decide_eq_true hp) _), by simp [isTupS]⟩
  · cases h
/-! ### epactref25.value -/
noncomputable def rvalue_e : Ev' := ⟨Tryz.prog, glob, Γof []⟩
theorem rvalue_g : Gd cfg rvalue_e := gd (env_nil _)
noncomputable def rvalue_f : FnD := ⟨59, Tryz.f59, shOf [(0, ⟨20, [], [], [(0, .c (.str)), (3, .c (.int .i64)), (4, .c (.int .i64))]⟩)], Tryz.f59.resultTypes.toList⟩
theorem rvalue_ent (h : Hd) (s : ByteArray) : rvalue_f.ent rvalue_e [] h [vS s] [] = h (0 : Nat) [Lf.s s, Lf.i (0 : Int), Lf.i (0 : Int)] := by kernel_rfl
theorem rvalue_l0 (h : Hd) (s0 : ByteArray) (i1 : Int) (i2 : Int) : rvalue_f.seg rvalue_e [] h 0 [.s s0, .i i1, .i i2] = bif decide (i2 < (↑s0.size : Int)) then bif inB i2 s0.size then h (0 : Nat) [Lf.s s0, Lf.i (IntKind.i64.wrap (IntKind.i64.wrap (i1 * (10 : Int)) + IntKind.i64.wrap (IntKind.u8.wrap ((bytesI s0).getD i2.toNat (0 : Int) - (48 : Int))))), Lf.i (IntKind.i64.wrap (i2 + (1 : Int)))] else none else ret (vI i1) := by kernel_rfl

theorem rvalue_loop {l : List UInt8} (hl : l.length ≤ 18) (hd : l.all isDig = true) : ∀ (k j : Nat), j ≤ l.length → l.length - j < k →
    rvalue_f.H rvalue_e [] k 0 [.s (tx l), .i (dval (l.take j)), .i j] = some ⟨vI (dval l), []⟩ := by
  have hb := dval_bound hd
  have hp := pow10_le hl
  have h18 : (10 : Int) ^ 18 = 1000000000000000000 := by decide
  intro k
  induction k with
  | zero => intro j _ h; omega
  | succ k ih =>
    intro j hj hk
    rw [FnD.H_succ, rvalue_l0, tx_size, Int.toNat_natCast, bytes_get]
    by_cases h : j < l.length
    · obtain ⟨d1, d2, d3, d4, d5⟩ := dval_take hd h
      have e8 : IntKind.u8.wrap (((l.getD j 0).toNat : Int) - 48) = dig (l.getD j 0) := by
        unfold dig at *
        exact IntWalk.u8_in _ (by omega)
      refine condT (by omega) (condB ((inB_iff _ _).2 (by omega)) ?_)
      rw [e8, i64_in' (dval (l.take j) * 10) (by omega), i64_in' (dig (l.getD j 0)) (by omega), i64_in' _ (by omega), ← d1, i64_in' ((j : Int) + 1) (by omega), show (j : Int) + 1 = ((j + 1 : Nat) : Int) by omega]
      exact ih (j + 1) (by omega) (by omega)
    · refine condF (by omega) ?_
      rw [List.take_of_length_le (by omega)]
theorem rvalue_run (s : ByteArray) (hp : s.size ≤ 18 ∧ s.data.toList.all isDig = true) : ∃ fu, rvalue_f.run rvalue_e [] fu [vS s] [] = some ⟨vI (dval s.data.toList), []⟩ := by
  obtain ⟨l, rfl, hl⟩ := tx_get s
  rw [tx_size, tx_toList] at hp
  refine ⟨l.length + 1, ?_⟩
  rw [FnD.run, rvalue_ent, tx_toList]
  exact rvalue_loop hp.1 hp.2 (l.length + 1) 0 (by omega) (by omega)
theorem rvalue_ok (s : ByteArray) (hp : s.size ≤ 18 ∧ s.data.toList.all isDig = true) : FnOk cfg 59 ([vS s].map SV.den) (vI (dval s.data.toList) : SV).den := by
  obtain ⟨nn, h⟩ := rvalue_run s hp
  exact FnD.ok rvalue_g rvalue_f mixed Tryz.func59 rfl rfl rfl rfl rfl rfl h
noncomputable def c_rvalue : SpecF := fun args _ K => match args with
  | [.one (.c (.str s))] => bif decide (s.size ≤ 18 ∧ s.data.toList.all isDig = true) then K (vI (dval s.data.toList)) [] else none
  | _ => none
theorem c_rvalue_ok : SpecOk cfg 59 c_rvalue := by
  intro args bx K out h
  unfold c_rvalue at h
  split at h
  · obtain ⟨hp, h⟩ := bif_some h
    exact ⟨_, _, h, .inl (rvalue_ok _ (of_decide_eq_true hp) _), by simp [isTupS]⟩
  · cases h
/-! ### epactref25.shape -/
noncomputable def rshape_e : Ev' := ⟨Tryz.prog, glob, Γof [(107, c_rdigit)]⟩
theorem rshape_g : Gd cfg rshape_e := gd (env_cons c_rdigit_ok (env_nil _))
noncomputable def rshape_f : FnD := ⟨60, Tryz.f60, shOf [(0, ⟨43, [], [], [(0, .c (.str)), (1, .c (.str)), (5, .c (.int .i64))]⟩)], Tryz.f60.resultTypes.toList⟩
theorem rshape_ent (h : Hd) (s : ByteArray) (p : ByteArray) : rshape_f.ent rshape_e [] h [vS s, vS p] [] = bif decide ((↑s.size : Int) < (↑p.size : Int)) then ret (vB false) else h (0 : Nat) [Lf.s s, Lf.s p, Lf.i (0 : Int)] := by kernel_rfl
theorem rshape_l0 (h : Hd) (s0 : ByteArray) (s1 : ByteArray) (i2 : Int) : rshape_f.seg rshape_e [] h 0 [.s s0, .s s1, .i i2] = bif decide (i2 < (↑s1.size : Int)) then bif inB i2 s1.size then bif decide ((bytesI s1).getD i2.toNat (0 : Int) = (48 : Int)) then bif inB i2 s0.size then bif !(decide ((48 : Int) ≤ (bytesI s0).getD i2.toNat (0 : Int)) && decide ((bytesI s0).getD i2.toNat (0 : Int) ≤ (57 : Int))) then ret (vB false) else bif inB i2 s1.size then bif !decide ((bytesI s1).getD i2.toNat (0 : Int) = (48 : Int)) then bif inB i2 s0.size then bif inB i2 s1.size then bif !decide ((bytesI s0).getD i2.toNat (0 : Int) = (bytesI s1).getD i2.toNat (0 : Int)) then ret (vB false) else h (0 : Nat) [Lf.s s0, Lf.s s1, Lf.i (IntKind.i64.wrap (i2 + (1 : Int)))] else none else none else h (0 : Nat) [Lf.s s0, Lf.s s1, Lf.i (IntKind.i64.wrap (i2 + (1 : Int)))] else none else none else bif inB i2 s1.size then bif !decide ((bytesI s1).getD i2.toNat (0 : Int) = (48 : Int)) then bif inB i2 s0.size then bif inB i2 s1.size then bif !decide ((bytesI s0).getD i2.toNat (0 : Int) = (bytesI s1).getD i2.toNat (0 : Int)) then ret (vB false) else h (0 : Nat) [Lf.s s0, Lf.s s1, Lf.i (IntKind.i64.wrap (i2 + (1 : Int)))] else none else none else h (0 : Nat) [Lf.s s0, Lf.s s1, Lf.i (IntKind.i64.wrap (i2 + (1 : Int)))] else none else none else ret (vB true) := by kernel_rfl

theorem shp_short : ∀ (q l : List UInt8), l.length < q.length → shpB q l = false
  | [], _, h => absurd h (by simp)
  | _ :: _, [], _ => rfl
  | p :: q, c :: l, h => by rw [shpB, shp_short q l (by simpa using h), Bool.and_false]
theorem rshape_loop {l q : List UInt8} (hl : l.length ≤ 9223372036854775700) (hq : q.length ≤ l.length) : ∀ (k j : Nat), j ≤ q.length → q.length - j < k →
    rshape_f.H rshape_e [] k 0 [.s (tx l), .s (tx q), .i j] = some ⟨vB (shpB (q.drop j) (l.drop j)), []⟩ := by
  intro k
  induction k with
  | zero => intro j _ h; omega
  | succ k ih =>
    intro j hj hk
    rw [FnD.H_succ, rshape_l0, tx_size, tx_size, Int.toNat_natCast, bytes_get, bytes_get, dig_cnd]
    by_cases h : j < q.length
    · have eq : q.drop j = q.getD j 0 :: q.drop (j + 1) := by
        rw [List.drop_eq_getElem_cons h, List.getD_eq_getElem?_getD, List.getElem?_eq_getElem h]; rfl
      have el : l.drop j = l.getD j 0 :: l.drop (j + 1) := by
        rw [List.drop_eq_getElem_cons (by omega), List.getD_eq_getElem?_getD, List.getElem?_eq_getElem (by omega)]; rfl
      have i1 : inB (j : Int) q.length = true := (inB_iff _ _).2 (by omega)
      have i2 : inB (j : Int) l.length = true := (inB_iff _ _).2 (by omega)
      have nx := ih (j + 1) (by omega) (by omega)
      rw [i64_in' ((j : Int) + 1) (by omega), show (j : Int) + 1 = ((j + 1 : Nat) : Int) by omega, nx, i1, i2, eq, el, shpB]
      refine condT (by omega) (condB rfl ?_)
      by_cases h48 : q.getD j 0 = 48
      · rw [if_pos h48]
        refine condT ((byte_eq2 _ 48 (by omega)).2 h48) (condB rfl ?_)
        cases hd : isDig (l.getD j 0) with
        | false => exact condB rfl rfl
        | true => exact condN rfl (condB rfl (condN (by rw [Bool.not_eq_false', decide_eq_true_eq]; exact (byte_eq2 _ 48 (by omega)).2 h48) rfl))
      · have hn : ¬ ((q.getD j 0).toNat : Int) = 48 := fun e => h48 ((byte_eq2 _ 48 (by omega)).1 e)
        rw [if_neg h48]
        refine condF hn (condB rfl (condB (by rw [Bool.not_eq_true', decide_eq_false_iff_not]; exact hn) (condB rfl (condB rfl ?_))))
        by_cases he : l.getD j 0 = q.getD j 0
        · rw [he, decide_eq_true rfl, decide_eq_true rfl]; rfl
        · rw [decide_eq_false he]
          refine condB (by rw [Bool.not_eq_true', decide_eq_false_iff_not]; exact fun e => he (UInt8.toNat_inj.1 (by omega))) rfl
    · obtain rfl : j = q.length := by omega
      refine condF (by omega) ?_
      rw [List.drop_length]; rfl
theorem rshape_run (s : ByteArray) (p : ByteArray) (hp : s.size ≤ 9223372036854775700 ∧ p.size ≤ 1000) : ∃ fu, rshape_f.run rshape_e [] fu [vS s, vS p] [] = some ⟨vB (shpB p.data.toList s.data.toList), []⟩ := by
  obtain ⟨l, rfl, hl⟩ := tx_get s
  obtain ⟨q, rfl, hq⟩ := tx_get p
  rw [tx_size, tx_size] at hp
  refine ⟨q.length + 1, ?_⟩
  rw [FnD.run, rshape_ent, tx_toList, tx_toList, tx_size, tx_size]
  by_cases h : l.length < q.length
  · refine condT (by omega) (retBB ?_)
    exact (shp_short q l h).symm
  · refine condF (by omega) ?_
    exact rshape_loop (by omega) (by omega) (q.length + 1) 0 (by omega) (by omega)
theorem rshape_ok (s : ByteArray) (p : ByteArray) (hp : s.size ≤ 9223372036854775700 ∧ p.size ≤ 1000) : FnOk cfg 60 ([vS s, vS p].map SV.den) (vB (shpB p.data.toList s.data.toList) : SV).den := by
  obtain ⟨nn, h⟩ := rshape_run s p hp
  exact FnD.ok rshape_g rshape_f mixed Tryz.func60 rfl rfl rfl rfl rfl rfl h
noncomputable def c_rshape : SpecF := fun args _ K => match args with
  | [.one (.c (.str s)), .one (.c (.str p))] => bif decide (s.size ≤ 9223372036854775700 ∧ p.size ≤ 1000) then K (vB (shpB p.data.toList s.data.toList)) [] else none
  | _ => none
theorem c_rshape_ok : SpecOk cfg 60 c_rshape := by
  intro args bx K out h
  unfold c_rshape at h
  split at h
  · obtain ⟨hp, h⟩ := bif_some h
    exact ⟨_, _, h, .inl (rshape_ok _ _ (of_decide_eq_true hp) _), by simp [isTupS]⟩
  · cases h
/-! ### epactref05.Time -/
noncomputable def rtime_e : Ev' := ⟨Tryz.prog, glob, Γof []⟩
theorem rtime_g : Gd cfg rtime_e := gd (env_nil _)
noncomputable def rtime_f : FnD := ⟨62, Tryz.f62, noSh, Tryz.f62.resultTypes.toList⟩
theorem rtime_ent (h : Hd) (hh : Int) (mi : Int) (s : Int) (a : Int) : rtime_f.ent rtime_e [] h [agg [.c (.int .i64 hh), .c (.int .i64 mi), .c (.int .i64 s), .c (.int .i64 a)]] [] = bif decide (hh < (0 : Int)) then ret (vB false) else bif decide ((23 : Int) < hh) then ret (vB false) else bif decide (mi < (0 : Int)) then ret (vB false) else bif decide ((59 : Int) < mi) then ret (vB false) else bif decide (s < (0 : Int)) then ret (vB false) else bif decide (a < (0 : Int)) then ret (vB false) else bif decide ((1000000000000000000 : Int) ≤ a) then ret (vB false) else bif decide (s ≤ (59 : Int)) then ret (vB true) else bif decide (s = (60 : Int)) then bif decide (hh = (23 : Int)) then ret (vB (decide (mi = (59 : Int)))) else ret (vB false) else ret (vB false) := by kernel_rfl
theorem rtime_run (hh : Int) (mi : Int) (s : Int) (a : Int) : ∃ fu, rtime_f.run rtime_e [] fu [agg [.c (.int .i64 hh), .c (.int .i64 mi), .c (.int .i64 s), .c (.int .i64 a)]] [] = some ⟨vB (timeOk hh mi s a), []⟩ := by
  refine ⟨0, ?_⟩
  rw [FnD.run, rtime_ent]
  unfold timeOk
  by_cases h1 : hh < 0
  · exact condT h1 (retBB (decide_eq_false (by omega)).symm)
  refine condF h1 ?_
  by_cases h2 : 23 < hh
  · exact condT h2 (retBB (decide_eq_false (by omega)).symm)
  refine condF h2 ?_
  by_cases h3 : mi < 0
  · exact condT h3 (retBB (decide_eq_false (by omega)).symm)
  refine condF h3 ?_
  by_cases h4 : 59 < mi
  · exact condT h4 (retBB (decide_eq_false (by omega)).symm)
  refine condF h4 ?_
  by_cases h5 : s < 0
  · exact condT h5 (retBB (decide_eq_false (by omega)).symm)
  refine condF h5 ?_
  by_cases h6 : a < 0
  · exact condT h6 (retBB (decide_eq_false (by omega)).symm)
  refine condF h6 ?_
  by_cases h7 : 1000000000000000000 ≤ a
  · exact condT h7 (retBB (decide_eq_false (by omega)).symm)
  refine condF h7 ?_
  by_cases h8 : s ≤ 59
  · exact condT h8 (retBB (decide_eq_true (by omega)).symm)
  refine condF h8 ?_
  by_cases h9 : s = 60
  · refine condT h9 ?_
    by_cases h10 : hh = 23
    · exact condT h10 (retBB (by rw [decide_eq_decide]; omega))
    · exact condF h10 (retBB (decide_eq_false (by omega)).symm)
  · exact condF h9 (retBB (decide_eq_false (by omega)).symm)
theorem rtime_ok (hh : Int) (mi : Int) (s : Int) (a : Int) : FnOk cfg 62 ([agg [.c (.int .i64 hh), .c (.int .i64 mi), .c (.int .i64 s), .c (.int .i64 a)]].map SV.den) (vB (timeOk hh mi s a) : SV).den := by
  obtain ⟨nn, h⟩ := rtime_run hh mi s a
  exact FnD.ok rtime_g rtime_f mixed Tryz.func62 rfl rfl rfl rfl rfl rfl h
noncomputable def c_rtime : SpecF := fun args _ K => match args with
  | [.one (.agg [.c (.int .i64 hh), .c (.int .i64 mi), .c (.int .i64 s), .c (.int .i64 a)])] => K (vB (timeOk hh mi s a)) []
  | _ => none
theorem c_rtime_ok : SpecOk cfg 62 c_rtime := by
  intro args bx K out h
  unfold c_rtime at h
  split at h
  · exact ⟨_, _, h, .inl (rtime_ok _ _ _ _ _), by simp [isTupS]⟩
  · cases h
/-! ### epactref25.Parse -/
noncomputable def rparse_e : Ev' := ⟨Tryz.prog, glob, Γof [(58, c_rrun), (59, c_rvalue), (50, c_ryear), (60, c_rshape), (61, c_rvalid), (62, c_rtime), (63, c_rday)]⟩
theorem rparse_g : Gd cfg rparse_e := gd (env_cons c_rrun_ok (env_cons c_rvalue_ok (env_cons c_ryear_ok (env_cons c_rshape_ok (env_cons c_rvalid_ok (env_cons c_rtime_ok (env_cons c_rday_ok (env_nil _))))))))
noncomputable def rparse_f : FnD := ⟨21, Tryz.f21, shOf [(0, ⟨187, [], [(2, [.c (.int .i64), .c (.int .i64), .c (.int .i64)]), (4, [.c (.int .i64), .c (.int .i64), .c (.int .i64)])], [(2, .c (.ptr 2 0)), (4, .c (.ptr 4 0)), (7, .c (.int .i64)), (8, .c (.str)), (10, .c (.int .i64)), (11, .c (.int .i64))]⟩)], Tryz.f21.resultTypes.toList⟩
theorem rparse_ent (h : Hd) (s : ByteArray) : rparse_f.ent rparse_e [] h [vS s] [] = let v1 : Int := IntKind.i64.wrap ((1 : Int) + (↑(List.takeWhile isDig (List.drop (1 : Nat) s.data.toList)).length : Int)); let v2 : Nat := v1.toNat; let v3 : ByteArray := s.extract (1 : Nat) v2; let v4 : Nat := v3.size; let v5 : List UInt8 := v3.data.toList; let v6 : Int := dval v5; let v7 : Int := IntKind.i64.wrap ((0 : Int) - v6); let v8 : ByteArray := tx (yearL v7); let v9 : ByteArray := s.extract (0 : Nat) v2; let v10 : ByteArray := s.extract v2 (↑s.size : Int).toNat; let v11 : Nat := v10.size; let v12 : ByteArray := v10.extract (15 : Nat) (↑v11 : Int).toNat; let v13 : Nat := v12.size; let v14 : Int := IntKind.i64.wrap ((↑v13 : Int) - (1 : Int)); let v15 : Nat := v14.toNat; let v16 : Int := (bytesI v12).getD v15 (0 : Int); let v17 : ByteArray := v12.extract (0 : Nat) v15; let v18 : Nat := v17.size; let v19 : Int := (bytesI v17).getD (0 : Nat) (0 : Int); let v20 : Nat := (List.takeWhile isDig (List.drop (1 : Nat) v17.data.toList)).length; let v21 : Int := IntKind.i64.wrap ((↑v18 : Int) - (1 : Int)); let v22 : Int := (bytesI v17).getD v21.toNat (0 : Int); let v23 : ByteArray := v17.extract (1 : Nat) (↑v18 : Int).toNat; let v24 : Nat := v23.size; let v25 : List UInt8 := v23.data.toList; let v26 : Int := dval v25; let v27 : ByteArray := v10.extract (1 : Nat) (3 : Nat); let v28 : Nat := v27.size; let v29 : List UInt8 := v27.data.toList; let v30 : ByteArray := v10.extract (4 : Nat) (6 : Nat); let v31 : Nat := v30.size; let v32 : List UInt8 := v30.data.toList; let v33 : ByteArray := v10.extract (7 : Nat) (9 : Nat); let v34 : Nat := v33.size; let v35 : List UInt8 := v33.data.toList; let v36 : ByteArray := v10.extract (10 : Nat) (12 : Nat); let v37 : Nat := v36.size; let v38 : List UInt8 := v36.data.toList; let v39 : ByteArray := v10.extract (13 : Nat) (15 : Nat); let v40 : Nat := v39.size; let v41 : List UInt8 := v39.data.toList; let v42 : Int := dval v29; let v43 : Int := dval v32; let v44 : Int := dval v35; let v45 : Int := dval v38; let v46 : Int := dval v41; let v47 : Int := dayE v7 v42 v43; let v48 : Int := dayN v7 v42 v43; let v49 : Int := IntKind.i64.wrap (IntKind.i64.wrap (IntKind.i64.wrap (v44 * (3600 : Int)) + IntKind.i64.wrap (v45 * (60 : Int))) + v46); let v50 : ByteArray := tx (yearL v6); let v51 : Int := dayE v6 v42 v43; let v52 : Int := dayN v6 v42 v43; let v53 : Int := IntKind.i64.wrap ((0 : Int) + (↑(List.takeWhile isDig (List.drop (0 : Nat) s.data.toList)).length : Int)); let v54 : Nat := v53.toNat; let v55 : ByteArray := s.extract (0 : Nat) v54; let v56 : Nat := v55.size; let v57 : List UInt8 := v55.data.toList; let v58 : Int := dval v57; let v59 : ByteArray := tx (yearL v58); let v60 : ByteArray := s.extract v54 (↑s.size : Int).toNat; let v61 : Nat := v60.size; let v62 : ByteArray := v60.extract (15 : Nat) (↑v61 : Int).toNat; let v63 : Nat := v62.size; let v64 : Int := IntKind.i64.wrap ((↑v63 : Int) - (1 : Int)); let v65 : Nat := v64.toNat; let v66 : Int := (bytesI v62).getD v65 (0 : Int); let v67 : ByteArray := v62.extract (0 : Nat) v65; let v68 : Nat := v67.size; let v69 : Int := (bytesI v67).getD (0 : Nat) (0 : Int); let v70 : Nat := (List.takeWhile isDig (List.drop (1 : Nat) v67.data.toList)).length; let v71 : Int := IntKind.i64.wrap ((↑v68 : Int) - (1 : Int)); let v72 : Int := (bytesI v67).getD v71.toNat (0 : Int); let v73 : ByteArray := v67.extract (1 : Nat) (↑v68 : Int).toNat; let v74 : Nat := v73.size; let v75 : List UInt8 := v73.data.toList; let v76 : Int := dval v75; let v77 : ByteArray := v60.extract (1 : Nat) (3 : Nat); let v78 : Nat := v77.size; let v79 : List UInt8 := v77.data.toList; let v80 : ByteArray := v60.extract (4 : Nat) (6 : Nat); let v81 : Nat := v80.size; let v82 : List UInt8 := v80.data.toList; let v83 : ByteArray := v60.extract (7 : Nat) (9 : Nat); let v84 : Nat := v83.size; let v85 : List UInt8 := v83.data.toList; let v86 : ByteArray := v60.extract (10 : Nat) (12 : Nat); let v87 : Nat := v86.size; let v88 : List UInt8 := v86.data.toList; let v89 : ByteArray := v60.extract (13 : Nat) (15 : Nat); let v90 : Nat := v89.size; let v91 : List UInt8 := v89.data.toList; let v92 : Int := dval v79; let v93 : Int := dval v82; let v94 : Int := dval v85; let v95 : Int := dval v88; let v96 : Int := dval v91; let v97 : Int := dayE v58 v92 v93; let v98 : Int := dayN v58 v92 v93; let v99 : Int := IntKind.i64.wrap (IntKind.i64.wrap (IntKind.i64.wrap (v94 * (3600 : Int)) + IntKind.i64.wrap (v95 * (60 : Int))) + v96); bif decide ((0 : Int) < (↑s.size : Int)) then bif inB (0 : Int) s.size then bif decide ((bytesI s).getD (0 : Nat) (0 : Int) = (43 : Int)) then bif decide (s.size ≤ (9223372036854775700 : Nat) ∧ (0 : Int) ≤ (1 : Int) ∧ (1 : Int) ≤ (↑s.size : Int)) then bif decide ((↑(List.takeWhile isDig (List.drop (1 : Nat) s.data.toList)).length : Int) < (4 : Int)) then ret (SV.tup [S1.agg [gI (0 : Int), gI (0 : Int), gI (0 : Int)], tI (4 : Int)]) else bif decide ((18 : Int) < (↑(List.takeWhile isDig (List.drop (1 : Nat) s.data.toList)).length : Int)) then ret (SV.tup [S1.agg [gI (0 : Int), gI (0 : Int), gI (0 : Int)], tI (4 : Int)]) else bif slB (1 : Int) v1 s.size then bif decide (v4 ≤ (18 : Nat) ∧ v5.all isDig = true) then bif inB (0 : Int) s.size then bif decide ((bytesI s).getD (0 : Nat) (0 : Int) = (45 : Int)) then bif decide ((-9223372036854775808 : Int) < v7 ∧ v7 < (9223372036854775808 : Int)) then bif slB (0 : Int) v1 s.size then bif !eqB v8 v9 then ret (SV.tup [S1.agg [gI (0 : Int), gI (0 : Int), gI (0 : Int)], tI (4 : Int)]) else bif slB v1 (↑s.size : Int) s.size then bif decide (v11 ≤ (9223372036854775700 : Nat) ∧ (15 : Nat) ≤ (1000 : Nat)) then bif !shpB (tx [(45 : UInt8), (48 : UInt8), (48 : UInt8), (45 : UInt8), (48 : UInt8), (48 : UInt8), (84 : UInt8), (48 : UInt8), (48 : UInt8), (58 : UInt8), (48 : UInt8), (48 : UInt8), (58 : UInt8), (48 : UInt8), (48 : UInt8)]).data.toList v10.data.toList then ret (SV.tup [S1.agg [gI (0 : Int), gI (0 : Int), gI (0 : Int)], tI (4 : Int)]) else bif slB (15 : Int) (↑v11 : Int) v11 then bif decide ((↑v13 : Int) = (0 : Int)) then ret (SV.tup [S1.agg [gI (0 : Int), gI (0 : Int), gI (0 : Int)], tI (4 : Int)]) else bif inB v14 v13 then bif !decide (v16 = (90 : Int)) then ret (SV.tup [S1.agg [gI (0 : Int), gI (0 : Int), gI (0 : Int)], tI (4 : Int)]) else bif slB (0 : Int) v14 v13 then bif decide ((0 : Int) < (↑v18 : Int)) then bif inB (0 : Int) v18 then bif !decide (v19 = (46 : Int)) then ret (SV.tup [S1.agg [gI (0 : Int), gI (0 : Int), gI (0 : Int)], tI (4 : Int)]) else bif decide ((↑v18 : Int) < (2 : Int)) then ret (SV.tup [S1.agg [gI (0 : Int), gI (0 : Int), gI (0 : Int)], tI (4 : Int)]) else bif decide ((19 : Int) < (↑v18 : Int)) then ret (SV.tup [S1.agg [gI (0 : Int), gI (0 : Int), gI (0 : Int)], tI (4 : Int)]) else bif decide (v18 ≤ (9223372036854775700 : Nat) ∧ (0 : Int) ≤ (1 : Int) ∧ (1 : Int) ≤ (↑v18 : Int)) then bif !decide ((↑v20 : Int) = v21) then ret (SV.tup [S1.agg [gI (0 : Int), gI (0 : Int), gI (0 : Int)], tI (4 : Int)]) else bif inB v21 v18 then bif decide (v22 = (48 : Int)) then ret (SV.tup [S1.agg [gI (0 : Int), gI (0 : Int), gI (0 : Int)], tI (4 : Int)]) else bif slB (1 : Int) (↑v18 : Int) v18 then bif decide (v24 ≤ (18 : Nat) ∧ v25.all isDig = true) then h (0 : Nat) [Lf.i (0 : Int), Lf.i (0 : Int), Lf.i (0 : Int), Lf.i (0 : Int), Lf.i (0 : Int), Lf.i (0 : Int), Lf.i v7, Lf.s v10, Lf.i v26, Lf.i (↑v18 : Int)] else none else none else none else none else none else bif slB (1 : Int) (3 : Int) v11 then bif decide (v28 ≤ (18 : Nat) ∧ v29.all isDig = true) then bif slB (4 : Int) (6 : Int) v11 then bif decide (v31 ≤ (18 : Nat) ∧ v32.all isDig = true) then bif slB (7 : Int) (9 : Int) v11 then bif decide (v34 ≤ (18 : Nat) ∧ v35.all isDig = true) then bif slB (10 : Int) (12 : Int) v11 then bif decide (v37 ≤ (18 : Nat) ∧ v38.all isDig = true) then bif slB (13 : Int) (15 : Int) v11 then bif decide (v40 ≤ (18 : Nat) ∧ v41.all isDig = true) then bif !dateOk v7 v42 v43 then ret (SV.tup [S1.agg [gI (0 : Int), gI (0 : Int), gI (0 : Int)], tI (5 : Int)]) else bif !timeOk v44 v45 v46 (0 : Int) then ret (SV.tup [S1.agg [gI (0 : Int), gI (0 : Int), gI (0 : Int)], tI (5 : Int)]) else bif !decide (v47 = (0 : Int)) then ret (SV.tup [S1.agg [gI (0 : Int), gI (0 : Int), gI (0 : Int)], tI v47]) else ret (SV.tup [S1.agg [gI v48, gI v49, gI (0 : Int)], tI (0 : Int)]) else none else none else none else none else none else none else none else none else none else none else none else none else none else none else none else none else none else bif decide ((-9223372036854775808 : Int) < v6 ∧ v6 < (9223372036854775808 : Int)) then bif slB (0 : Int) v1 s.size then bif !eqB v50 v9 then ret (SV.tup [S1.agg [gI (0 : Int), gI (0 : Int), gI (0 : Int)], tI (4 : Int)]) else bif slB v1 (↑s.size : Int) s.size then bif decide (v11 ≤ (9223372036854775700 : Nat) ∧ (15 : Nat) ≤ (1000 : Nat)) then bif !shpB (tx [(45 : UInt8), (48 : UInt8), (48 : UInt8), (45 : UInt8), (48 : UInt8), (48 : UInt8), (84 : UInt8), (48 : UInt8), (48 : UInt8), (58 : UInt8), (48 : UInt8), (48 : UInt8), (58 : UInt8), (48 : UInt8), (48 : UInt8)]).data.toList v10.data.toList then ret (SV.tup [S1.agg [gI (0 : Int), gI (0 : Int), gI (0 : Int)], tI (4 : Int)]) else bif slB (15 : Int) (↑v11 : Int) v11 then bif decide ((↑v13 : Int) = (0 : Int)) then ret (SV.tup [S1.agg [gI (0 : Int), gI (0 : Int), gI (0 : Int)], tI (4 : Int)]) else bif inB v14 v13 then bif !decide (v16 = (90 : Int)) then ret (SV.tup [S1.agg [gI (0 : Int), gI (0 : Int), gI (0 : Int)], tI (4 : Int)]) else bif slB (0 : Int) v14 v13 then bif decide ((0 : Int) < (↑v18 : Int)) then bif inB (0 : Int) v18 then bif !decide (v19 = (46 : Int)) then ret (SV.tup [S1.agg [gI (0 : Int), gI (0 : Int), gI (0 : Int)], tI (4 : Int)]) else bif decide ((↑v18 : Int) < (2 : Int)) then ret (SV.tup [S1.agg [gI (0 : Int), gI (0 : Int), gI (0 : Int)], tI (4 : Int)]) else bif decide ((19 : Int) < (↑v18 : Int)) then ret (SV.tup [S1.agg [gI (0 : Int), gI (0 : Int), gI (0 : Int)], tI (4 : Int)]) else bif decide (v18 ≤ (9223372036854775700 : Nat) ∧ (0 : Int) ≤ (1 : Int) ∧ (1 : Int) ≤ (↑v18 : Int)) then bif !decide ((↑v20 : Int) = v21) then ret (SV.tup [S1.agg [gI (0 : Int), gI (0 : Int), gI (0 : Int)], tI (4 : Int)]) else bif inB v21 v18 then bif decide (v22 = (48 : Int)) then ret (SV.tup [S1.agg [gI (0 : Int), gI (0 : Int), gI (0 : Int)], tI (4 : Int)]) else bif slB (1 : Int) (↑v18 : Int) v18 then bif decide (v24 ≤ (18 : Nat) ∧ v25.all isDig = true) then h (0 : Nat) [Lf.i (0 : Int), Lf.i (0 : Int), Lf.i (0 : Int), Lf.i (0 : Int), Lf.i (0 : Int), Lf.i (0 : Int), Lf.i v6, Lf.s v10, Lf.i v26, Lf.i (↑v18 : Int)] else none else none else none else none else none else bif slB (1 : Int) (3 : Int) v11 then bif decide (v28 ≤ (18 : Nat) ∧ v29.all isDig = true) then bif slB (4 : Int) (6 : Int) v11 then bif decide (v31 ≤ (18 : Nat) ∧ v32.all isDig = true) then bif slB (7 : Int) (9 : Int) v11 then bif decide (v34 ≤ (18 : Nat) ∧ v35.all isDig = true) then bif slB (10 : Int) (12 : Int) v11 then bif decide (v37 ≤ (18 : Nat) ∧ v38.all isDig = true) then bif slB (13 : Int) (15 : Int) v11 then bif decide (v40 ≤ (18 : Nat) ∧ v41.all isDig = true) then bif !dateOk v6 v42 v43 then ret (SV.tup [S1.agg [gI (0 : Int), gI (0 : Int), gI (0 : Int)], tI (5 : Int)]) else bif !timeOk v44 v45 v46 (0 : Int) then ret (SV.tup [S1.agg [gI (0 : Int), gI (0 : Int), gI (0 : Int)], tI (5 : Int)]) else bif !decide (v51 = (0 : Int)) then ret (SV.tup [S1.agg [gI (0 : Int), gI (0 : Int), gI (0 : Int)], tI v51]) else ret (SV.tup [S1.agg [gI v52, gI v49, gI (0 : Int)], tI (0 : Int)]) else none else none else none else none else none else none else none else none else none else none else none else none else none else none else none else none else none else none else none else none else none else bif inB (0 : Int) s.size then bif decide ((bytesI s).getD (0 : Nat) (0 : Int) = (45 : Int)) then bif decide (s.size ≤ (9223372036854775700 : Nat) ∧ (0 : Int) ≤ (1 : Int) ∧ (1 : Int) ≤ (↑s.size : Int)) then bif decide ((↑(List.takeWhile isDig (List.drop (1 : Nat) s.data.toList)).length : Int) < (4 : Int)) then ret (SV.tup [S1.agg [gI (0 : Int), gI (0 : Int), gI (0 : Int)], tI (4 : Int)]) else bif decide ((18 : Int) < (↑(List.takeWhile isDig (List.drop (1 : Nat) s.data.toList)).length : Int)) then ret (SV.tup [S1.agg [gI (0 : Int), gI (0 : Int), gI (0 : Int)], tI (4 : Int)]) else bif slB (1 : Int) v1 s.size then bif decide (v4 ≤ (18 : Nat) ∧ v5.all isDig = true) then bif inB (0 : Int) s.size then bif decide ((bytesI s).getD (0 : Nat) (0 : Int) = (45 : Int)) then bif decide ((-9223372036854775808 : Int) < v7 ∧ v7 < (9223372036854775808 : Int)) then bif slB (0 : Int) v1 s.size then bif !eqB v8 v9 then ret (SV.tup [S1.agg [gI (0 : Int), gI (0 : Int), gI (0 : Int)], tI (4 : Int)]) else bif slB v1 (↑s.size : Int) s.size then bif decide (v11 ≤ (9223372036854775700 : Nat) ∧ (15 : Nat) ≤ (1000 : Nat)) then bif !shpB (tx [(45 : UInt8), (48 : UInt8), (48 : UInt8), (45 : UInt8), (48 : UInt8), (48 : UInt8), (84 : UInt8), (48 : UInt8), (48 : UInt8), (58 : UInt8), (48 : UInt8), (48 : UInt8), (58 : UInt8), (48 : UInt8), (48 : UInt8)]).data.toList v10.data.toList then ret (SV.tup [S1.agg [gI (0 : Int), gI (0 : Int), gI (0 : Int)], tI (4 : Int)]) else bif slB (15 : Int) (↑v11 : Int) v11 then bif decide ((↑v13 : Int) = (0 : Int)) then ret (SV.tup [S1.agg [gI (0 : Int), gI (0 : Int), gI (0 : Int)], tI (4 : Int)]) else bif inB v14 v13 then bif !decide (v16 = (90 : Int)) then ret (SV.tup [S1.agg [gI (0 : Int), gI (0 : Int), gI (0 : Int)], tI (4 : Int)]) else bif slB (0 : Int) v14 v13 then bif decide ((0 : Int) < (↑v18 : Int)) then bif inB (0 : Int) v18 then bif !decide (v19 = (46 : Int)) then ret (SV.tup [S1.agg [gI (0 : Int), gI (0 : Int), gI (0 : Int)], tI (4 : Int)]) else bif decide ((↑v18 : Int) < (2 : Int)) then ret (SV.tup [S1.agg [gI (0 : Int), gI (0 : Int), gI (0 : Int)], tI (4 : Int)]) else bif decide ((19 : Int) < (↑v18 : Int)) then ret (SV.tup [S1.agg [gI (0 : Int), gI (0 : Int), gI (0 : Int)], tI (4 : Int)]) else bif decide (v18 ≤ (9223372036854775700 : Nat) ∧ (0 : Int) ≤ (1 : Int) ∧ (1 : Int) ≤ (↑v18 : Int)) then bif !decide ((↑v20 : Int) = v21) then ret (SV.tup [S1.agg [gI (0 : Int), gI (0 : Int), gI (0 : Int)], tI (4 : Int)]) else bif inB v21 v18 then bif decide (v22 = (48 : Int)) then ret (SV.tup [S1.agg [gI (0 : Int), gI (0 : Int), gI (0 : Int)], tI (4 : Int)]) else bif slB (1 : Int) (↑v18 : Int) v18 then bif decide (v24 ≤ (18 : Nat) ∧ v25.all isDig = true) then h (0 : Nat) [Lf.i (0 : Int), Lf.i (0 : Int), Lf.i (0 : Int), Lf.i (0 : Int), Lf.i (0 : Int), Lf.i (0 : Int), Lf.i v7, Lf.s v10, Lf.i v26, Lf.i (↑v18 : Int)] else none else none else none else none else none else bif slB (1 : Int) (3 : Int) v11 then bif decide (v28 ≤ (18 : Nat) ∧ v29.all isDig = true) then bif slB (4 : Int) (6 : Int) v11 then bif decide (v31 ≤ (18 : Nat) ∧ v32.all isDig = true) then bif slB (7 : Int) (9 : Int) v11 then bif decide (v34 ≤ (18 : Nat) ∧ v35.all isDig = true) then bif slB (10 : Int) (12 : Int) v11 then bif decide (v37 ≤ (18 : Nat) ∧ v38.all isDig = true) then bif slB (13 : Int) (15 : Int) v11 then bif decide (v40 ≤ (18 : Nat) ∧ v41.all isDig = true) then bif !dateOk v7 v42 v43 then ret (SV.tup [S1.agg [gI (0 : Int), gI (0 : Int), gI (0 : Int)], tI (5 : Int)]) else bif !timeOk v44 v45 v46 (0 : Int) then ret (SV.tup [S1.agg [gI (0 : Int), gI (0 : Int), gI (0 : Int)], tI (5 : Int)]) else bif !decide (v47 = (0 : Int)) then ret (SV.tup [S1.agg [gI (0 : Int), gI (0 : Int), gI (0 : Int)], tI v47]) else ret (SV.tup [S1.agg [gI v48, gI v49, gI (0 : Int)], tI (0 : Int)]) else none else none else none else none else none else none else none else none else none else none else none else none else none else none else none else none else none else bif decide ((-9223372036854775808 : Int) < v6 ∧ v6 < (9223372036854775808 : Int)) then bif slB (0 : Int) v1 s.size then bif !eqB v50 v9 then ret (SV.tup [S1.agg [gI (0 : Int), gI (0 : Int), gI (0 : Int)], tI (4 : Int)]) else bif slB v1 (↑s.size : Int) s.size then bif decide (v11 ≤ (9223372036854775700 : Nat) ∧ (15 : Nat) ≤ (1000 : Nat)) then bif !shpB (tx [(45 : UInt8), (48 : UInt8), (48 : UInt8), (45 : UInt8), (48 : UInt8), (48 : UInt8), (84 : UInt8), (48 : UInt8), (48 : UInt8), (58 : UInt8), (48 : UInt8), (48 : UInt8), (58 : UInt8), (48 : UInt8), (48 : UInt8)]).data.toList v10.data.toList then ret (SV.tup [S1.agg [gI (0 : Int), gI (0 : Int), gI (0 : Int)], tI (4 : Int)]) else bif slB (15 : Int) (↑v11 : Int) v11 then bif decide ((↑v13 : Int) = (0 : Int)) then ret (SV.tup [S1.agg [gI (0 : Int), gI (0 : Int), gI (0 : Int)], tI (4 : Int)]) else bif inB v14 v13 then bif !decide (v16 = (90 : Int)) then ret (SV.tup [S1.agg [gI (0 : Int), gI (0 : Int), gI (0 : Int)], tI (4 : Int)]) else bif slB (0 : Int) v14 v13 then bif decide ((0 : Int) < (↑v18 : Int)) then bif inB (0 : Int) v18 then bif !decide (v19 = (46 : Int)) then ret (SV.tup [S1.agg [gI (0 : Int), gI (0 : Int), gI (0 : Int)], tI (4 : Int)]) else bif decide ((↑v18 : Int) < (2 : Int)) then ret (SV.tup [S1.agg [gI (0 : Int), gI (0 : Int), gI (0 : Int)], tI (4 : Int)]) else bif decide ((19 : Int) < (↑v18 : Int)) then ret (SV.tup [S1.agg [gI (0 : Int), gI (0 : Int), gI (0 : Int)], tI (4 : Int)]) else bif decide (v18 ≤ (9223372036854775700 : Nat) ∧ (0 : Int) ≤ (1 : Int) ∧ (1 : Int) ≤ (↑v18 : Int)) then bif !decide ((↑v20 : Int) = v21) then ret (SV.tup [S1.agg [gI (0 : Int), gI (0 : Int), gI (0 : Int)], tI (4 : Int)]) else bif inB v21 v18 then bif decide (v22 = (48 : Int)) then ret (SV.tup [S1.agg [gI (0 : Int), gI (0 : Int), gI (0 : Int)], tI (4 : Int)]) else bif slB (1 : Int) (↑v18 : Int) v18 then bif decide (v24 ≤ (18 : Nat) ∧ v25.all isDig = true) then h (0 : Nat) [Lf.i (0 : Int), Lf.i (0 : Int), Lf.i (0 : Int), Lf.i (0 : Int), Lf.i (0 : Int), Lf.i (0 : Int), Lf.i v6, Lf.s v10, Lf.i v26, Lf.i (↑v18 : Int)] else none else none else none else none else none else bif slB (1 : Int) (3 : Int) v11 then bif decide (v28 ≤ (18 : Nat) ∧ v29.all isDig = true) then bif slB (4 : Int) (6 : Int) v11 then bif decide (v31 ≤ (18 : Nat) ∧ v32.all isDig = true) then bif slB (7 : Int) (9 : Int) v11 then bif decide (v34 ≤ (18 : Nat) ∧ v35.all isDig = true) then bif slB (10 : Int) (12 : Int) v11 then bif decide (v37 ≤ (18 : Nat) ∧ v38.all isDig = true) then bif slB (13 : Int) (15 : Int) v11 then bif decide (v40 ≤ (18 : Nat) ∧ v41.all isDig = true) then bif !dateOk v6 v42 v43 then ret (SV.tup [S1.agg [gI (0 : Int), gI (0 : Int), gI (0 : Int)], tI (5 : Int)]) else bif !timeOk v44 v45 v46 (0 : Int) then ret (SV.tup [S1.agg [gI (0 : Int), gI (0 : Int), gI (0 : Int)], tI (5 : Int)]) else bif !decide (v51 = (0 : Int)) then ret (SV.tup [S1.agg [gI (0 : Int), gI (0 : Int), gI (0 : Int)], tI v51]) else ret (SV.tup [S1.agg [gI v52, gI v49, gI (0 : Int)], tI (0 : Int)]) else none else none else none else none else none else none else none else none else none else none else none else none else none else none else none else none else none else none else none else none else none else bif decide (s.size ≤ (9223372036854775700 : Nat) ∧ (0 : Int) ≤ (0 : Int) ∧ (0 : Int) ≤ (↑s.size : Int)) then bif decide ((↑(List.takeWhile isDig (List.drop (0 : Nat) s.data.toList)).length : Int) < (4 : Int)) then ret (SV.tup [S1.agg [gI (0 : Int), gI (0 : Int), gI (0 : Int)], tI (4 : Int)]) else bif decide ((18 : Int) < (↑(List.takeWhile isDig (List.drop (0 : Nat) s.data.toList)).length : Int)) then ret (SV.tup [S1.agg [gI (0 : Int), gI (0 : Int), gI (0 : Int)], tI (4 : Int)]) else bif slB (0 : Int) v53 s.size then bif decide (v56 ≤ (18 : Nat) ∧ v57.all isDig = true) then bif decide ((-9223372036854775808 : Int) < v58 ∧ v58 < (9223372036854775808 : Int)) then bif slB (0 : Int) v53 s.size then bif !eqB v59 v55 then ret (SV.tup [S1.agg [gI (0 : Int), gI (0 : Int), gI (0 : Int)], tI (4 : Int)]) else bif slB v53 (↑s.size : Int) s.size then bif decide (v61 ≤ (9223372036854775700 : Nat) ∧ (15 : Nat) ≤ (1000 : Nat)) then bif !shpB (tx [(45 : UInt8), (48 : UInt8), (48 : UInt8), (45 : UInt8), (48 : UInt8), (48 : UInt8), (84 : UInt8), (48 : UInt8), (48 : UInt8), (58 : UInt8), (48 : UInt8), (48 : UInt8), (58 : UInt8), (48 : UInt8), (48 : UInt8)]).data.toList v60.data.toList then ret (SV.tup [S1.agg [gI (0 : Int), gI (0 : Int), gI (0 : Int)], tI (4 : Int)]) else bif slB (15 : Int) (↑v61 : Int) v61 then bif decide ((↑v63 : Int) = (0 : Int)) then ret (SV.tup [S1.agg [gI (0 : Int), gI (0 : Int), gI (0 : Int)], tI (4 : Int)]) else bif inB v64 v63 then bif !decide (v66 = (90 : Int)) then ret (SV.tup [S1.agg [gI (0 : Int), gI (0 : Int), gI (0 : Int)], tI (4 : Int)]) else bif slB (0 : Int) v64 v63 then bif decide ((0 : Int) < (↑v68 : Int)) then bif inB (0 : Int) v68 then bif !decide (v69 = (46 : Int)) then ret (SV.tup [S1.agg [gI (0 : Int), gI (0 : Int), gI (0 : Int)], tI (4 : Int)]) else bif decide ((↑v68 : Int) < (2 : Int)) then ret (SV.tup [S1.agg [gI (0 : Int), gI (0 : Int), gI (0 : Int)], tI (4 : Int)]) else bif decide ((19 : Int) < (↑v68 : Int)) then ret (SV.tup [S1.agg [gI (0 : Int), gI (0 : Int), gI (0 : Int)], tI (4 : Int)]) else bif decide (v68 ≤ (9223372036854775700 : Nat) ∧ (0 : Int) ≤ (1 : Int) ∧ (1 : Int) ≤ (↑v68 : Int)) then bif !decide ((↑v70 : Int) = v71) then ret (SV.tup [S1.agg [gI (0 : Int), gI (0 : Int), gI (0 : Int)], tI (4 : Int)]) else bif inB v71 v68 then bif decide (v72 = (48 : Int)) then ret (SV.tup [S1.agg [gI (0 : Int), gI (0 : Int), gI (0 : Int)], tI (4 : Int)]) else bif slB (1 : Int) (↑v68 : Int) v68 then bif decide (v74 ≤ (18 : Nat) ∧ v75.all isDig = true) then h (0 : Nat) [Lf.i (0 : Int), Lf.i (0 : Int), Lf.i (0 : Int), Lf.i (0 : Int), Lf.i (0 : Int), Lf.i (0 : Int), Lf.i v58, Lf.s v60, Lf.i v76, Lf.i (↑v68 : Int)] else none else none else none else none else none else bif slB (1 : Int) (3 : Int) v61 then bif decide (v78 ≤ (18 : Nat) ∧ v79.all isDig = true) then bif slB (4 : Int) (6 : Int) v61 then bif decide (v81 ≤ (18 : Nat) ∧ v82.all isDig = true) then bif slB (7 : Int) (9 : Int) v61 then bif decide (v84 ≤ (18 : Nat) ∧ v85.all isDig = true) then bif slB (10 : Int) (12 : Int) v61 then bif decide (v87 ≤ (18 : Nat) ∧ v88.all isDig = true) then bif slB (13 : Int) (15 : Int) v61 then bif decide (v90 ≤ (18 : Nat) ∧ v91.all isDig = true) then bif !dateOk v58 v92 v93 then ret (SV.tup [S1.agg [gI (0 : Int), gI (0 : Int), gI (0 : Int)], tI (5 : Int)]) else bif !timeOk v94 v95 v96 (0 : Int) then ret (SV.tup [S1.agg [gI (0 : Int), gI (0 : Int), gI (0 : Int)], tI (5 : Int)]) else bif !decide (v97 = (0 : Int)) then ret (SV.tup [S1.agg [gI (0 : Int), gI (0 : Int), gI (0 : Int)], tI v97]) else ret (SV.tup [S1.agg [gI v98, gI v99, gI (0 : Int)], tI (0 : Int)]) else none else none else none else none else none else none else none else none else none else none else none else none else none else none else none else none else none else none else none else none else none else none else bif decide (s.size ≤ (9223372036854775700 : Nat) ∧ (0 : Int) ≤ (0 : Int) ∧ (0 : Int) ≤ (↑s.size : Int)) then bif decide ((↑(List.takeWhile isDig (List.drop (0 : Nat) s.data.toList)).length : Int) < (4 : Int)) then ret (SV.tup [S1.agg [gI (0 : Int), gI (0 : Int), gI (0 : Int)], tI (4 : Int)]) else bif decide ((18 : Int) < (↑(List.takeWhile isDig (List.drop (0 : Nat) s.data.toList)).length : Int)) then ret (SV.tup [S1.agg [gI (0 : Int), gI (0 : Int), gI (0 : Int)], tI (4 : Int)]) else bif slB (0 : Int) v53 s.size then bif decide (v56 ≤ (18 : Nat) ∧ v57.all isDig = true) then bif decide ((-9223372036854775808 : Int) < v58 ∧ v58 < (9223372036854775808 : Int)) then bif slB (0 : Int) v53 s.size then bif !eqB v59 v55 then ret (SV.tup [S1.agg [gI (0 : Int), gI (0 : Int), gI (0 : Int)], tI (4 : Int)]) else bif slB v53 (↑s.size : Int) s.size then bif decide (v61 ≤ (9223372036854775700 : Nat) ∧ (15 : Nat) ≤ (1000 : Nat)) then bif !shpB (tx [(45 : UInt8), (48 : UInt8), (48 : UInt8), (45 : UInt8), (48 : UInt8), (48 : UInt8), (84 : UInt8), (48 : UInt8), (48 : UInt8), (58 : UInt8), (48 : UInt8), (48 : UInt8), (58 : UInt8), (48 : UInt8), (48 : UInt8)]).data.toList v60.data.toList then ret (SV.tup [S1.agg [gI (0 : Int), gI (0 : Int), gI (0 : Int)], tI (4 : Int)]) else bif slB (15 : Int) (↑v61 : Int) v61 then bif decide ((↑v63 : Int) = (0 : Int)) then ret (SV.tup [S1.agg [gI (0 : Int), gI (0 : Int), gI (0 : Int)], tI (4 : Int)]) else bif inB v64 v63 then bif !decide (v66 = (90 : Int)) then ret (SV.tup [S1.agg [gI (0 : Int), gI (0 : Int), gI (0 : Int)], tI (4 : Int)]) else bif slB (0 : Int) v64 v63 then bif decide ((0 : Int) < (↑v68 : Int)) then bif inB (0 : Int) v68 then bif !decide (v69 = (46 : Int)) then ret (SV.tup [S1.agg [gI (0 : Int), gI (0 : Int), gI (0 : Int)], tI (4 : Int)]) else bif decide ((↑v68 : Int) < (2 : Int)) then ret (SV.tup [S1.agg [gI (0 : Int), gI (0 : Int), gI (0 : Int)], tI (4 : Int)]) else bif decide ((19 : Int) < (↑v68 : Int)) then ret (SV.tup [S1.agg [gI (0 : Int), gI (0 : Int), gI (0 : Int)], tI (4 : Int)]) else bif decide (v68 ≤ (9223372036854775700 : Nat) ∧ (0 : Int) ≤ (1 : Int) ∧ (1 : Int) ≤ (↑v68 : Int)) then bif !decide ((↑v70 : Int) = v71) then ret (SV.tup [S1.agg [gI (0 : Int), gI (0 : Int), gI (0 : Int)], tI (4 : Int)]) else bif inB v71 v68 then bif decide (v72 = (48 : Int)) then ret (SV.tup [S1.agg [gI (0 : Int), gI (0 : Int), gI (0 : Int)], tI (4 : Int)]) else bif slB (1 : Int) (↑v68 : Int) v68 then bif decide (v74 ≤ (18 : Nat) ∧ v75.all isDig = true) then h (0 : Nat) [Lf.i (0 : Int), Lf.i (0 : Int), Lf.i (0 : Int), Lf.i (0 : Int), Lf.i (0 : Int), Lf.i (0 : Int), Lf.i v58, Lf.s v60, Lf.i v76, Lf.i (↑v68 : Int)] else none else none else none else none else none else bif slB (1 : Int) (3 : Int) v61 then bif decide (v78 ≤ (18 : Nat) ∧ v79.all isDig = true) then bif slB (4 : Int) (6 : Int) v61 then bif decide (v81 ≤ (18 : Nat) ∧ v82.all isDig = true) then bif slB (7 : Int) (9 : Int) v61 then bif decide (v84 ≤ (18 : Nat) ∧ v85.all isDig = true) then bif slB (10 : Int) (12 : Int) v61 then bif decide (v87 ≤ (18 : Nat) ∧ v88.all isDig = true) then bif slB (13 : Int) (15 : Int) v61 then bif decide (v90 ≤ (18 : Nat) ∧ v91.all isDig = true) then bif !dateOk v58 v92 v93 then ret (SV.tup [S1.agg [gI (0 : Int), gI (0 : Int), gI (0 : Int)], tI (5 : Int)]) else bif !timeOk v94 v95 v96 (0 : Int) then ret (SV.tup [S1.agg [gI (0 : Int), gI (0 : Int), gI (0 : Int)], tI (5 : Int)]) else bif !decide (v97 = (0 : Int)) then ret (SV.tup [S1.agg [gI (0 : Int), gI (0 : Int), gI (0 : Int)], tI v97]) else ret (SV.tup [S1.agg [gI v98, gI v99, gI (0 : Int)], tI (0 : Int)]) else none else none else none else none else none else none else none else none else none else none else none else none else none else none else none else none else none else none else none else none := by kernel_rfl
theorem rparse_l0 (h : Hd) (i0 : Int) (i1 : Int) (i2 : Int) (i3 : Int) (i4 : Int) (i5 : Int) (i6 : Int) (s7 : ByteArray) (i8 : Int) (i9 : Int) : rparse_f.seg rparse_e [] h 0 [.i i0, .i i1, .i i2, .i i3, .i i4, .i i5, .i i6, .s s7, .i i8, .i i9] = let v1 : Int := dayE i6 (dval (s7.extract (1 : Nat) (3 : Nat)).data.toList) (dval (s7.extract (4 : Nat) (6 : Nat)).data.toList); bif decide (i9 < (19 : Int)) then h (0 : Nat) [Lf.i i0, Lf.i i1, Lf.i i2, Lf.i i3, Lf.i i4, Lf.i i5, Lf.i i6, Lf.s s7, Lf.i (IntKind.i64.wrap (i8 * (10 : Int))), Lf.i (IntKind.i64.wrap (i9 + (1 : Int)))] else bif slB (1 : Int) (3 : Int) s7.size then bif decide ((s7.extract (1 : Nat) (3 : Nat)).size ≤ (18 : Nat) ∧ (s7.extract (1 : Nat) (3 : Nat)).data.toList.all isDig = true) then bif slB (4 : Int) (6 : Int) s7.size then bif decide ((s7.extract (4 : Nat) (6 : Nat)).size ≤ (18 : Nat) ∧ (s7.extract (4 : Nat) (6 : Nat)).data.toList.all isDig = true) then bif slB (7 : Int) (9 : Int) s7.size then bif decide ((s7.extract (7 : Nat) (9 : Nat)).size ≤ (18 : Nat) ∧ (s7.extract (7 : Nat) (9 : Nat)).data.toList.all isDig = true) then bif slB (10 : Int) (12 : Int) s7.size then bif decide ((s7.extract (10 : Nat) (12 : Nat)).size ≤ (18 : Nat) ∧ (s7.extract (10 : Nat) (12 : Nat)).data.toList.all isDig = true) then bif slB (13 : Int) (15 : Int) s7.size then bif decide ((s7.extract (13 : Nat) (15 : Nat)).size ≤ (18 : Nat) ∧ (s7.extract (13 : Nat) (15 : Nat)).data.toList.all isDig = true) then bif !dateOk i6 (dval (s7.extract (1 : Nat) (3 : Nat)).data.toList) (dval (s7.extract (4 : Nat) (6 : Nat)).data.toList) then ret (SV.tup [S1.agg [gI i3, gI i4, gI i5], tI (5 : Int)]) else bif !timeOk (dval (s7.extract (7 : Nat) (9 : Nat)).data.toList) (dval (s7.extract (10 : Nat) (12 : Nat)).data.toList) (dval (s7.extract (13 : Nat) (15 : Nat)).data.toList) i8 then ret (SV.tup [S1.agg [gI i3, gI i4, gI i5], tI (5 : Int)]) else bif !decide (v1 = (0 : Int)) then ret (SV.tup [S1.agg [gI i3, gI i4, gI i5], tI v1]) else ret (SV.tup [S1.agg [gI (dayN i6 (dval (s7.extract (1 : Nat) (3 : Nat)).data.toList) (dval (s7.extract (4 : Nat) (6 : Nat)).data.toList)), gI (IntKind.i64.wrap (IntKind.i64.wrap (IntKind.i64.wrap (dval (s7.extract (7 : Nat) (9 : Nat)).data.toList * (3600 : Int)) + IntKind.i64.wrap (dval (s7.extract (10 : Nat) (12 : Nat)).data.toList * (60 : Int))) + dval (s7.extract (13 : Nat) (15 : Nat)).data.toList)), gI i8], tI (0 : Int)]) else none else none else none else none else none else none else none else none else none else none := by kernel_rfl

def resV (v : IsoV) : SV := .tup [.agg [gI (if resE v = 0 then dayN v.y v.mo v.d else 0), gI (if resE v = 0 then v.h * 3600 + v.mi * 60 + v.s else 0), gI (if resE v = 0 then v.a else 0)], tI (resE v)]
theorem ext2 {r : List UInt8} {i : Nat} (h : i + 2 ≤ r.length) (hd : isDig (r.getD i 0) = true) (hd2 : isDig (r.getD (i + 1) 0) = true) :
    (r.drop i).take (i + 2 - i) = [r.getD i 0, r.getD (i + 1) 0] ∧ dval [r.getD i 0, r.getD (i + 1) 0] = at2 r i ∧ [r.getD i 0, r.getD (i + 1) 0].all isDig = true := by
  refine ⟨?_, ?_, by rw [List.all_cons, List.all_cons, hd, hd2]; rfl⟩
  · rw [show i + 2 - i = 2 by omega, List.drop_eq_getElem_cons (by omega), List.drop_eq_getElem_cons (by omega), List.getD_eq_getElem?_getD, List.getD_eq_getElem?_getD, List.getElem?_eq_getElem (by omega), List.getElem?_eq_getElem (by omega)]
    rfl
  · show (0 * 10 + dig (r.getD i 0)) * 10 + dig (r.getD (i + 1) 0) = dig (r.getD i 0) * 10 + dig (r.getD (i + 1) 0)
    rw [Int.zero_mul, Int.zero_add]
theorem rparse_tail (k : Nat) (y a : Int) {r : List UInt8} (hr : shpB pat15 r = true) (hl : r.length ≤ 9223372036854775700) (ha : 0 ≤ a ∧ a < 1000000000000000000) :
    rparse_f.H rparse_e [] (k + 1) 0 [.i 0, .i 0, .i 0, .i 0, .i 0, .i 0, .i y, .s (tx r), .i a, .i 19] = some ⟨resV ⟨y, at2 r 1, at2 r 4, at2 r 7, at2 r 10, at2 r 13, a⟩, []⟩ := by
  obtain ⟨m1, m0, d1, d0, h1, h0, i1, i0, s1, s0, t, eR, a1, a2, a3, a4, a5, a6, a7, a8, a9, a10⟩ := shp15 hr
  have h15 : 15 ≤ r.length := by rw [eR, List.length_append]; simp
  have g : ∀ i, i < 15 → r.getD i 0 = ([45, m1, m0, 45, d1, d0, 84, h1, h0, 58, i1, i0, 58, s1, s0] : List UInt8).getD i 0 := fun i hi => by
    rw [eR, List.getD_eq_getElem?_getD, List.getElem?_append_left (by simpa using hi), ← List.getD_eq_getElem?_getD]
  obtain ⟨x1, x2, x3⟩ := ext2 (r := r) (i := 1) (by omega) (by rw [g 1 (by omega)]; exact a1) (by rw [g 2 (by omega)]; exact a2)
  obtain ⟨y1, y2, y3⟩ := ext2 (r := r) (i := 4) (by omega) (by rw [g 4 (by omega)]; exact a3) (by rw [g 5 (by omega)]; exact a4)
  obtain ⟨z1, z2, z3⟩ := ext2 (r := r) (i := 7) (by omega) (by rw [g 7 (by omega)]; exact a5) (by rw [g 8 (by omega)]; exact a6)
  obtain ⟨u1, u2, u3⟩ := ext2 (r := r) (i := 10) (by omega) (by rw [g 10 (by omega)]; exact a7) (by rw [g 11 (by omega)]; exact a8)
  obtain ⟨w1, w2, w3⟩ := ext2 (r := r) (i := 13) (by omega) (by rw [g 13 (by omega)]; exact a9) (by rw [g 14 (by omega)]; exact a10)
  have b1 := n2_ok (a := r.getD 7 0) (b := r.getD 8 0) (by rw [g 7 (by omega)]; exact a5) (by rw [g 8 (by omega)]; exact a6)
  have b2 := n2_ok (a := r.getD 10 0) (b := r.getD 11 0) (by rw [g 10 (by omega)]; exact a7) (by rw [g 11 (by omega)]; exact a8)
  have b3 := n2_ok (a := r.getD 13 0) (b := r.getD 14 0) (by rw [g 13 (by omega)]; exact a9) (by rw [g 14 (by omega)]; exact a10)
  have c1 : 0 ≤ at2 r 7 ∧ at2 r 7 < 100 := ⟨b1.1, b1.2.1⟩
  have c2 : 0 ≤ at2 r 10 ∧ at2 r 10 < 100 := ⟨b2.1, b2.2.1⟩
  have c3 : 0 ≤ at2 r 13 ∧ at2 r 13 < 100 := ⟨b3.1, b3.2.1⟩
  rw [FnD.H_succ, rparse_l0]
  dsimp only
  simp only [tx_extract, tx_toList, tx_size]
  rw [x1, y1, z1, u1, w1, x2, y2, z2, u2, w2, x3, y3, z3, u3, w3]
  have sl : ∀ i : Nat, i + 2 ≤ 15 → slB (i : Int) ((i + 2 : Nat) : Int) r.length = true := fun i hi => by unfold slB; simp; omega
  refine condF (by decide) (condB (sl 1 (by omega)) (condT ⟨by simp, rfl⟩ (condB (sl 4 (by omega)) (condT ⟨by simp, rfl⟩ (condB (sl 7 (by omega)) (condT ⟨by simp, rfl⟩ (condB (sl 10 (by omega)) (condT ⟨by simp, rfl⟩ (condB (sl 13 (by omega)) (condT ⟨by simp, rfl⟩ ?_))))))))))
  rw [i64_in' (at2 r 7 * 3600) (by omega), i64_in' (at2 r 10 * 60) (by omega), i64_in' (at2 r 7 * 3600 + at2 r 10 * 60) (by omega), i64_in' _ (by omega)]
  unfold resV resE
  dsimp only
  cases hd : dateOk y (at2 r 1) (at2 r 4) with
  | false => exact condB rfl rfl
  | true =>
    refine condN rfl ?_
    cases ht : timeOk (at2 r 7) (at2 r 10) (at2 r 13) a with
    | false => exact condB rfl rfl
    | true =>
      refine condN rfl ?_
      simp only [Bool.and_self, if_true]
      by_cases hE : dayE y (at2 r 1) (at2 r 4) = 0
      · rw [if_pos hE, if_pos hE, if_pos hE]
        exact condN (by rw [Bool.not_eq_false', decide_eq_true_eq]; exact hE) (by rw [hE])
      · rw [if_neg hE, if_neg hE, if_neg hE]
        exact condB (by rw [Bool.not_eq_true', decide_eq_false_iff_not]; exact hE) rfl
theorem rparse_loop (y : Int) {r : List UInt8} (hr : shpB pat15 r = true) (hl : r.length ≤ 9223372036854775700) : ∀ (d k : Nat) (a : Int), d ≤ 18 → d < k → 0 ≤ a → a * 10 ^ d < 1000000000000000000 →
    rparse_f.H rparse_e [] k 0 [.i 0, .i 0, .i 0, .i 0, .i 0, .i 0, .i y, .s (tx r), .i a, .i ((19 - d : Nat) : Int)] = some ⟨resV ⟨y, at2 r 1, at2 r 4, at2 r 7, at2 r 10, at2 r 13, a * 10 ^ d⟩, []⟩ := by
  intro d
  induction d with
  | zero =>
    intro k a _ hk ha hb
    obtain ⟨k, rfl⟩ : ∃ k', k = k' + 1 := ⟨k - 1, by omega⟩
    rw [Int.pow_zero, Int.mul_one] at hb ⊢
    exact rparse_tail k y a hr hl ⟨ha, hb⟩
  | succ d ih =>
    intro k a hd hk ha hb
    obtain ⟨k, rfl⟩ : ∃ k', k = k' + 1 := ⟨k - 1, by omega⟩
    rw [Int.pow_succ, Int.mul_comm (10 ^ d) 10, ← Int.mul_assoc] at hb ⊢
    have hp : 1 ≤ (10 : Int) ^ d := Int.pow_pos (by decide)
    have hle : a * 10 ≤ a * 10 * 10 ^ d := by
      have := Int.mul_le_mul_of_nonneg_left hp (show 0 ≤ a * 10 by omega)
      rwa [Int.mul_one] at this
    rw [FnD.H_succ, rparse_l0]
    refine condT (by omega) ?_
    rw [i64_in' (a * 10) (by omega), i64_in' _ (by omega), show ((19 - (d + 1) : Nat) : Int) + 1 = ((19 - d : Nat) : Int) by omega]
    exact ih k (a * 10) (by omega) (by omega) (by omega) hb
theorem rparse_fin {l : List UInt8} {o : Out} (h : refP l = none → o = ⟨.tup [.agg [gI 0, gI 0, gI 0], tI 4], []⟩) (h2 : ∀ v, refP l = some v → o = ⟨resV v, []⟩) : o = ⟨.tup [.agg [gI (parN l), gI (parS l), gI (parA l)], tI (parE l)], []⟩ := by
  cases hS : shapeP l with
  | none =>
    obtain ⟨e1, e2, e3, e4⟩ := par_none hS
    rw [h (by rw [ref_shape, hS]), e1, e2, e3, e4]
  | some v =>
    obtain ⟨e1, e2, e3, e4⟩ := par_some hS
    rw [h2 v (by rw [ref_shape, hS]), e1, e2, e3, e4]; rfl
theorem shp_len {r : List UInt8} (h : shpB pat15 r = true) : 15 ≤ r.length := by
  obtain ⟨m1, m0, d1, d0, h1, h0, i1, i0, s1, s0, t, eR, _⟩ := shp15 h
  rw [eR, List.length_append]; simp
theorem rparse_run (s : ByteArray) (hp : s.size ≤ 9223372036854775600) : ∃ fu, rparse_f.run rparse_e [] fu [vS s] [] = some ⟨.tup [.agg [gI (parN s.data.toList), gI (parS s.data.toList), gI (parA s.data.toList)], tI (parE s.data.toList)], []⟩ := by
  obtain ⟨l, rfl, hl⟩ := tx_get s
  refine ⟨30, ?_⟩
  rw [FnD.run, rparse_ent]
  simp only [tx_toList, tx_size, bytes_get] at *
  have fin := @rparse_fin l
  have no : refP l = none → (ret (.tup [.agg [gI 0, gI 0, gI 0], tI 4])) = some ⟨.tup [.agg [gI (parN l), gI (parS l), gI (parA l)], tI (parE l)], []⟩ := fun h => congrArg some (fin (fun _ => rfl) (fun v e => by rw [h] at e; cases e))
  by_cases c0 : l = []
  · subst c0
    refine condF (by decide) ?_
    exact condT ⟨by decide, by decide, by decide⟩ (condT (by decide) (no rfl))
  have hn : l.length ≠ 0 := fun e => c0 (List.length_eq_zero_iff.1 e)
  refine condT (by omega) (condB ((inB_iff _ _).2 (by omega)) ?_)
  by_cases c43 : l.getD 0 0 = 43
  case pos =>
    refine condT ((byte_eq2 _ 43 (by omega)).2 c43) ?_

    have hF : sgnN l = 1 := by unfold sgnN; rw [if_pos (.inl c43)]
    have hrun : (l.drop 1).takeWhile isDig = (l.drop (sgnN l)).takeWhile isDig := by rw [hF]
    have hrn : ((l.drop 1).takeWhile isDig).length = digN l := by unfold digN; rw [hF]
    have hle := tw_len isDig (l.drop 1)
    rw [List.length_drop, hrn] at hle
    have htk : (l.drop 1).take (digN l) = (l.drop 1).takeWhile isDig := by rw [← hrn]; exact tw_take isDig (l.drop 1)
    have wv : IntKind.i64.wrap (1 + ((digN l : Nat) : Int)) = ((1 + digN l : Nat) : Int) := by rw [i64_in' _ (by omega)]; omega
    rw [hrn, wv]
    simp only [Int.toNat_natCast, tx_extract, tx_toList, tx_size, bytes_get, eqB_tx, List.drop_zero, Nat.sub_zero]
    rw [show 1 + digN l - 1 = digN l by omega, htk, List.take_of_length_le (show (l.drop (1 + digN l)).length ≤ l.length - (1 + digN l) by rw [List.length_drop]; exact Nat.le_refl _)]
    have eR : l.drop (1 + digN l) = refR l := by unfold refR; rw [hF]
    have lR : (refR l).length ≤ l.length := by rw [← eR, List.length_drop]; omega
    rw [eR]
    refine condT ⟨by omega, by omega, by omega⟩ ?_
    by_cases k1 : digN l < 4
    · exact condT (by omega) (no (by unfold refP refC1; rw [decide_eq_false (show ¬ 4 ≤ digN l by omega)]; rfl))
    refine condF (by omega) ?_
    by_cases k2 : 18 < digN l
    · exact condT (by omega) (no (by unfold refP refC1; rw [decide_eq_false (show ¬ digN l ≤ 18 by omega), Bool.and_false]; rfl))
    have C1 : refC1 l = true := by unfold refC1; rw [decide_eq_true (show 4 ≤ digN l by omega), decide_eq_true (show digN l ≤ 18 by omega)]; rfl
    have hall := tw_all isDig (l.drop 1)
    have hdb := dval_bound hall
    have hdp : (10 : Int) ^ ((l.drop 1).takeWhile isDig).length ≤ 10 ^ 18 := pow10_le (by rw [hrn]; omega)
    have h18 : (10 : Int) ^ 18 = 1000000000000000000 := by decide
    refine condF (by omega) (condB (by unfold slB; simp <;> omega) (condT ⟨by rw [hrn]; omega, hall⟩ ?_))
    have n45 : ¬ l.getD 0 0 = 45 := by rw [c43]; decide
    have hY : refY l = dval ((l.drop 1).takeWhile isDig) := by unfold refY; rw [if_neg n45, hF]
    refine condB ((inB_iff _ _).2 (by omega)) (condF (fun e => n45 ((byte_eq2 _ 45 (by omega)).1 e)) ?_)
    refine condT (by omega) (condB (by unfold slB; simp <;> omega) ?_)
    have C2e : refC2 l = decide (yearL (dval ((l.drop 1).takeWhile isDig)) = l.take (1 + digN l)) := by unfold refC2; rw [hF, hY]
    cases C2 : refC2 l with
    | false => exact condB (by rw [← C2e, C2]; rfl) (no (by unfold refP; rw [C1, C2]; rfl))
    | true =>
    refine condN (by rw [← C2e, C2]; rfl) (condB (by unfold slB; simp <;> omega) (condT ⟨by omega, by omega⟩ ?_))
    have C3e : refC3 l = shpB [(45 : UInt8), (48 : UInt8), (48 : UInt8), (45 : UInt8), (48 : UInt8), (48 : UInt8), (84 : UInt8), (48 : UInt8), (48 : UInt8), (58 : UInt8), (48 : UInt8), (48 : UInt8), (58 : UInt8), (48 : UInt8), (48 : UInt8)] (refR l) := rfl
    cases C3 : refC3 l with
    | false => exact condB (by rw [← C3e, C3]; rfl) (no (by unfold refP; rw [C1, C2, C3]; rfl))
    | true =>
    have hr : shpB pat15 (refR l) = true := C3
    have l15 := shp_len hr
    refine condN (by rw [← C3e, C3]; rfl) (condB (by unfold slB; simp <;> omega) ?_)
    have eT : ((refR l).drop 15).take ((refR l).length - 15) = (refR l).drop 15 := List.take_of_length_le (by rw [List.length_drop]; exact Nat.le_refl _)
    rw [eT]
    have lT : ((refR l).drop 15).length ≤ l.length := by rw [List.length_drop]; omega
    have C4e : refC4 l = (!decide ((refR l).drop 15 = []) && decide (((refR l).drop 15).getD (((refR l).drop 15).length - 1) 0 = 90)) := rfl
    have eFd : refF l = ((refR l).drop 15).dropLast := rfl
    have C5e : refC5 l = (decide (refF l = []) || fok (refF l)) := rfl
    have eV : refV l = ⟨(dval ((l.drop 1).takeWhile isDig)), at2 (refR l) 1, at2 (refR l) 4, at2 (refR l) 7, at2 (refR l) 10, at2 (refR l) 13, refA (refF l)⟩ := by unfold refV; rw [hY]
    generalize hT : (refR l).drop 15 = T at *
    by_cases k3 : T = []
    · subst k3
      exact condT (by simp) (no (by unfold refP; rw [C1, C2, C3, C4e]; rfl))
    have hTn : T.length ≠ 0 := fun e => k3 (List.length_eq_zero_iff.1 e)
    have wT : IntKind.i64.wrap ((T.length : Int) - 1) = ((T.length - 1 : Nat) : Int) := by rw [i64_in' _ (by omega)]; omega
    rw [wT, Int.toNat_natCast]
    refine condF (by omega) (condB ((inB_iff _ _).2 (by omega)) ?_)
    by_cases k4 : T.getD (T.length - 1) 0 = 90
    case neg => exact condB (by rw [Bool.not_eq_true', decide_eq_false_iff_not]; exact fun e => k4 ((byte_eq2 _ 90 (by omega)).1 e)) (no (by unfold refP; rw [C1, C2, C3, C4e, decide_eq_false k4, Bool.and_false]; rfl))
    have C4 : refC4 l = true := by rw [C4e, decide_eq_true k4, decide_eq_false k3]; rfl
    have eF : T.take (T.length - 1) = refF l := by rw [eFd, List.dropLast_eq_take]
    have lF : (refF l).length = T.length - 1 := by rw [eFd, List.length_dropLast]
    refine condN (by rw [Bool.not_eq_false', decide_eq_true_eq]; exact (byte_eq2 _ 90 (by omega)).2 k4) (condB (by unfold slB; simp <;> omega) ?_)
    rw [eF]
    generalize hFF : refF l = f at *
    by_cases k5 : f = []
    · subst k5
      refine condF (by simp) ?_
      have := rparse_tail 0 (dval ((l.drop 1).takeWhile isDig)) 0 hr (by omega) (by omega)
      rw [FnD.H_succ, rparse_l0] at this
      simp only [tx_extract, tx_toList, tx_size] at this
      refine Eq.trans this (congrArg some (fin (fun h => ?_) (fun v h => ?_)))
      · exfalso; unfold refP at h; rw [C1, C2, C3, C4, C5e] at h; cases h
      · have : refP l = some (refV l) := by unfold refP; rw [C1, C2, C3, C4, C5e]; rfl
        rw [this] at h; cases h; rw [eV]; rfl
    have hfn : f.length ≠ 0 := fun e => k5 (List.length_eq_zero_iff.1 e)
    have nof : fok f = false → refP l = none := fun h => by unfold refP; rw [C1, C2, C3, C4, C5e, h, decide_eq_false k5]; rfl
    refine condT (by omega) (condB ((inB_iff _ _).2 (by omega)) ?_)
    by_cases k6 : f.getD 0 0 = 46
    case neg => exact condB (by rw [Bool.not_eq_true', decide_eq_false_iff_not]; exact fun e => k6 ((byte_eq2 _ 46 (by omega)).1 e)) (no (nof (by unfold fok; rw [decide_eq_false k6]; rfl)))
    refine condN (by rw [Bool.not_eq_false', decide_eq_true_eq]; exact (byte_eq2 _ 46 (by omega)).2 k6) ?_
    by_cases k7 : f.length < 2
    · exact condT (by omega) (no (nof (by unfold fok; rw [decide_eq_false (show ¬ 2 ≤ f.length by omega), Bool.false_and, Bool.and_false])))
    refine condF (by omega) ?_
    by_cases k8 : 19 < f.length
    · exact condT (by omega) (no (nof (by unfold fok; rw [decide_eq_false (show ¬ f.length ≤ 19 by omega), Bool.false_and, Bool.and_false, Bool.and_false])))
    have wf : IntKind.i64.wrap ((f.length : Int) - 1) = ((f.length - 1 : Nat) : Int) := by rw [i64_in' _ (by omega)]; omega
    rw [wf, Int.toNat_natCast]
    refine condF (by omega) (condT ⟨by omega, by omega, by omega⟩ ?_)
    by_cases k9 : ((f.drop 1).takeWhile isDig).length = f.length - 1
    case neg => exact condB (by rw [Bool.not_eq_true', decide_eq_false_iff_not]; omega) (no (nof (by unfold fok; rw [decide_eq_false k9, Bool.false_and, Bool.and_false, Bool.and_false, Bool.and_false])))
    refine condN (by rw [Bool.not_eq_false', decide_eq_true_eq]; omega) (condB ((inB_iff _ _).2 (by omega)) ?_)
    by_cases k10 : f.getD (f.length - 1) 0 = 48
    · exact condT ((byte_eq2 _ 48 (by omega)).2 k10) (no (nof (by unfold fok; rw [decide_eq_true k10, Bool.not_true, Bool.and_false, Bool.and_false, Bool.and_false, Bool.and_false])))
    have kf : fok f = true := by unfold fok; rw [decide_eq_true k6, decide_eq_true (show 2 ≤ f.length by omega), decide_eq_true (show f.length ≤ 19 by omega), decide_eq_true k9, decide_eq_false k10]; rfl
    have hfa : (f.drop 1).all isDig = true := tw_full (by rw [k9, List.length_drop])
    have efd : (f.drop 1).take (f.length - 1) = f.drop 1 := List.take_of_length_le (by rw [List.length_drop]; exact Nat.le_refl _)
    rw [efd]
    have ldr : (f.drop 1).length = f.length - 1 := by rw [List.length_drop]
    refine condF (fun e => k10 ((byte_eq2 _ 48 (by omega)).1 e)) (condB (by unfold slB; simp <;> omega) (condT ⟨by omega, hfa⟩ ?_))
    have hv := dval_bound hfa
    have hap : dval (f.drop 1) * 10 ^ (19 - f.length) < 1000000000000000000 := by
      have q := (fok_back (f := f) (by rw [kf, Bool.or_true])).2.2
      unfold refA at q
      rwa [if_neg k5] at q
    have := rparse_loop (dval ((l.drop 1).takeWhile isDig)) hr (by omega) (19 - f.length) 30 (dval (f.drop 1)) (by omega) (by omega) hv.1 hap
    rw [show 19 - (19 - f.length) = f.length by omega] at this
    refine Eq.trans this (congrArg some (fin (fun h => ?_) (fun v h => ?_)))
    · exfalso; unfold refP at h; rw [C1, C2, C3, C4, C5e, kf, Bool.or_true] at h; cases h
    · have e : refP l = some (refV l) := by unfold refP; rw [C1, C2, C3, C4, C5e, kf, Bool.or_true]; rfl
      rw [e] at h; cases h; rw [eV]
      unfold refA; rw [if_neg k5]
  case neg =>
  refine condF (fun e => c43 ((byte_eq2 _ 43 (by omega)).1 e)) (condB ((inB_iff _ _).2 (by omega)) ?_)
  by_cases c45 : l.getD 0 0 = 45
  case pos =>
    refine condT ((byte_eq2 _ 45 (by omega)).2 c45) ?_

    have hF : sgnN l = 1 := by unfold sgnN; rw [if_pos (.inr c45)]
    have hrun : (l.drop 1).takeWhile isDig = (l.drop (sgnN l)).takeWhile isDig := by rw [hF]
    have hrn : ((l.drop 1).takeWhile isDig).length = digN l := by unfold digN; rw [hF]
    have hle := tw_len isDig (l.drop 1)
    rw [List.length_drop, hrn] at hle
    have htk : (l.drop 1).take (digN l) = (l.drop 1).takeWhile isDig := by rw [← hrn]; exact tw_take isDig (l.drop 1)
    have wv : IntKind.i64.wrap (1 + ((digN l : Nat) : Int)) = ((1 + digN l : Nat) : Int) := by rw [i64_in' _ (by omega)]; omega
    rw [hrn, wv]
    simp only [Int.toNat_natCast, tx_extract, tx_toList, tx_size, bytes_get, eqB_tx, List.drop_zero, Nat.sub_zero]
    rw [show 1 + digN l - 1 = digN l by omega, htk, List.take_of_length_le (show (l.drop (1 + digN l)).length ≤ l.length - (1 + digN l) by rw [List.length_drop]; exact Nat.le_refl _)]
    have eR : l.drop (1 + digN l) = refR l := by unfold refR; rw [hF]
    have lR : (refR l).length ≤ l.length := by rw [← eR, List.length_drop]; omega
    rw [eR]
    refine condT ⟨by omega, by omega, by omega⟩ ?_
    by_cases k1 : digN l < 4
    · exact condT (by omega) (no (by unfold refP refC1; rw [decide_eq_false (show ¬ 4 ≤ digN l by omega)]; rfl))
    refine condF (by omega) ?_
    by_cases k2 : 18 < digN l
    · exact condT (by omega) (no (by unfold refP refC1; rw [decide_eq_false (show ¬ digN l ≤ 18 by omega), Bool.and_false]; rfl))
    have C1 : refC1 l = true := by unfold refC1; rw [decide_eq_true (show 4 ≤ digN l by omega), decide_eq_true (show digN l ≤ 18 by omega)]; rfl
    have hall := tw_all isDig (l.drop 1)
    have hdb := dval_bound hall
    have hdp : (10 : Int) ^ ((l.drop 1).takeWhile isDig).length ≤ 10 ^ 18 := pow10_le (by rw [hrn]; omega)
    have h18 : (10 : Int) ^ 18 = 1000000000000000000 := by decide
    refine condF (by omega) (condB (by unfold slB; simp <;> omega) (condT ⟨by rw [hrn]; omega, hall⟩ ?_))
    have hY : refY l = - dval ((l.drop 1).takeWhile isDig) := by unfold refY; rw [if_pos c45, hF]
    have wy : IntKind.i64.wrap (0 - dval ((l.drop 1).takeWhile isDig)) = - dval ((l.drop 1).takeWhile isDig) := by rw [i64_in' _ (by omega), Int.zero_sub]
    simp only [wy]
    refine condB ((inB_iff _ _).2 (by omega)) (condT ((byte_eq2 _ 45 (by omega)).2 c45) ?_)
    refine condT (by omega) (condB (by unfold slB; simp <;> omega) ?_)
    have C2e : refC2 l = decide (yearL (- dval ((l.drop 1).takeWhile isDig)) = l.take (1 + digN l)) := by unfold refC2; rw [hF, hY]
    cases C2 : refC2 l with
    | false => exact condB (by rw [← C2e, C2]; rfl) (no (by unfold refP; rw [C1, C2]; rfl))
    | true =>
    refine condN (by rw [← C2e, C2]; rfl) (condB (by unfold slB; simp <;> omega) (condT ⟨by omega, by omega⟩ ?_))
    have C3e : refC3 l = shpB [(45 : UInt8), (48 : UInt8), (48 : UInt8), (45 : UInt8), (48 : UInt8), (48 : UInt8), (84 : UInt8), (48 : UInt8), (48 : UInt8), (58 : UInt8), (48 : UInt8), (48 : UInt8), (58 : UInt8), (48 : UInt8), (48 : UInt8)] (refR l) := rfl
    cases C3 : refC3 l with
    | false => exact condB (by rw [← C3e, C3]; rfl) (no (by unfold refP; rw [C1, C2, C3]; rfl))
    | true =>
    have hr : shpB pat15 (refR l) = true := C3
    have l15 := shp_len hr
    refine condN (by rw [← C3e, C3]; rfl) (condB (by unfold slB; simp <;> omega) ?_)
    have eT : ((refR l).drop 15).take ((refR l).length - 15) = (refR l).drop 15 := List.take_of_length_le (by rw [List.length_drop]; exact Nat.le_refl _)
    rw [eT]
    have lT : ((refR l).drop 15).length ≤ l.length := by rw [List.length_drop]; omega
    have C4e : refC4 l = (!decide ((refR l).drop 15 = []) && decide (((refR l).drop 15).getD (((refR l).drop 15).length - 1) 0 = 90)) := rfl
    have eFd : refF l = ((refR l).drop 15).dropLast := rfl
    have C5e : refC5 l = (decide (refF l = []) || fok (refF l)) := rfl
    have eV : refV l = ⟨(- dval ((l.drop 1).takeWhile isDig)), at2 (refR l) 1, at2 (refR l) 4, at2 (refR l) 7, at2 (refR l) 10, at2 (refR l) 13, refA (refF l)⟩ := by unfold refV; rw [hY]
    generalize hT : (refR l).drop 15 = T at *
    by_cases k3 : T = []
    · subst k3
      exact condT (by simp) (no (by unfold refP; rw [C1, C2, C3, C4e]; rfl))
    have hTn : T.length ≠ 0 := fun e => k3 (List.length_eq_zero_iff.1 e)
    have wT : IntKind.i64.wrap ((T.length : Int) - 1) = ((T.length - 1 : Nat) : Int) := by rw [i64_in' _ (by omega)]; omega
    rw [wT, Int.toNat_natCast]
    refine condF (by omega) (condB ((inB_iff _ _).2 (by omega)) ?_)
    by_cases k4 : T.getD (T.length - 1) 0 = 90
    case neg => exact condB (by rw [Bool.not_eq_true', decide_eq_false_iff_not]; exact fun e => k4 ((byte_eq2 _ 90 (by omega)).1 e)) (no (by unfold refP; rw [C1, C2, C3, C4e, decide_eq_false k4, Bool.and_false]; rfl))
    have C4 : refC4 l = true := by rw [C4e, decide_eq_true k4, decide_eq_false k3]; rfl
    have eF : T.take (T.length - 1) = refF l := by rw [eFd, List.dropLast_eq_take]
    have lF : (refF l).length = T.length - 1 := by rw [eFd, List.length_dropLast]
    refine condN (by rw [Bool.not_eq_false', decide_eq_true_eq]; exact (byte_eq2 _ 90 (by omega)).2 k4) (condB (by unfold slB; simp <;> omega) ?_)
    rw [eF]
    generalize hFF : refF l = f at *
    by_cases k5 : f = []
    · subst k5
      refine condF (by simp) ?_
      have := rparse_tail 0 (- dval ((l.drop 1).takeWhile isDig)) 0 hr (by omega) (by omega)
      rw [FnD.H_succ, rparse_l0] at this
      simp only [tx_extract, tx_toList, tx_size] at this
      refine Eq.trans this (congrArg some (fin (fun h => ?_) (fun v h => ?_)))
      · exfalso; unfold refP at h; rw [C1, C2, C3, C4, C5e] at h; cases h
      · have : refP l = some (refV l) := by unfold refP; rw [C1, C2, C3, C4, C5e]; rfl
        rw [this] at h; cases h; rw [eV]; rfl
    have hfn : f.length ≠ 0 := fun e => k5 (List.length_eq_zero_iff.1 e)
    have nof : fok f = false → refP l = none := fun h => by unfold refP; rw [C1, C2, C3, C4, C5e, h, decide_eq_false k5]; rfl
    refine condT (by omega) (condB ((inB_iff _ _).2 (by omega)) ?_)
    by_cases k6 : f.getD 0 0 = 46
    case neg => exact condB (by rw [Bool.not_eq_true', decide_eq_false_iff_not]; exact fun e => k6 ((byte_eq2 _ 46 (by omega)).1 e)) (no (nof (by unfold fok; rw [decide_eq_false k6]; rfl)))
    refine condN (by rw [Bool.not_eq_false', decide_eq_true_eq]; exact (byte_eq2 _ 46 (by omega)).2 k6) ?_
    by_cases k7 : f.length < 2
    · exact condT (by omega) (no (nof (by unfold fok; rw [decide_eq_false (show ¬ 2 ≤ f.length by omega), Bool.false_and, Bool.and_false])))
    refine condF (by omega) ?_
    by_cases k8 : 19 < f.length
    · exact condT (by omega) (no (nof (by unfold fok; rw [decide_eq_false (show ¬ f.length ≤ 19 by omega), Bool.false_and, Bool.and_false, Bool.and_false])))
    have wf : IntKind.i64.wrap ((f.length : Int) - 1) = ((f.length - 1 : Nat) : Int) := by rw [i64_in' _ (by omega)]; omega
    rw [wf, Int.toNat_natCast]
    refine condF (by omega) (condT ⟨by omega, by omega, by omega⟩ ?_)
    by_cases k9 : ((f.drop 1).takeWhile isDig).length = f.length - 1
    case neg => exact condB (by rw [Bool.not_eq_true', decide_eq_false_iff_not]; omega) (no (nof (by unfold fok; rw [decide_eq_false k9, Bool.false_and, Bool.and_false, Bool.and_false, Bool.and_false])))
    refine condN (by rw [Bool.not_eq_false', decide_eq_true_eq]; omega) (condB ((inB_iff _ _).2 (by omega)) ?_)
    by_cases k10 : f.getD (f.length - 1) 0 = 48
    · exact condT ((byte_eq2 _ 48 (by omega)).2 k10) (no (nof (by unfold fok; rw [decide_eq_true k10, Bool.not_true, Bool.and_false, Bool.and_false, Bool.and_false, Bool.and_false])))
    have kf : fok f = true := by unfold fok; rw [decide_eq_true k6, decide_eq_true (show 2 ≤ f.length by omega), decide_eq_true (show f.length ≤ 19 by omega), decide_eq_true k9, decide_eq_false k10]; rfl
    have hfa : (f.drop 1).all isDig = true := tw_full (by rw [k9, List.length_drop])
    have efd : (f.drop 1).take (f.length - 1) = f.drop 1 := List.take_of_length_le (by rw [List.length_drop]; exact Nat.le_refl _)
    rw [efd]
    have ldr : (f.drop 1).length = f.length - 1 := by rw [List.length_drop]
    refine condF (fun e => k10 ((byte_eq2 _ 48 (by omega)).1 e)) (condB (by unfold slB; simp <;> omega) (condT ⟨by omega, hfa⟩ ?_))
    have hv := dval_bound hfa
    have hap : dval (f.drop 1) * 10 ^ (19 - f.length) < 1000000000000000000 := by
      have q := (fok_back (f := f) (by rw [kf, Bool.or_true])).2.2
      unfold refA at q
      rwa [if_neg k5] at q
    have := rparse_loop (- dval ((l.drop 1).takeWhile isDig)) hr (by omega) (19 - f.length) 30 (dval (f.drop 1)) (by omega) (by omega) hv.1 hap
    rw [show 19 - (19 - f.length) = f.length by omega] at this
    refine Eq.trans this (congrArg some (fin (fun h => ?_) (fun v h => ?_)))
    · exfalso; unfold refP at h; rw [C1, C2, C3, C4, C5e, kf, Bool.or_true] at h; cases h
    · have e : refP l = some (refV l) := by unfold refP; rw [C1, C2, C3, C4, C5e, kf, Bool.or_true]; rfl
      rw [e] at h; cases h; rw [eV]
      unfold refA; rw [if_neg k5]
  case neg =>
    refine condF (fun e => c45 ((byte_eq2 _ 45 (by omega)).1 e)) ?_

    have hF : sgnN l = 0 := by unfold sgnN; rw [if_neg (by simp only [not_or]; exact ⟨c43, c45⟩)]
    have hrun : (l.drop 0).takeWhile isDig = (l.drop (sgnN l)).takeWhile isDig := by rw [hF]
    have hrn : ((l.drop 0).takeWhile isDig).length = digN l := by unfold digN; rw [hF]
    have hle := tw_len isDig (l.drop 0)
    rw [List.length_drop, hrn] at hle
    have htk : (l.drop 0).take (digN l) = (l.drop 0).takeWhile isDig := by rw [← hrn]; exact tw_take isDig (l.drop 0)
    have wv : IntKind.i64.wrap (0 + ((digN l : Nat) : Int)) = ((0 + digN l : Nat) : Int) := by rw [i64_in' _ (by omega)]; omega
    rw [hrn, wv]
    simp only [Int.toNat_natCast, tx_extract, tx_toList, tx_size, bytes_get, eqB_tx, List.drop_zero, Nat.sub_zero]
    rw [List.take_of_length_le (show (l.drop (0 + digN l)).length ≤ l.length - (0 + digN l) by rw [List.length_drop]; exact Nat.le_refl _)]
    have eR : l.drop (0 + digN l) = refR l := by unfold refR; rw [hF]
    have lR : (refR l).length ≤ l.length := by rw [← eR, List.length_drop]; omega
    rw [eR]
    refine condT ⟨by omega, by omega, by omega⟩ ?_
    by_cases k1 : digN l < 4
    · exact condT (by omega) (no (by unfold refP refC1; rw [decide_eq_false (show ¬ 4 ≤ digN l by omega)]; rfl))
    refine condF (by omega) ?_
    by_cases k2 : 18 < digN l
    · exact condT (by omega) (no (by unfold refP refC1; rw [decide_eq_false (show ¬ digN l ≤ 18 by omega), Bool.and_false]; rfl))
    have C1 : refC1 l = true := by unfold refC1; rw [decide_eq_true (show 4 ≤ digN l by omega), decide_eq_true (show digN l ≤ 18 by omega)]; rfl
    have htk0 : l.take (0 + digN l) = l.takeWhile isDig := by rw [Nat.zero_add]; exact htk
    have hall : (l.take (0 + digN l)).all isDig = true := by rw [htk0]; exact tw_all isDig l
    have hdb := dval_bound hall
    have hdp : (10 : Int) ^ (l.take (0 + digN l)).length ≤ 10 ^ 18 := pow10_le (by rw [List.length_take]; omega)
    have h18 : (10 : Int) ^ 18 = 1000000000000000000 := by decide
    refine condF (by omega) (condB (by unfold slB; simp <;> omega) (condT ⟨by rw [List.length_take]; omega, hall⟩ ?_))
    have hY : refY l = dval (l.take (0 + digN l)) := by unfold refY; rw [if_neg c45, hF, htk0]; rfl
    refine condT (by omega) (condB (by unfold slB; simp <;> omega) ?_)
    have C2e : refC2 l = decide (yearL (dval (l.take (0 + digN l))) = l.take (0 + digN l)) := by unfold refC2; rw [hF, hY]
    cases C2 : refC2 l with
    | false => exact condB (by rw [← C2e, C2]; rfl) (no (by unfold refP; rw [C1, C2]; rfl))
    | true =>
    refine condN (by rw [← C2e, C2]; rfl) (condB (by unfold slB; simp <;> omega) (condT ⟨by omega, by omega⟩ ?_))
    have C3e : refC3 l = shpB [(45 : UInt8), (48 : UInt8), (48 : UInt8), (45 : UInt8), (48 : UInt8), (48 : UInt8), (84 : UInt8), (48 : UInt8), (48 : UInt8), (58 : UInt8), (48 : UInt8), (48 : UInt8), (58 : UInt8), (48 : UInt8), (48 : UInt8)] (refR l) := rfl
    cases C3 : refC3 l with
    | false => exact condB (by rw [← C3e, C3]; rfl) (no (by unfold refP; rw [C1, C2, C3]; rfl))
    | true =>
    have hr : shpB pat15 (refR l) = true := C3
    have l15 := shp_len hr
    refine condN (by rw [← C3e, C3]; rfl) (condB (by unfold slB; simp <;> omega) ?_)
    have eT : ((refR l).drop 15).take ((refR l).length - 15) = (refR l).drop 15 := List.take_of_length_le (by rw [List.length_drop]; exact Nat.le_refl _)
    rw [eT]
    have lT : ((refR l).drop 15).length ≤ l.length := by rw [List.length_drop]; omega
    have C4e : refC4 l = (!decide ((refR l).drop 15 = []) && decide (((refR l).drop 15).getD (((refR l).drop 15).length - 1) 0 = 90)) := rfl
    have eFd : refF l = ((refR l).drop 15).dropLast := rfl
    have C5e : refC5 l = (decide (refF l = []) || fok (refF l)) := rfl
    have eV : refV l = ⟨(dval (l.take (0 + digN l))), at2 (refR l) 1, at2 (refR l) 4, at2 (refR l) 7, at2 (refR l) 10, at2 (refR l) 13, refA (refF l)⟩ := by unfold refV; rw [hY]
    generalize hT : (refR l).drop 15 = T at *
    by_cases k3 : T = []
    · subst k3
      exact condT (by simp) (no (by unfold refP; rw [C1, C2, C3, C4e]; rfl))
    have hTn : T.length ≠ 0 := fun e => k3 (List.length_eq_zero_iff.1 e)
    have wT : IntKind.i64.wrap ((T.length : Int) - 1) = ((T.length - 1 : Nat) : Int) := by rw [i64_in' _ (by omega)]; omega
    rw [wT, Int.toNat_natCast]
    refine condF (by omega) (condB ((inB_iff _ _).2 (by omega)) ?_)
    by_cases k4 : T.getD (T.length - 1) 0 = 90
    case neg => exact condB (by rw [Bool.not_eq_true', decide_eq_false_iff_not]; exact fun e => k4 ((byte_eq2 _ 90 (by omega)).1 e)) (no (by unfold refP; rw [C1, C2, C3, C4e, decide_eq_false k4, Bool.and_false]; rfl))
    have C4 : refC4 l = true := by rw [C4e, decide_eq_true k4, decide_eq_false k3]; rfl
    have eF : T.take (T.length - 1) = refF l := by rw [eFd, List.dropLast_eq_take]
    have lF : (refF l).length = T.length - 1 := by rw [eFd, List.length_dropLast]
    refine condN (by rw [Bool.not_eq_false', decide_eq_true_eq]; exact (byte_eq2 _ 90 (by omega)).2 k4) (condB (by unfold slB; simp <;> omega) ?_)
    rw [eF]
    generalize hFF : refF l = f at *
    by_cases k5 : f = []
    · subst k5
      refine condF (by simp) ?_
      have := rparse_tail 0 (dval (l.take (0 + digN l))) 0 hr (by omega) (by omega)
      rw [FnD.H_succ, rparse_l0] at this
      simp only [tx_extract, tx_toList, tx_size] at this
      refine Eq.trans this (congrArg some (fin (fun h => ?_) (fun v h => ?_)))
      · exfalso; unfold refP at h; rw [C1, C2, C3, C4, C5e] at h; cases h
      · have : refP l = some (refV l) := by unfold refP; rw [C1, C2, C3, C4, C5e]; rfl
        rw [this] at h; cases h; rw [eV]; rfl
    have hfn : f.length ≠ 0 := fun e => k5 (List.length_eq_zero_iff.1 e)
    have nof : fok f = false → refP l = none := fun h => by unfold refP; rw [C1, C2, C3, C4, C5e, h, decide_eq_false k5]; rfl
    refine condT (by omega) (condB ((inB_iff _ _).2 (by omega)) ?_)
    by_cases k6 : f.getD 0 0 = 46
    case neg => exact condB (by rw [Bool.not_eq_true', decide_eq_false_iff_not]; exact fun e => k6 ((byte_eq2 _ 46 (by omega)).1 e)) (no (nof (by unfold fok; rw [decide_eq_false k6]; rfl)))
    refine condN (by rw [Bool.not_eq_false', decide_eq_true_eq]; exact (byte_eq2 _ 46 (by omega)).2 k6) ?_
    by_cases k7 : f.length < 2
    · exact condT (by omega) (no (nof (by unfold fok; rw [decide_eq_false (show ¬ 2 ≤ f.length by omega), Bool.false_and, Bool.and_false])))
    refine condF (by omega) ?_
    by_cases k8 : 19 < f.length
    · exact condT (by omega) (no (nof (by unfold fok; rw [decide_eq_false (show ¬ f.length ≤ 19 by omega), Bool.false_and, Bool.and_false, Bool.and_false])))
    have wf : IntKind.i64.wrap ((f.length : Int) - 1) = ((f.length - 1 : Nat) : Int) := by rw [i64_in' _ (by omega)]; omega
    rw [wf, Int.toNat_natCast]
    refine condF (by omega) (condT ⟨by omega, by omega, by omega⟩ ?_)
    by_cases k9 : ((f.drop 1).takeWhile isDig).length = f.length - 1
    case neg => exact condB (by rw [Bool.not_eq_true', decide_eq_false_iff_not]; omega) (no (nof (by unfold fok; rw [decide_eq_false k9, Bool.false_and, Bool.and_false, Bool.and_false, Bool.and_false])))
    refine condN (by rw [Bool.not_eq_false', decide_eq_true_eq]; omega) (condB ((inB_iff _ _).2 (by omega)) ?_)
    by_cases k10 : f.getD (f.length - 1) 0 = 48
    · exact condT ((byte_eq2 _ 48 (by omega)).2 k10) (no (nof (by unfold fok; rw [decide_eq_true k10, Bool.not_true, Bool.and_false, Bool.and_false, Bool.and_false, Bool.and_false])))
    have kf : fok f = true := by unfold fok; rw [decide_eq_true k6, decide_eq_true (show 2 ≤ f.length by omega), decide_eq_true (show f.length ≤ 19 by omega), decide_eq_true k9, decide_eq_false k10]; rfl
    have hfa : (f.drop 1).all isDig = true := tw_full (by rw [k9, List.length_drop])
    have efd : (f.drop 1).take (f.length - 1) = f.drop 1 := List.take_of_length_le (by rw [List.length_drop]; exact Nat.le_refl _)
    rw [efd]
    have ldr : (f.drop 1).length = f.length - 1 := by rw [List.length_drop]
    refine condF (fun e => k10 ((byte_eq2 _ 48 (by omega)).1 e)) (condB (by unfold slB; simp <;> omega) (condT ⟨by omega, hfa⟩ ?_))
    have hv := dval_bound hfa
    have hap : dval (f.drop 1) * 10 ^ (19 - f.length) < 1000000000000000000 := by
      have q := (fok_back (f := f) (by rw [kf, Bool.or_true])).2.2
      unfold refA at q
      rwa [if_neg k5] at q
    have := rparse_loop (dval (l.take (0 + digN l))) hr (by omega) (19 - f.length) 30 (dval (f.drop 1)) (by omega) (by omega) hv.1 hap
    rw [show 19 - (19 - f.length) = f.length by omega] at this
    refine Eq.trans this (congrArg some (fin (fun h => ?_) (fun v h => ?_)))
    · exfalso; unfold refP at h; rw [C1, C2, C3, C4, C5e, kf, Bool.or_true] at h; cases h
    · have e : refP l = some (refV l) := by unfold refP; rw [C1, C2, C3, C4, C5e, kf, Bool.or_true]; rfl
      rw [e] at h; cases h; rw [eV]
      unfold refA; rw [if_neg k5]
theorem rparse_ok (s : ByteArray) (hp : s.size ≤ 9223372036854775600) : FnOk cfg 21 ([vS s].map SV.den) (.tup [.agg [gI (parN s.data.toList), gI (parS s.data.toList), gI (parA s.data.toList)], tI (parE s.data.toList)] : SV).den := by
  obtain ⟨nn, h⟩ := rparse_run s hp
  exact FnD.ok rparse_g rparse_f mixed Tryz.func21 rfl rfl rfl rfl rfl rfl h
noncomputable def c_rparse : SpecF := fun args _ K => match args with
  | [.one (.c (.str s))] => bif decide (s.size ≤ 9223372036854775600) then K (.tup [.agg [gI (parN s.data.toList), gI (parS s.data.toList), gI (parA s.data.toList)], tI (parE s.data.toList)]) [] else none
  | _ => none
theorem c_rparse_ok : SpecOk cfg 21 c_rparse := by
  intro args bx K out h
  unfold c_rparse at h
  split at h
  · obtain ⟨hp, h⟩ := bif_some h
    exact ⟨_, _, h, .inl (rparse_ok _ (of_decide_eq_true hp) _), by simp [isTupS]⟩
  · cases h
end Go.Proofs.YtldofkogmkfpjaaGreatDoor
