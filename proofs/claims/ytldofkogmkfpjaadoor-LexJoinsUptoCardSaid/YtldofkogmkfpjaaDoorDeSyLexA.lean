/-
  The contracts of the laws of layer 10 (epactlaw10), those that ask no answer of the document's Scan.
-/
import Derived.Test.YtldofkogmkfpjaaDoorDeSyLex
import Derived.Test.YtldofkogmkfpjaaDoorPLexLaw
namespace Go.Proofs.YtldofkogmkfpjaaDoor
open Go Go.Ev Go.Sy
set_option linter.unusedSimpArgs false
set_option linter.unusedVariables false
set_option maxRecDepth 10000
set_option maxHeartbeats 4000000

theorem textOf_1 (n : Nat) (h : n < 256) : textOf [(n : Int)] = tx [UInt8.ofNat n] := by
  simp [textOf, tx]
/-! ### epactlaw10.answers -/
noncomputable def lxans_e : Ev' := ⟨Tryd.prog, glob, Γof [(37, c_lscan), (41, c_llines)]⟩
theorem lxans_g : Gd cfg lxans_e := gd (env_cons c_lscan_ok (env_cons c_llines_ok (env_nil _)))
noncomputable def lxans_f : FnD := ⟨39, Tryd.f39, noSh, Tryd.f39.resultTypes.toList⟩
theorem lxans_ent (h : Hd)  : lxans_f.ent lxans_e [] h [] [] = ret (vB true) := by kernel_rfl
theorem lxans_run  : ∃ fu, lxans_f.run lxans_e [] fu [] [] = some ⟨vB true, []⟩ := by
  refine ⟨0, ?_⟩
  rw [FnD.run, lxans_ent]
theorem lxans_ok  : FnOk cfg 39 ([].map SV.den) (vB true : SV).den := by
  obtain ⟨nn, h⟩ := lxans_run 
  exact FnD.ok lxans_g lxans_f mixed Tryd.func39 rfl rfl rfl rfl rfl rfl h
noncomputable def c_lxans : SpecF := fun args _ K => match args with
  | [] => K (vB true) []
  | _ => none
theorem c_lxans_ok : SpecOk cfg 39 c_lxans := by
  intro args bx K out h
  unfold c_lxans at h
  split at h
  · exact ⟨_, _, h, .inl (lxans_ok  _), by simp [isTupS]⟩
  · cases h
/-! ### epactlaw10.LexNotes -/
noncomputable def lxnotes_e : Ev' := ⟨Tryd.prog, glob, Γof [(37, c_lscan), (39, c_lxans)]⟩
theorem lxnotes_g : Gd cfg lxnotes_e := gd (env_cons c_lscan_ok (env_cons c_lxans_ok (env_nil _)))
noncomputable def lxnotes_f : FnD := ⟨15, Tryd.f15, noSh, Tryd.f15.resultTypes.toList⟩
theorem lxnotes_ent (h : Hd) (s : ByteArray) : lxnotes_f.ent lxnotes_e [] h [vS s] [] = let v1 : Nat := ((tx [(35 : UInt8), (32 : UInt8)]) ++ s).size; bif decide ((2 : Nat) + s.size ≤ (9223372036854775807 : Nat)) then bif decide (v1 ≤ (9223372036854775807 : Nat)) then ret (vB true) else none else none := by kernel_rfl
theorem lxnotes_run (s : ByteArray) (hp : s.size ≤ 140737488355328) : ∃ fu, lxnotes_f.run lxnotes_e [] fu [vS s] [] = some ⟨vB true, []⟩ := by
  refine ⟨0, ?_⟩
  rw [FnD.run, lxnotes_ent]
  have e : (tx [(35 : UInt8), (32 : UInt8)] ++ s).size = 2 + s.size := by rw [ByteArray.size_append, tx_size]; rfl
  dsimp only
  rw [e]
  exact condT (by omega) (condT (by omega) rfl)
theorem lxnotes_ok (s : ByteArray) (hp : s.size ≤ 140737488355328) : FnOk cfg 15 ([vS s].map SV.den) (vB true : SV).den := by
  obtain ⟨nn, h⟩ := lxnotes_run s hp
  exact FnD.ok lxnotes_g lxnotes_f mixed Tryd.func15 rfl rfl rfl rfl rfl rfl h
noncomputable def c_lxnotes : SpecF := fun args _ K => match args with
  | [.one (.c (.str s))] => bif decide (s.size ≤ 140737488355328) then K (vB true) [] else none
  | _ => none
theorem c_lxnotes_ok : SpecOk cfg 15 c_lxnotes := by
  intro args bx K out h
  unfold c_lxnotes at h
  split at h
  · obtain ⟨hp, h⟩ := bif_some h
    exact ⟨_, _, h, .inl (lxnotes_ok _ (of_decide_eq_true hp) _), by simp [isTupS]⟩
  · cases h
/-! ### epactref10.Dec -/
noncomputable def c_ndecB (B : Nat) : SpecF := fun args _ K => match args with
  | [.one (.c (.int .i64 n))] => bif decide ((0 ≤ n ∧ n < 9223372036854775808) ∧ n.toNat < B) then K (vS (tx (Lib.decDigits n.toNat))) [] else none
  | _ => none
noncomputable def ndec_e (B : Nat) : Ev' := ⟨Tryd.prog, glob, Γof [(43, c_ndecB B)]⟩
theorem ndec_g (B : Nat) (hB : SpecOk cfg 43 (c_ndecB B)) : Gd cfg (ndec_e B) := gd (env_cons hB (env_nil _))
noncomputable def ndec_f : FnD := ⟨43, Tryd.f43, noSh, Tryd.f43.resultTypes.toList⟩
theorem ndec_ent (h : Hd) (B : Nat) (n : Int) : ndec_f.ent (ndec_e B) [] h [vI n] [] = let v1 : ByteArray := textOf [IntKind.u8.wrap (IntKind.i64.wrap ((48 : Int) + n.tmod (10 : Int)))]; let v2 : Nat := (tx (Lib.decDigits (IntKind.i64.wrap (n.tdiv (10 : Int))).toNat)).size + v1.size; bif decide (n < (10 : Int)) then ret (vS (textOf [IntKind.u8.wrap (IntKind.i64.wrap ((48 : Int) + n))])) else bif decide (((0 : Int) ≤ IntKind.i64.wrap (n.tdiv (10 : Int)) ∧ IntKind.i64.wrap (n.tdiv (10 : Int)) < (9223372036854775808 : Int)) ∧ (IntKind.i64.wrap (n.tdiv (10 : Int))).toNat < B) then bif decide (v2 ≤ (9223372036854775807 : Nat)) then ret (vS (tx (Lib.decDigits (IntKind.i64.wrap (n.tdiv (10 : Int))).toNat) ++ v1)) else none else none := by kernel_rfl
theorem ndec_run (B : Nat) (n : Int) (hp : 0 ≤ n ∧ n < 9223372036854775808) (hB : n.toNat < B + 1) : ∃ fu, ndec_f.run (ndec_e B) [] fu [vI n] [] = some ⟨vS (tx (Lib.decDigits n.toNat)), []⟩ := by
  refine ⟨0, ?_⟩
  rw [FnD.run, ndec_ent]
  obtain ⟨h1, h2⟩ := hp
  obtain ⟨n, rfl⟩ := Int.eq_ofNat_of_zero_le h1
  rw [Int.toNat_natCast] at hB
  have w1 : IntKind.i64.wrap (((n : Nat) : Int).tdiv 10) = ((n / 10 : Nat) : Int) := by rw [show ((n : Nat) : Int).tdiv 10 = ((n / 10 : Nat) : Int) from rfl]; exact IntWalk.i64_in _ (by omega)
  have w2 : IntKind.u8.wrap (IntKind.i64.wrap (48 + ((n : Nat) : Int).tmod 10)) = ((48 + n % 10 : Nat) : Int) := by
    rw [show ((n : Nat) : Int).tmod 10 = ((n % 10 : Nat) : Int) from rfl, IntWalk.i64_in _ (by omega), IntWalk.u8_in _ (by omega)]; omega
  dsimp only
  rw [w1, w2, textOf_1 _ (by omega), Int.toNat_natCast, Int.toNat_natCast, tx_size, tx_size]
  by_cases h : n < 10
  · refine condT (by omega) (retV ?_)
    rw [IntWalk.i64_in _ (by omega), IntWalk.u8_in _ (by omega), show (48 : Int) + (n : Nat) = ((48 + n : Nat) : Int) by omega, textOf_1 _ (by omega), dec_small h]
  · have : (Lib.decDigits (n / 10)).length ≤ 19 := dec_len (k := 18) (by omega)
    refine condF (by omega) (condT ⟨by omega, by omega⟩ (condT (by rw [List.length_singleton]; omega) (retV ?_)))
    rw [dec_big h, tx_append]
theorem ndec_okB : ∀ (B : Nat), SpecOk cfg 43 (c_ndecB B)
  | 0 => by
    intro args bx K out h
    unfold c_ndecB at h
    split at h
    · obtain ⟨hp, _⟩ := bif_some h
      exact absurd (of_decide_eq_true hp).2 (Nat.not_lt_zero _)
    · cases h
  | B + 1 => by
    intro args bx K out h
    unfold c_ndecB at h
    split at h
    · obtain ⟨hp, h2⟩ := bif_some h
      have hp := of_decide_eq_true hp
      obtain ⟨nn, hr⟩ := ndec_run B _ hp.1 hp.2
      exact ⟨_, _, h2, .inl (FnD.ok (ndec_g B (ndec_okB B)) ndec_f mixed Tryd.func43 rfl rfl rfl rfl rfl rfl hr _), by simp [isTupS]⟩
    · cases h
theorem ndec_ok (n : Int) (hp : 0 ≤ n ∧ n < 9223372036854775808) : FnOk cfg 43 ([vI n].map SV.den) (vS (tx (Lib.decDigits n.toNat)) : SV).den := by
  obtain ⟨nn, h⟩ := ndec_run (n.toNat) n hp (Nat.lt_succ_self _)
  exact FnD.ok (ndec_g _ (ndec_okB _)) ndec_f mixed Tryd.func43 rfl rfl rfl rfl rfl rfl h
noncomputable def c_ndec : SpecF := fun args _ K => match args with
  | [.one (.c (.int .i64 n))] => bif decide (0 ≤ n ∧ n < 9223372036854775808) then K (vS (tx (Lib.decDigits n.toNat))) [] else none
  | _ => none
theorem c_ndec_ok : SpecOk cfg 43 c_ndec := by
  intro args bx K out h
  unfold c_ndec at h
  split at h
  · obtain ⟨hp, h⟩ := bif_some h
    exact ⟨_, _, h, .inl (ndec_ok _ (of_decide_eq_true hp) _), by simp [isTupS]⟩
  · cases h
/-! ### epactlaw10.LexData -/
noncomputable def lxdata_e : Ev' := ⟨Tryd.prog, glob, Γof [(37, c_lscan), (39, c_lxans), (43, c_ndec)]⟩
theorem lxdata_g : Gd cfg lxdata_e := gd (env_cons c_lscan_ok (env_cons c_lxans_ok (env_cons c_ndec_ok (env_nil _))))
noncomputable def lxdata_f : FnD := ⟨14, Tryd.f14, shOf [(0, ⟨81, [], [], [(0, .c (.int .u32)), (1, .c (.int .u32)), (2, .c (.int .u8)), (3, .c (.int .u8)), (4, .c (.str)), (11, .c (.str)), (12, .c (.int .i64))]⟩), (1, ⟨81, [], [], [(0, .c (.int .u32)), (1, .c (.int .u32)), (3, .c (.int .u8)), (4, .c (.str)), (11, .c (.str)), (13, .c (.int .i64))]⟩)], Tryd.f14.resultTypes.toList⟩
theorem lxdata_ent (h : Hd) (a : Int) (b : Int) (n : Int) (m : Int) (s : ByteArray) : lxdata_f.ent lxdata_e [] h [c1 (.int .u32 a), c1 (.int .u32 b), c1 (.int .u8 n), c1 (.int .u8 m), vS s] [] = bif decide ((0 : Int) ≤ IntKind.i64.wrap a ∧ IntKind.i64.wrap a < (9223372036854775808 : Int)) then h (0 : Nat) [Lf.i a, Lf.i b, Lf.i n, Lf.i m, Lf.s s, Lf.s (tx (Lib.decDigits (IntKind.i64.wrap a).toNat)), Lf.i (0 : Int)] else none := by kernel_rfl
theorem lxdata_l0 (h : Hd) (i0 : Int) (i1 : Int) (i2 : Int) (i3 : Int) (s4 : ByteArray) (s5 : ByteArray) (i6 : Int) : lxdata_f.seg lxdata_e [] h 0 [.i i0, .i i1, .i i2, .i i3, .s s4, .s s5, .i i6] = bif decide (i6 < IntKind.i64.wrap (IntKind.i64.wrap (i2.tmod (5 : Int)) + (1 : Int))) then bif decide (s5.size + (1 : Nat) ≤ (9223372036854775807 : Nat)) then h (0 : Nat) [Lf.i i0, Lf.i i1, Lf.i i2, Lf.i i3, Lf.s s4, Lf.s (s5 ++ (tx [(32 : UInt8)])), Lf.i (IntKind.i64.wrap (i6 + (1 : Int)))] else none else bif decide ((0 : Int) ≤ IntKind.i64.wrap i1 ∧ IntKind.i64.wrap i1 < (9223372036854775808 : Int)) then bif decide (s5.size + (tx (Lib.decDigits (IntKind.i64.wrap i1).toNat)).size ≤ (9223372036854775807 : Nat)) then h (1 : Nat) [Lf.i i0, Lf.i i1, Lf.i i3, Lf.s s4, Lf.s (s5 ++ tx (Lib.decDigits (IntKind.i64.wrap i1).toNat)), Lf.i (0 : Int)] else none else none := by kernel_rfl
theorem lxdata_l1 (h : Hd) (i0 : Int) (i1 : Int) (i2 : Int) (s3 : ByteArray) (s4 : ByteArray) (i5 : Int) : lxdata_f.seg lxdata_e [] h 1 [.i i0, .i i1, .i i2, .s s3, .s s4, .i i5] = let v1 : ByteArray := s4 ++ (tx [(32 : UInt8), (35 : UInt8)]); let v2 : Nat := v1.size + s3.size; let v3 : ByteArray := v1 ++ s3; let v4 : Nat := v3.size; let v5 : List Int := nrm (5 : Nat) [(0 : Int), (0 : Int), (0 : Int), (0 : Int), (0 : Int)]; let v6 : Int := ((scanP v3.data.toList).getD ln0).k; let v7 : Int := ((scanP v3.data.toList).getD ln0).a; let v8 : Int := ((scanP v3.data.toList).getD ln0).b; let v9 : List Int := nrm (5 : Nat) ((scanP v3.data.toList).getD ln0).w; bif decide (i5 < IntKind.i64.wrap (i2.tmod (5 : Int))) then bif decide (s4.size + (1 : Nat) ≤ (9223372036854775807 : Nat)) then h (1 : Nat) [Lf.i i0, Lf.i i1, Lf.i i2, Lf.s s3, Lf.s (s4 ++ (tx [(9 : UInt8)])), Lf.i (IntKind.i64.wrap (i5 + (1 : Int)))] else none else bif decide (s4.size ≤ (9223372036854775807 : Nat)) then bif decide (s4.size + (2 : Nat) ≤ (9223372036854775807 : Nat)) then bif decide (v2 ≤ (9223372036854775807 : Nat)) then bif decide (v4 ≤ (9223372036854775807 : Nat)) then bif (scanP s4.data.toList).isSome then bif decide (((scanP s4.data.toList).getD ln0).k = (5 : Int)) && (decide (((scanP s4.data.toList).getD ln0).a = IntKind.i64.wrap i0) && (decide (((scanP s4.data.toList).getD ln0).b = IntKind.i64.wrap i1) && (decide (nrm (5 : Nat) ((scanP s4.data.toList).getD ln0).w = v5) && true))) then bif (scanP v3.data.toList).isSome then ret (vB (decide (v6 = (5 : Int)) && (decide (v7 = IntKind.i64.wrap i0) && (decide (v8 = IntKind.i64.wrap i1) && (decide (v9 = v5) && true))))) else ret (vB false) else ret (vB false) else ret (vB false) else none else none else none else none := by kernel_rfl

theorem lxdata_true {v : LnV} {a b : Int} {A B : Nat} (e : v = ⟨5, A, B, [0, 0, 0, 0, 0]⟩) (ha : a = A) (hb : b = B) : (decide (v.k = 5) && (decide (v.a = a) && (decide (v.b = b) && (decide (nrm 5 v.w = nrm 5 [0, 0, 0, 0, 0]) && true)))) = true := by
  subst e ha hb; simp
theorem lxdata_loop1 (A B : Nat) (hA : A < 4294967296) (hB : B < 4294967296) (m : Int) (hm : 0 ≤ m ∧ m < 256) (s : List UInt8) (hs : s.length ≤ 140737488355328) (u : List UInt8) (hu : u.all isBl = true) (hu0 : u ≠ []) (hul : u.length ≤ 5) : ∀ (k j : Nat), (j : Int) ≤ m % 5 → (m % 5).toNat - j < k →
    lxdata_f.H lxdata_e [] k 1 [.i A, .i B, .i m, .s (tx s), .s (tx (Lib.decDigits A ++ (u ++ (Lib.decDigits B ++ List.replicate j 9)))), .i j] = ret (vB true) := by
  have lA := dec_len (k := 17) (r := A) (by omega)
  have lB := dec_len (k := 17) (r := B) (by omega)
  have em : IntKind.i64.wrap (m.tmod 5) = m % 5 := by rw [Int.tmod_eq_emod_of_nonneg hm.1]; exact IntWalk.i64_in _ (by omega)
  intro k
  induction k with
  | zero => intro j _ h; omega
  | succ k ih =>
    intro j hj hk
    rw [FnD.H_succ, lxdata_l1]
    dsimp only
    have hL : (Lib.decDigits A ++ (u ++ (Lib.decDigits B ++ List.replicate j 9))).length ≤ 60 := by
      rw [List.length_append, List.length_append, List.length_append, List.length_replicate]; omega
    by_cases h : (j : Int) < m % 5
    · refine condT (by rw [em]; exact h) (condT (by rw [tx_size]; omega) ?_)
      have e1 : tx (Lib.decDigits A ++ (u ++ (Lib.decDigits B ++ List.replicate j 9))) ++ tx [(9 : UInt8)] = tx (Lib.decDigits A ++ (u ++ (Lib.decDigits B ++ List.replicate (j + 1) 9))) := by
        rw [tx_append, List.replicate_succ']; simp only [List.append_assoc]
      rw [e1, show IntKind.i64.wrap ((j : Int) + 1) = ((j + 1 : Nat) : Int) by rw [IntWalk.i64_in _ (by omega)]; omega]
      exact ih (j + 1) (by omega) (by omega)
    · have S1 := data_scan (a := A) (b := B) (by omega) (by omega) (u := u) (v := List.replicate j 9) (w := []) hu hu0 (by rw [List.all_eq_true]; intro c hc; rw [List.eq_of_mem_replicate hc]; rfl) (.inl rfl)
      have S2 := data_scan (a := A) (b := B) (by omega) (by omega) (u := u) (v := List.replicate j 9 ++ [32]) (w := 35 :: s) hu hu0 (by rw [List.all_append, Bool.and_eq_true]; exact ⟨by rw [List.all_eq_true]; intro c hc; rw [List.eq_of_mem_replicate hc]; rfl, rfl⟩) (.inr ⟨by simp, rfl⟩)
      rw [List.append_nil] at S1
      have e2 : tx (Lib.decDigits A ++ (u ++ (Lib.decDigits B ++ List.replicate j 9))) ++ tx [(32 : UInt8), (35 : UInt8)] ++ tx s = tx (Lib.decDigits A ++ (u ++ (Lib.decDigits B ++ ((List.replicate j 9 ++ [32]) ++ 35 :: s)))) := by
        rw [tx_append, tx_append]; simp only [List.append_assoc, List.cons_append, List.nil_append]
      have wA : IntKind.i64.wrap (A : Int) = A := IntWalk.i64_in _ (by omega)
      have wB : IntKind.i64.wrap (B : Int) = B := IntWalk.i64_in _ (by omega)
      refine condF (by rw [em]; exact h) (condT (by rw [tx_size]; omega) (condT (by rw [tx_size]; omega) (condT (by rw [tx_append, tx_size, tx_size, List.length_append]; simp only [List.length_cons, List.length_nil]; omega) (condT (by rw [tx_append, tx_append, tx_size, List.length_append, List.length_append]; simp only [List.length_cons, List.length_nil]; omega) ?_))))
      refine condB (by rw [tx_toList, S1]; rfl) (condB (lxdata_true (by rw [tx_toList, S1]; rfl) wA wB) (condB (by rw [e2, tx_toList, S2]; rfl) (retV ?_)))
      rw [lxdata_true (by rw [e2, tx_toList, S2]; rfl) wA wB]
theorem lxdata_loop0 (A B : Nat) (hA : A < 4294967296) (hB : B < 4294967296) (n m : Int) (hn : 0 ≤ n ∧ n < 256) (hm : 0 ≤ m ∧ m < 256) (s : List UInt8) (hs : s.length ≤ 140737488355328) : ∀ (k j : Nat), (j : Int) ≤ n % 5 + 1 → 10 + (n % 5 + 1).toNat - j < k →
    lxdata_f.H lxdata_e [] k 0 [.i A, .i B, .i n, .i m, .s (tx s), .s (tx (Lib.decDigits A ++ List.replicate j 32)), .i j] = ret (vB true) := by
  have lA := dec_len (k := 17) (r := A) (by omega)
  have lB := dec_len (k := 17) (r := B) (by omega)
  have en : IntKind.i64.wrap (IntKind.i64.wrap (n.tmod 5) + 1) = n % 5 + 1 := by rw [Int.tmod_eq_emod_of_nonneg hn.1, IntWalk.i64_in (n % 5) (by omega)]; exact IntWalk.i64_in _ (by omega)
  have wB : IntKind.i64.wrap (B : Int) = B := IntWalk.i64_in _ (by omega)
  intro k
  induction k with
  | zero => intro j _ h; omega
  | succ k ih =>
    intro j hj hk
    rw [FnD.H_succ, lxdata_l0]
    have hL : (Lib.decDigits A ++ List.replicate j 32).length ≤ 30 := by
      rw [List.length_append, List.length_replicate]; omega
    by_cases h : (j : Int) < n % 5 + 1
    · refine condT (by rw [en]; exact h) (condT (by rw [tx_size]; omega) ?_)
      have e1 : tx (Lib.decDigits A ++ List.replicate j 32) ++ tx [(32 : UInt8)] = tx (Lib.decDigits A ++ List.replicate (j + 1) 32) := by
        rw [tx_append, List.replicate_succ', List.append_assoc]
      rw [e1, show IntKind.i64.wrap ((j : Int) + 1) = ((j + 1 : Nat) : Int) by rw [IntWalk.i64_in _ (by omega)]; omega]
      exact ih (j + 1) (by omega) (by omega)
    · refine condF (by rw [en]; exact h) (condT (by rw [wB]; omega) (condT (by rw [wB, tx_size, tx_size, Int.toNat_natCast]; omega) ?_))
      rw [wB, Int.toNat_natCast, tx_append, List.append_assoc]
      have := lxdata_loop1 A B hA hB m hm s hs (List.replicate j 32) (by rw [List.all_eq_true]; intro c hc; rw [List.eq_of_mem_replicate hc]; rfl) (by intro e; have := congrArg List.length e; rw [List.length_replicate] at this; simp at this; omega) (by rw [List.length_replicate]; omega) k 0 (by omega) (by omega)
      rw [List.replicate_zero, List.append_nil] at this
      exact this
theorem lxdata_run (a : Int) (b : Int) (n : Int) (m : Int) (s : ByteArray) (hp : (0 ≤ a ∧ a < 4294967296) ∧ (0 ≤ b ∧ b < 4294967296) ∧ (0 ≤ n ∧ n < 256) ∧ (0 ≤ m ∧ m < 256) ∧ s.size ≤ 140737488355328) : ∃ fu, lxdata_f.run lxdata_e [] fu [c1 (.int .u32 a), c1 (.int .u32 b), c1 (.int .u8 n), c1 (.int .u8 m), vS s] [] = some ⟨vB true, []⟩ := by
  obtain ⟨h1, h2, h3, h4, h5⟩ := hp
  obtain ⟨A, rfl⟩ := Int.eq_ofNat_of_zero_le h1.1
  obtain ⟨B, rfl⟩ := Int.eq_ofNat_of_zero_le h2.1
  obtain ⟨l, rfl, hl⟩ := tx_get s
  rw [tx_size] at h5
  have wA : IntKind.i64.wrap (A : Int) = A := IntWalk.i64_in _ (by omega)
  refine ⟨30, ?_⟩
  rw [FnD.run, lxdata_ent]
  refine condT (by rw [wA]; omega) ?_
  rw [wA, Int.toNat_natCast]
  have := lxdata_loop0 A B (by omega) (by omega) n m h3 h4 l h5 30 0 (by omega) (by omega)
  rw [List.replicate_zero, List.append_nil] at this
  exact this
theorem lxdata_ok (a : Int) (b : Int) (n : Int) (m : Int) (s : ByteArray) (hp : (0 ≤ a ∧ a < 4294967296) ∧ (0 ≤ b ∧ b < 4294967296) ∧ (0 ≤ n ∧ n < 256) ∧ (0 ≤ m ∧ m < 256) ∧ s.size ≤ 140737488355328) : FnOk cfg 14 ([c1 (.int .u32 a), c1 (.int .u32 b), c1 (.int .u8 n), c1 (.int .u8 m), vS s].map SV.den) (vB true : SV).den := by
  obtain ⟨nn, h⟩ := lxdata_run a b n m s hp
  exact FnD.ok lxdata_g lxdata_f mixed Tryd.func14 rfl rfl rfl rfl rfl rfl h
noncomputable def c_lxdata : SpecF := fun args _ K => match args with
  | [.one (.c (.int .u32 a)), .one (.c (.int .u32 b)), .one (.c (.int .u8 n)), .one (.c (.int .u8 m)), .one (.c (.str s))] => bif decide ((0 ≤ a ∧ a < 4294967296) ∧ (0 ≤ b ∧ b < 4294967296) ∧ (0 ≤ n ∧ n < 256) ∧ (0 ≤ m ∧ m < 256) ∧ s.size ≤ 140737488355328) then K (vB true) [] else none
  | _ => none
theorem c_lxdata_ok : SpecOk cfg 14 c_lxdata := by
  intro args bx K out h
  unfold c_lxdata at h
  split at h
  · obtain ⟨hp, h⟩ := bif_some h
    exact ⟨_, _, h, .inl (lxdata_ok _ _ _ _ _ (of_decide_eq_true hp) _), by simp [isTupS]⟩
  · cases h
end Go.Proofs.YtldofkogmkfpjaaDoor
