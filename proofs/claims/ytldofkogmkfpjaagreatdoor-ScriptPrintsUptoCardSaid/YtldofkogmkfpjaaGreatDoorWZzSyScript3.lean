/-
  The contracts of the document's functions for layer 29 (epactref28).
-/
import Derived.Test.YtldofkogmkfpjaaGreatDoorWZzSyScript2
import Derived.Test.YtldofkogmkfpjaaGreatDoorWPScrE
namespace Go.Proofs.YtldofkogmkfpjaaGreatDoor
open Go Go.Ev Go.Sy
set_option linter.unusedSimpArgs false
set_option linter.unusedVariables false
set_option maxRecDepth 10000
set_option maxHeartbeats 4000000
/-! ### epactref28.Hex -/
noncomputable def rhex_e : Ev' := ⟨Tryz.prog, glob, Γof []⟩
theorem rhex_g : Gd cfg rhex_e := gd (env_nil _)
noncomputable def rhex_f : FnD := ⟨42, Tryz.f42, shOf [(0, ⟨39, [], [], [(0, .c (.ints .u8)), (3, .c (.str)), (4, .c (.int .i64))]⟩)], Tryz.f42.resultTypes.toList, 0⟩
theorem rhex_ent (h : Hd) (l : List Int) : rhex_f.ent rhex_e [] h [c1 (.ints .u8 l)] [] = h (0 : Nat) [Lf.l l, Lf.s (tx []), Lf.i (0 : Int)] := by kernel_rfl
theorem rhex_l0 (h : Hd) (l0 : List Int) (s1 : ByteArray) (i2 : Int) : rhex_f.seg rhex_e [] h 0 [.l l0, .s s1, .i i2] = let v1 : Int := IntKind.u8.wrap (shrI IntKind.u8 (l0.getD i2.toNat (0 : Int)) (4 : Int) + (1 : Int)); let v2 : ByteArray := (tx [48, 49, 50, 51, 52, 53, 54, 55, 56, 57, 97, 98, 99, 100, 101, 102]).extract (shrI IntKind.u8 (l0.getD i2.toNat (0 : Int)) (4 : Int)).toNat v1.toNat; let v3 : Nat := s1.size + v2.size; let v4 : Int := IntKind.u8.wrap (andI IntKind.u8 (l0.getD i2.toNat (0 : Int)) (15 : Int) + (1 : Int)); let v5 : ByteArray := s1 ++ v2; let v6 : ByteArray := (tx [48, 49, 50, 51, 52, 53, 54, 55, 56, 57, 97, 98, 99, 100, 101, 102]).extract (andI IntKind.u8 (l0.getD i2.toNat (0 : Int)) (15 : Int)).toNat v4.toNat; let v7 : Nat := v5.size + v6.size; bif decide (i2 < (↑l0.length : Int)) then bif inB i2 l0.length then bif inB i2 l0.length then bif slB (shrI IntKind.u8 (l0.getD i2.toNat (0 : Int)) (4 : Int)) v1 (16 : Nat) then bif decide (v3 ≤ (9223372036854775807 : Nat)) then bif inB i2 l0.length then bif inB i2 l0.length then bif slB (andI IntKind.u8 (l0.getD i2.toNat (0 : Int)) (15 : Int)) v4 (16 : Nat) then bif decide (v7 ≤ (9223372036854775807 : Nat)) then h (0 : Nat) [Lf.l l0, Lf.s (v5 ++ v6), Lf.i (IntKind.i64.wrap (i2 + (1 : Int)))] else none else none else none else none else none else none else none else none else ret (vS s1) := by kernel_rfl

theorem slB_of {l h : Int} {n : Nat} (h0 : 0 ≤ l) (h1 : l ≤ h) (h2 : h ≤ n) : slB l h n = true := by
  unfold slB
  rw [decide_eq_true h0, decide_eq_true h1, decide_eq_true h2]; rfl
theorem rhex_loop (m : List Nat) (hm : ∀ x ∈ m, x < 256) (hl : m.length ≤ 1000000000) : ∀ (k i : Nat), i ≤ m.length → m.length - i < k →
    rhex_f.H rhex_e [] k 0 [.l (castL m), .s (tx (hexB (toB (castL (m.take i))))), .i (i : Nat)] = some ⟨vS (tx (hexB (toB (castL m)))), []⟩ := by
  intro k
  induction k with
  | zero => intro i _ h; omega
  | succ k ih =>
    intro i hi hk
    rw [FnD.H_succ, rhex_l0]
    dsimp only
    have hlen : (hexB (toB (castL (m.take i)))).length = 2 * i := by
      rw [hexB_len, toB_len, castL_length, List.length_take, Nat.min_eq_left hi]
    by_cases h : i < m.length
    · have hx : nthN m i < 256 := nthN_all hm (by decide) i
      have e1 : shrI .u8 ((nthN m i : Nat) : Int) 4 = ((nthN m i / 16 : Nat) : Int) := shrI_u .u8 _ 4 (by decide)
      have e2 : andI .u8 ((nthN m i : Nat) : Int) 15 = ((nthN m i % 16 : Nat) : Int) := by
        have := andI_u (k := .u8) rfl (a := nthN m i) (b := 15) (by show _ < 2 ^ 8; omega) (by decide)
        rw [show (15 : Int) = ((15 : Nat) : Int) from rfl, this, show (15 : Nat) = 2 ^ 4 - 1 from rfl, Nat.and_two_pow_sub_one_eq_mod]
      rw [Int.toNat_natCast, nth_castL, e1, e2]
      have w1 : IntKind.u8.wrap (((nthN m i / 16 : Nat) : Int) + 1) = ((nthN m i / 16 + 1 : Nat) : Int) := by
        rw [show ((nthN m i / 16 : Nat) : Int) + 1 = ((nthN m i / 16 + 1 : Nat) : Int) by omega, wrap_u8, Nat.mod_eq_of_lt (by omega)]
      have w2 : IntKind.u8.wrap (((nthN m i % 16 : Nat) : Int) + 1) = ((nthN m i % 16 + 1 : Nat) : Int) := by
        rw [show ((nthN m i % 16 : Nat) : Int) + 1 = ((nthN m i % 16 + 1 : Nat) : Int) by omega, wrap_u8, Nat.mod_eq_of_lt (by omega)]
      rw [w1, w2, Int.toNat_natCast, Int.toNat_natCast, Int.toNat_natCast, Int.toNat_natCast, digX16 _ (by omega), digX16 _ (by omega)]
      rw [show IntKind.i64.wrap ((i : Int) + 1) = ((i + 1 : Nat) : Int) by rw [IntWalk.i64_in _ (by omega)]; omega]
      have hin : inB (i : Int) (castL m).length = true := (inB_iff _ _).2 (by rw [castL_length]; omega)
      refine condT (by rw [castL_length]; omega) (condB hin (condB hin (condB (slB_of (by omega) (by omega) (by omega)) (condT ?_ (condB hin (condB hin (condB (slB_of (by omega) (by omega) (by omega)) (condT ?_ ?_))))))))
      · rw [tx_size, tx_size, hlen]; simp <;> omega
      · rw [tx_append, tx_size, tx_size, List.length_append, hlen]; simp only [List.length_cons, List.length_nil] <;> omega
      · rw [tx_append, tx_append, List.append_assoc]
        have := ih (i + 1) (by omega) (by omega)
        rw [hexB_take h hm] at this
        exact this
    · obtain rfl : i = m.length := by omega
      refine condF (by rw [castL_length]; omega) ?_
      rw [List.take_length]
theorem rhex_run (l : List Int) (hp : bytesOk l ∧ l.length ≤ 1000000000) : ∃ fu, rhex_f.run rhex_e [] fu [c1 (.ints .u8 l)] [] = some ⟨vS (tx (hexB (toB l))), []⟩ := by
  obtain ⟨m, rfl, -, hm⟩ := bytes_nat hp.1
  have hl := hp.2
  rw [castL_length] at hl
  refine ⟨m.length + 1, ?_⟩
  rw [FnD.run, rhex_ent]
  exact rhex_loop m hm hl (m.length + 1) 0 (by omega) (by omega)
theorem rhex_ok (l : List Int) (hp : bytesOk l ∧ l.length ≤ 1000000000) : FnOk cfg 42 ([c1 (.ints .u8 l)].map SV.den) (vS (tx (hexB (toB l))) : SV).den := by
  obtain ⟨nn, h⟩ := rhex_run l hp
  exact FnD.ok rhex_g rhex_f mixed Tryz.func42 rfl rfl rfl rfl rfl rfl h
noncomputable def c_rhex : SpecF := fun args _ K => match args with
  | [.one (.c (.ints .u8 l))] => bif decide (bytesOk l ∧ l.length ≤ 1000000000) then K (vS (tx (hexB (toB l)))) [] else none
  | _ => none
theorem c_rhex_ok : SpecOk cfg 42 c_rhex := by
  intro args bx K out h
  unfold c_rhex at h
  split at h
  · obtain ⟨hp, h⟩ := bif_some h
    exact ⟨_, _, h, .inl (rhex_ok _ (of_decide_eq_true hp) _), by simp [isTupS]⟩
  · cases h
/-! ### epactref28.flag -/
noncomputable def rflag_e : Ev' := ⟨Tryz.prog, glob, Γof []⟩
theorem rflag_g : Gd cfg rflag_e := gd (env_nil _)
noncomputable def rflag_f : FnD := ⟨125, Tryz.f125, noSh, Tryz.f125.resultTypes.toList, 0⟩
theorem rflag_ent (h : Hd) (b : Bool) : rflag_f.ent rflag_e [] h [vB b] [] = bif b then ret (vI (1 : Int)) else ret (vI (0 : Int)) := by kernel_rfl
theorem rflag_run (b : Bool) : ∃ fu, rflag_f.run rflag_e [] fu [vB b] [] = some ⟨vI (if b then 1 else 0), []⟩ := by
  refine ⟨0, ?_⟩
  rw [FnD.run, rflag_ent]
  cases b <;> rfl
theorem rflag_ok (b : Bool) : FnOk cfg 125 ([vB b].map SV.den) (vI (if b then 1 else 0) : SV).den := by
  obtain ⟨nn, h⟩ := rflag_run b
  exact FnD.ok rflag_g rflag_f mixed Tryz.func125 rfl rfl rfl rfl rfl rfl h
noncomputable def c_rflag : SpecF := fun args _ K => match args with
  | [.one (.c (.bool b))] => K (vI (if b then 1 else 0)) []
  | _ => none
theorem c_rflag_ok : SpecOk cfg 125 c_rflag := by
  intro args bx K out h
  unfold c_rflag at h
  split at h
  · exact ⟨_, _, h, .inl (rflag_ok _ _), by simp [isTupS]⟩
  · cases h
/-! ### epactref28.Number -/
noncomputable def rnumb_e : Ev' := ⟨Tryz.prog, glob, Γof [(132, c_rbint), (127, c_rtext)]⟩
theorem rnumb_g : Gd cfg rnumb_e := gd (env_cons c_rbint_ok (env_cons c_rtext_ok (env_nil _)))
noncomputable def rnumb_f : FnD := ⟨126, Tryz.f126, noSh, Tryz.f126.resultTypes.toList, 0⟩
theorem rnumb_ent (h : Hd) (n : Int) : rnumb_f.ent rnumb_e [] h [vI n] [] = bif decide (isH n) then bif decide (isBig (decide (n < (0 : Int))) (bigD n.natAbs) ∧ isI (bV (decide (n < (0 : Int))) (bigD n.natAbs))) then ret (vS (tx (Lib.itoa (bV (decide (n < (0 : Int))) (bigD n.natAbs))))) else none else none := by kernel_rfl
theorem rnumb_run (n : Int) (hp : isH n) : ∃ fu, rnumb_f.run rnumb_e [] fu [vI n] [] = some ⟨vS (tx (Lib.itoa n)), []⟩ := by
  refine ⟨0, ?_⟩
  rw [FnD.run, rnumb_ent]
  rw [bV_mk]
  exact condT hp (condT ⟨(isBig_mk n).1, isI_H hp⟩ rfl)
theorem rnumb_ok (n : Int) (hp : isH n) : FnOk cfg 126 ([vI n].map SV.den) (vS (tx (Lib.itoa n)) : SV).den := by
  obtain ⟨nn, h⟩ := rnumb_run n hp
  exact FnD.ok rnumb_g rnumb_f mixed Tryz.func126 rfl rfl rfl rfl rfl rfl h
noncomputable def c_rnumb : SpecF := fun args _ K => match args with
  | [.one (.c (.int .i64 n))] => bif decide (isH n) then K (vS (tx (Lib.itoa n))) [] else none
  | _ => none
theorem c_rnumb_ok : SpecOk cfg 126 c_rnumb := by
  intro args bx K out h
  unfold c_rnumb at h
  split at h
  · obtain ⟨hp, h⟩ := bif_some h
    exact ⟨_, _, h, .inl (rnumb_ok _ (of_decide_eq_true hp) _), by simp [isTupS]⟩
  · cases h
/-! ### epactref28.Line -/
noncomputable def rline_e : Ev' := ⟨Tryz.prog, glob, Γof [(125, c_rflag), (126, c_rnumb), (128, c_rbof), (127, c_rtext), (42, c_rhex)]⟩
theorem rline_g : Gd cfg rline_e := gd (env_cons c_rflag_ok (env_cons c_rnumb_ok (env_cons c_rbof_ok (env_cons c_rtext_ok (env_cons c_rhex_ok (env_nil _))))))
noncomputable def rline_f : FnD := ⟨86, Tryz.f86, shOf [(0, ⟨80, [(4, ⟨.ints .i64, false, false⟩)], [(1, [.c (.int .i64), .c (.int .i64), .c (.int .i64), .c (.int .i64), .c (.int .u64), .c (.int .i64), .c (.int .i64), .c (.int .i64), .c (.int .i64), .c .bool, .c (.int .i64), .c (.int .i64), .c (.int .i64), .c (.ints .u8), .c (.int .i64), .c (.int .u64), .c (.int .i64), .c (.int .u64), .c (.int .i64), .c (.int .i64), .c (.int .i64)])], [(1, .c (.ptr 1 0)), (3, .c (.str)), (4, .c (.sl 4 1)), (5, .c (.int .i64))]⟩)], Tryz.f86.resultTypes.toList, 0⟩
theorem rline_ent (h : Hd) (a0 : Int) (a1 : Int) (a2 : Int) (x0 : Int) (y0 : Int) (a8 : Int) (a9 : Int) (aa : Int) (a3 : Int) (lx : Bool) (a5 : Int) (a6 : Int) (a7 : Int) (dd : List Int) (x1 : Int) (y1 : Int) (x2 : Int) (y2 : Int) (ab : Int) (ac : Int) (ad : Int) : rline_f.ent rline_e [] h [agg [.c (.int .i64 a0), .c (.int .i64 a1), .c (.int .i64 a2), .c (.int .i64 x0), .c (.int .u64 y0), .c (.int .i64 a8), .c (.int .i64 a9), .c (.int .i64 aa), .c (.int .i64 a3), .c (.bool lx), .c (.int .i64 a5), .c (.int .i64 a6), .c (.int .i64 a7), .c (.ints .u8 dd), .c (.int .i64 x1), .c (.int .u64 y1), .c (.int .i64 x2), .c (.int .u64 y2), .c (.int .i64 ab), .c (.int .i64 ac), .c (.int .i64 ad)]] [] = h (0 : Nat) [Lf.l [a0, a1, a2, a3, if lx = true then (1 : Int) else (0 : Int), a5, a6, a7, a8, a9, aa, ab, ac, ad], Lf.i a0, Lf.i a1, Lf.i a2, Lf.i x0, Lf.i y0, Lf.i a8, Lf.i a9, Lf.i aa, Lf.i a3, Lf.b lx, Lf.i a5, Lf.i a6, Lf.i a7, Lf.l dd, Lf.i x1, Lf.i y1, Lf.i x2, Lf.i y2, Lf.i ab, Lf.i ac, Lf.i ad, Lf.s (tx []), Lf.i (0 : Int)] := by kernel_rfl
theorem rline_l0 (h : Hd) (l0 : List Int) (i1 : Int) (i2 : Int) (i3 : Int) (i4 : Int) (i5 : Int) (i6 : Int) (i7 : Int) (i8 : Int) (i9 : Int) (b10 : Bool) (i11 : Int) (i12 : Int) (i13 : Int) (l14 : List Int) (i15 : Int) (i16 : Int) (i17 : Int) (i18 : Int) (i19 : Int) (i20 : Int) (i21 : Int) (s22 : ByteArray) (i23 : Int) : rline_f.seg rline_e [] h 0 [.l l0, .i i1, .i i2, .i i3, .i i4, .i i5, .i i6, .i i7, .i i8, .i i9, .b b10, .i i11, .i i12, .i i13, .l l14, .i i15, .i i16, .i i17, .i i18, .i i19, .i i20, .i i21, .s s22, .i i23] = let v1 : Nat := (s22 ++ tx (Lib.itoa (l0.getD i23.toNat (0 : Int)))).size + (1 : Nat); let v2 : Int := bV (decide (wVal i4 i5 < (0 : Int))) (bigD (wVal i4 i5).natAbs); let v3 : ByteArray := tx (Lib.itoa v2); let v4 : Nat := s22.size + v3.size; let v5 : ByteArray := s22 ++ v3; let v6 : Nat := v5.size + (1 : Nat); let v7 : Int := bV (decide (wVal i15 i16 < (0 : Int))) (bigD (wVal i15 i16).natAbs); let v8 : ByteArray := v5 ++ (tx [32]); let v9 : ByteArray := tx (Lib.itoa v7); let v10 : Nat := v8.size + v9.size; let v11 : ByteArray := v8 ++ v9; let v12 : Nat := v11.size + (1 : Nat); let v13 : Int := bV (decide (wVal i17 i18 < (0 : Int))) (bigD (wVal i17 i18).natAbs); let v14 : ByteArray := v11 ++ (tx [32]); let v15 : ByteArray := tx (Lib.itoa v13); let v16 : Nat := v14.size + v15.size; let v17 : ByteArray := v14 ++ v15; let v18 : Nat := v17.size + (2 : Nat); let v19 : ByteArray := v17 ++ (tx [32, 120]); let v20 : Nat := v19.size + (tx (hexB (toB l14))).size; let v21 : ByteArray := v19 ++ tx (hexB (toB l14)); let v22 : Nat := v21.size + (1 : Nat); bif decide (i23 < (↑l0.length : Int)) then bif inB i23 l0.length then bif decide (i23.toNat < l0.length) then bif decide (isH (l0.getD i23.toNat (0 : Int))) then bif decide (s22.size + (tx (Lib.itoa (l0.getD i23.toNat (0 : Int)))).size ≤ (9223372036854775807 : Nat)) then bif decide (v1 ≤ (9223372036854775807 : Nat)) then bif decide (l0.length = l0.length) then h (0 : Nat) [Lf.l l0, Lf.i i1, Lf.i i2, Lf.i i3, Lf.i i4, Lf.i i5, Lf.i i6, Lf.i i7, Lf.i i8, Lf.i i9, Lf.b b10, Lf.i i11, Lf.i i12, Lf.i i13, Lf.l l14, Lf.i i15, Lf.i i16, Lf.i i17, Lf.i i18, Lf.i i19, Lf.i i20, Lf.i i21, Lf.s (s22 ++ tx (Lib.itoa (l0.getD i23.toNat (0 : Int))) ++ (tx [32])), Lf.i (IntKind.i64.wrap (i23 + (1 : Int)))] else none else none else none else none else none else none else bif decide (isH i4 ∧ isW i5) then bif decide (isBig (decide (wVal i4 i5 < (0 : Int))) (bigD (wVal i4 i5).natAbs) ∧ isI v2) then bif decide (v4 ≤ (9223372036854775807 : Nat)) then bif decide (v6 ≤ (9223372036854775807 : Nat)) then bif decide (isH i15 ∧ isW i16) then bif decide (isBig (decide (wVal i15 i16 < (0 : Int))) (bigD (wVal i15 i16).natAbs) ∧ isI v7) then bif decide (v10 ≤ (9223372036854775807 : Nat)) then bif decide (v12 ≤ (9223372036854775807 : Nat)) then bif decide (isH i17 ∧ isW i18) then bif decide (isBig (decide (wVal i17 i18 < (0 : Int))) (bigD (wVal i17 i18).natAbs) ∧ isI v13) then bif decide (v16 ≤ (9223372036854775807 : Nat)) then bif decide (v18 ≤ (9223372036854775807 : Nat)) then bif decide (bytesOk l14 ∧ l14.length ≤ (1000000000 : Nat)) then bif decide (v20 ≤ (9223372036854775807 : Nat)) then bif decide (v22 ≤ (9223372036854775807 : Nat)) then ret (vS (v21 ++ (tx [10]))) else none else none else none else none else none else none else none else none else none else none else none else none else none else none else none := by kernel_rfl

theorem flat_join : ∀ (ws : List (List UInt8)) (w : List UInt8), (ws.flatMap fun w => w ++ [32]) ++ w = joinW (ws ++ [w])
  | [], w => by unfold joinW; simp [List.intercalate]
  | x :: ws, w => by
    have ih := flat_join ws w
    unfold joinW at ih ⊢
    rw [List.flatMap_cons, List.append_assoc, ih, List.cons_append, inter_cons]
    cases ws with
    | nil => simp [List.intercalate]
    | cons y ws => rw [List.cons_append, inter_cons, List.flatMap_cons]; simp
theorem hI3 {x0 y0 x1 y1 x2 y2 : Int} (h0 : isH x0 ∧ isW y0) (h1 : isH x1 ∧ isW y1) (h2 : isH x2 ∧ isW y2) : isI (wVal x0 y0) ∧ isI (wVal x1 y1) ∧ isI (wVal x2 y2) := ⟨isI_V h0.1 h0.2, isI_V h1.1 h1.2, isI_V h2.1 h2.2⟩
theorem rline_fin {a0 : Int} {a1 : Int} {a2 : Int} {x0 : Int} {y0 : Int} {a8 : Int} {a9 : Int} {aa : Int} {a3 : Int} {lx : Bool} {a5 : Int} {a6 : Int} {a7 : Int} {dd : List Int} {x1 : Int} {y1 : Int} {x2 : Int} {y2 : Int} {ab : Int} {ac : Int} {ad : Int} (N : List Int) (hN : N.length = 14) (hH : ∀ x ∈ N, isH x) (k : Nat) (h0 : isH x0 ∧ isW y0) (h1 : isH x1 ∧ isW y1) (h2 : isH x2 ∧ isW y2) (hb : bytesOk dd) (hd : dd.length ≤ 100000000) :
    rline_f.H rline_e [] (k + 1) 0 [.l N, .i a0, .i a1, .i a2, .i x0, .i y0, .i a8, .i a9, .i aa, .i a3, .b lx, .i a5, .i a6, .i a7, .l dd, .i x1, .i y1, .i x2, .i y2, .i ab, .i ac, .i ad, .s (tx (N.flatMap fun x => Lib.itoa x ++ [32])), .i ((14 : Nat) : Int)] = some ⟨vS (tx (lnQ N [x0, y0, x1, y1, x2, y2] dd)), []⟩ := by
  have hI := hI3 h0 h1 h2
  have hlen := lnQ_len (n := N) (w := [x0, y0, x1, y1, x2, y2]) (d := dd) hN ⟨by rw [List.all_eq_true]; exact fun x hx => decide_eq_true (hH x hx), h0, h1, h2, hb, hd⟩
  have key : lnQ N [x0, y0, x1, y1, x2, y2] dd = (N.flatMap fun x => Lib.itoa x ++ [32]) ++ (Lib.itoa (wVal x0 y0) ++ ([32] ++ (Lib.itoa (wVal x1 y1) ++ ([32] ++ (Lib.itoa (wVal x2 y2) ++ ([32, 120] ++ (hexB (toB dd) ++ [10]))))))) := by
    unfold lnQ lineR wordsR
    have e : (N.map Lib.itoa ++ ((wV3 [x0, y0, x1, y1, x2, y2]).map Lib.itoa ++ [120 :: hexB (toB dd)])) = (N.map Lib.itoa ++ (wV3 [x0, y0, x1, y1, x2, y2]).map Lib.itoa) ++ [120 :: hexB (toB dd)] := by rw [List.append_assoc]
    dsimp only
    rw [e, ← flat_join, List.flatMap_append, List.flatMap_map]
    simp [wV3]
  rw [FnD.H_succ, rline_l0]
  dsimp only
  rw [bV_mk, bV_mk, bV_mk]
  simp only [tx_append, tx_size]
  rw [key] at hlen ⊢
  simp only [List.length_append, List.length_cons, List.length_nil] at hlen
  refine condF (by omega) (condT h0 (condT ⟨(isBig_mk _).1, hI.1⟩ (condT ?_ (condT ?_ (condT h1 (condT ⟨(isBig_mk _).1, hI.2.1⟩ (condT ?_ (condT ?_ (condT h2 (condT ⟨(isBig_mk _).1, hI.2.2⟩ (condT ?_ (condT ?_ (condT ⟨hb, by omega⟩ (condT ?_ (condT ?_ (retV ?_))))))))))))))))
  all_goals first | omega | (simp only [List.length_append, List.length_cons, List.length_nil]; omega) | skip
  simp only [List.append_assoc]
theorem rline_loop {a0 : Int} {a1 : Int} {a2 : Int} {x0 : Int} {y0 : Int} {a8 : Int} {a9 : Int} {aa : Int} {a3 : Int} {lx : Bool} {a5 : Int} {a6 : Int} {a7 : Int} {dd : List Int} {x1 : Int} {y1 : Int} {x2 : Int} {y2 : Int} {ab : Int} {ac : Int} {ad : Int} (N : List Int) (hN : N.length = 14) (hH : ∀ x ∈ N, isH x) (h0 : isH x0 ∧ isW y0) (h1 : isH x1 ∧ isW y1) (h2 : isH x2 ∧ isW y2) (hb : bytesOk dd) (hd : dd.length ≤ 100000000) : ∀ (k i : Nat), i ≤ 14 → 14 - i < k → ((N.take i).flatMap fun x => Lib.itoa x ++ [32]).length ≤ 42 * i →
    rline_f.H rline_e [] k 0 [.l N, .i a0, .i a1, .i a2, .i x0, .i y0, .i a8, .i a9, .i aa, .i a3, .b lx, .i a5, .i a6, .i a7, .l dd, .i x1, .i y1, .i x2, .i y2, .i ab, .i ac, .i ad, .s (tx ((N.take i).flatMap fun x => Lib.itoa x ++ [32])), .i (i : Nat)] = some ⟨vS (tx (lnQ N [x0, y0, x1, y1, x2, y2] dd)), []⟩ := by
  intro k
  induction k with
  | zero => intro i _ h; omega
  | succ k ih =>
    intro i hi hk hs
    by_cases h : i < 14
    · rw [FnD.H_succ, rline_l0]
      dsimp only
      have hx : N.getD i 0 = N[i] := by rw [List.getD_eq_getElem?_getD, List.getElem?_eq_getElem (by omega)]; rfl
      have hH2 := hH N[i] (List.getElem_mem _)
      have hl := itoa_len64 hH2
      have e : (N.take (i + 1)).flatMap (fun x => Lib.itoa x ++ [32]) = (N.take i).flatMap (fun x => Lib.itoa x ++ [32]) ++ (Lib.itoa N[i] ++ [32]) := by
        rw [List.take_succ_eq_append_getElem (by omega), List.flatMap_append]; simp
      rw [Int.toNat_natCast, hx]
      simp only [tx_append, tx_size]
      rw [show IntKind.i64.wrap ((i : Int) + 1) = ((i + 1 : Nat) : Int) by rw [IntWalk.i64_in _ (by omega)]; omega]
      refine condT (by omega) (condB ((inB_iff _ _).2 (by omega)) (condT (by omega) (condT hH2 (condT (by omega) (condT (by rw [List.length_append]; omega) (condT (by first | trivial | rfl) ?_))))))
      have := ih (i + 1) (by omega) (by omega) (by rw [e, List.length_append, List.length_append]; simp only [List.length_cons, List.length_nil]; omega)
      rw [e, ← List.append_assoc] at this
      exact this
    · obtain rfl : i = 14 := by omega
      rw [List.take_of_length_le (by omega)]
      exact rline_fin N hN hH k h0 h1 h2 hb hd
theorem rline_run (a0 : Int) (a1 : Int) (a2 : Int) (x0 : Int) (y0 : Int) (a8 : Int) (a9 : Int) (aa : Int) (a3 : Int) (lx : Bool) (a5 : Int) (a6 : Int) (a7 : Int) (dd : List Int) (x1 : Int) (y1 : Int) (x2 : Int) (y2 : Int) (ab : Int) (ac : Int) (ad : Int) (hp : qOk [a0, a1, a2, a3, if lx then 1 else 0, a5, a6, a7, a8, a9, aa, ab, ac, ad] [x0, y0, x1, y1, x2, y2] dd) : ∃ fu, rline_f.run rline_e [] fu [agg [.c (.int .i64 a0), .c (.int .i64 a1), .c (.int .i64 a2), .c (.int .i64 x0), .c (.int .u64 y0), .c (.int .i64 a8), .c (.int .i64 a9), .c (.int .i64 aa), .c (.int .i64 a3), .c (.bool lx), .c (.int .i64 a5), .c (.int .i64 a6), .c (.int .i64 a7), .c (.ints .u8 dd), .c (.int .i64 x1), .c (.int .u64 y1), .c (.int .i64 x2), .c (.int .u64 y2), .c (.int .i64 ab), .c (.int .i64 ac), .c (.int .i64 ad)]] [] = some ⟨vS (tx (lnQ [a0, a1, a2, a3, if lx then 1 else 0, a5, a6, a7, a8, a9, aa, ab, ac, ad] [x0, y0, x1, y1, x2, y2] dd)), []⟩ := by
  refine ⟨15, ?_⟩
  rw [FnD.run, rline_ent]
  exact rline_loop [a0, a1, a2, a3, if lx then 1 else 0, a5, a6, a7, a8, a9, aa, ab, ac, ad] rfl (qOk_n hp) hp.2.1 hp.2.2.1 hp.2.2.2.1 hp.2.2.2.2.1 hp.2.2.2.2.2 15 0 (by omega) (by omega) (by simp)
theorem rline_ok (a0 : Int) (a1 : Int) (a2 : Int) (x0 : Int) (y0 : Int) (a8 : Int) (a9 : Int) (aa : Int) (a3 : Int) (lx : Bool) (a5 : Int) (a6 : Int) (a7 : Int) (dd : List Int) (x1 : Int) (y1 : Int) (x2 : Int) (y2 : Int) (ab : Int) (ac : Int) (ad : Int) (hp : qOk [a0, a1, a2, a3, if lx then 1 else 0, a5, a6, a7, a8, a9, aa, ab, ac, ad] [x0, y0, x1, y1, x2, y2] dd) : FnOk cfg 86 ([agg [.c (.int .i64 a0), .c (.int .i64 a1), .c (.int .i64 a2), .c (.int .i64 x0), .c (.int .u64 y0), .c (.int .i64 a8), .c (.int .i64 a9), .c (.int .i64 aa), .c (.int .i64 a3), .c (.bool lx), .c (.int .i64 a5), .c (.int .i64 a6), .c (.int .i64 a7), .c (.ints .u8 dd), .c (.int .i64 x1), .c (.int .u64 y1), .c (.int .i64 x2), .c (.int .u64 y2), .c (.int .i64 ab), .c (.int .i64 ac), .c (.int .i64 ad)]].map SV.den) (vS (tx (lnQ [a0, a1, a2, a3, if lx then 1 else 0, a5, a6, a7, a8, a9, aa, ab, ac, ad] [x0, y0, x1, y1, x2, y2] dd)) : SV).den := by
  obtain ⟨nn, h⟩ := rline_run a0 a1 a2 x0 y0 a8 a9 aa a3 lx a5 a6 a7 dd x1 y1 x2 y2 ab ac ad hp
  exact FnD.ok rline_g rline_f mixed Tryz.func86 rfl rfl rfl rfl rfl rfl h
noncomputable def c_rline : SpecF := fun args _ K => match args with
  | [.one (.agg [.c (.int .i64 a0), .c (.int .i64 a1), .c (.int .i64 a2), .c (.int .i64 x0), .c (.int .u64 y0), .c (.int .i64 a8), .c (.int .i64 a9), .c (.int .i64 aa), .c (.int .i64 a3), .c (.bool lx), .c (.int .i64 a5), .c (.int .i64 a6), .c (.int .i64 a7), .c (.ints .u8 dd), .c (.int .i64 x1), .c (.int .u64 y1), .c (.int .i64 x2), .c (.int .u64 y2), .c (.int .i64 ab), .c (.int .i64 ac), .c (.int .i64 ad)])] => bif decide (qOk [a0, a1, a2, a3, if lx then 1 else 0, a5, a6, a7, a8, a9, aa, ab, ac, ad] [x0, y0, x1, y1, x2, y2] dd) then K (vS (tx (lnQ [a0, a1, a2, a3, if lx then 1 else 0, a5, a6, a7, a8, a9, aa, ab, ac, ad] [x0, y0, x1, y1, x2, y2] dd))) [] else none
  | _ => none
theorem c_rline_ok : SpecOk cfg 86 c_rline := by
  intro args bx K out h
  unfold c_rline at h
  split at h
  · obtain ⟨hp, h⟩ := bif_some h
    exact ⟨_, _, h, .inl (rline_ok _ _ _ _ _ _ _ _ _ _ _ _ _ _ _ _ _ _ _ _ _ (of_decide_eq_true hp) _), by simp [isTupS]⟩
  · cases h
/-! ### epactref28.Print -/
noncomputable def rprint_e : Ev' := ⟨Tryz.prog, glob, Γof [(86, c_rline)]⟩
theorem rprint_g : Gd cfg rprint_e := gd (env_cons c_rline_ok (env_nil _))
noncomputable def rprint_f : FnD := ⟨37, Tryz.f37, shOf [(0, ⟨19, [], [], [(0, .c (.rows [.int .i64, .int .i64, .int .i64, .int .i64, .int .u64, .int .i64, .int .i64, .int .i64, .int .i64, .bool, .int .i64, .int .i64, .int .i64, .ints .u8, .int .i64, .int .u64, .int .i64, .int .u64, .int .i64, .int .i64, .int .i64])), (3, .c (.str)), (4, .c (.int .i64))]⟩)], Tryz.f37.resultTypes.toList, 0⟩
theorem rprint_ent (h : Hd) (L : List (List D)) : rprint_f.ent rprint_e [] h [c1 (.rows [.int .i64, .int .i64, .int .i64, .int .i64, .int .u64, .int .i64, .int .i64, .int .i64, .int .i64, .bool, .int .i64, .int .i64, .int .i64, .ints .u8, .int .i64, .int .u64, .int .i64, .int .u64, .int .i64, .int .i64, .int .i64] L)] [] = h (0 : Nat) [Lf.r L, Lf.s (tx []), Lf.i (0 : Int)] := by kernel_rfl
theorem rprint_l0 (h : Hd) (r0 : List (List D)) (s1 : ByteArray) (i2 : Int) : rprint_f.seg rprint_e [] h 0 [.r r0, .s s1, .i i2] = let v1 : Int := if ((r0.getD i2.toNat []).getD (9 : Nat) (D.i (0 : Int))).toB = true then (1 : Int) else (0 : Int); let v2 : ByteArray := tx (lnQ [((r0.getD i2.toNat []).getD (0 : Nat) (D.i (0 : Int))).toI, ((r0.getD i2.toNat []).getD (1 : Nat) (D.i (0 : Int))).toI, ((r0.getD i2.toNat []).getD (2 : Nat) (D.i (0 : Int))).toI, ((r0.getD i2.toNat []).getD (8 : Nat) (D.i (0 : Int))).toI, v1, ((r0.getD i2.toNat []).getD (10 : Nat) (D.i (0 : Int))).toI, ((r0.getD i2.toNat []).getD (11 : Nat) (D.i (0 : Int))).toI, ((r0.getD i2.toNat []).getD (12 : Nat) (D.i (0 : Int))).toI, ((r0.getD i2.toNat []).getD (5 : Nat) (D.i (0 : Int))).toI, ((r0.getD i2.toNat []).getD (6 : Nat) (D.i (0 : Int))).toI, ((r0.getD i2.toNat []).getD (7 : Nat) (D.i (0 : Int))).toI, ((r0.getD i2.toNat []).getD (18 : Nat) (D.i (0 : Int))).toI, ((r0.getD i2.toNat []).getD (19 : Nat) (D.i (0 : Int))).toI, ((r0.getD i2.toNat []).getD (20 : Nat) (D.i (0 : Int))).toI] [((r0.getD i2.toNat []).getD (3 : Nat) (D.i (0 : Int))).toI, ((r0.getD i2.toNat []).getD (4 : Nat) (D.i (0 : Int))).toI, ((r0.getD i2.toNat []).getD (14 : Nat) (D.i (0 : Int))).toI, ((r0.getD i2.toNat []).getD (15 : Nat) (D.i (0 : Int))).toI, ((r0.getD i2.toNat []).getD (16 : Nat) (D.i (0 : Int))).toI, ((r0.getD i2.toNat []).getD (17 : Nat) (D.i (0 : Int))).toI] ((r0.getD i2.toNat []).getD (13 : Nat) (D.i (0 : Int))).toL); let v3 : Nat := s1.size + v2.size; bif decide (i2 < (↑r0.length : Int)) then bif inB i2 r0.length then bif decide (qOk [((r0.getD i2.toNat []).getD (0 : Nat) (D.i (0 : Int))).toI, ((r0.getD i2.toNat []).getD (1 : Nat) (D.i (0 : Int))).toI, ((r0.getD i2.toNat []).getD (2 : Nat) (D.i (0 : Int))).toI, ((r0.getD i2.toNat []).getD (8 : Nat) (D.i (0 : Int))).toI, v1, ((r0.getD i2.toNat []).getD (10 : Nat) (D.i (0 : Int))).toI, ((r0.getD i2.toNat []).getD (11 : Nat) (D.i (0 : Int))).toI, ((r0.getD i2.toNat []).getD (12 : Nat) (D.i (0 : Int))).toI, ((r0.getD i2.toNat []).getD (5 : Nat) (D.i (0 : Int))).toI, ((r0.getD i2.toNat []).getD (6 : Nat) (D.i (0 : Int))).toI, ((r0.getD i2.toNat []).getD (7 : Nat) (D.i (0 : Int))).toI, ((r0.getD i2.toNat []).getD (18 : Nat) (D.i (0 : Int))).toI, ((r0.getD i2.toNat []).getD (19 : Nat) (D.i (0 : Int))).toI, ((r0.getD i2.toNat []).getD (20 : Nat) (D.i (0 : Int))).toI] [((r0.getD i2.toNat []).getD (3 : Nat) (D.i (0 : Int))).toI, ((r0.getD i2.toNat []).getD (4 : Nat) (D.i (0 : Int))).toI, ((r0.getD i2.toNat []).getD (14 : Nat) (D.i (0 : Int))).toI, ((r0.getD i2.toNat []).getD (15 : Nat) (D.i (0 : Int))).toI, ((r0.getD i2.toNat []).getD (16 : Nat) (D.i (0 : Int))).toI, ((r0.getD i2.toNat []).getD (17 : Nat) (D.i (0 : Int))).toI] ((r0.getD i2.toNat []).getD (13 : Nat) (D.i (0 : Int))).toL) then bif decide (v3 ≤ (9223372036854775807 : Nat)) then h (0 : Nat) [Lf.r r0, Lf.s (s1 ++ v2), Lf.i (IntKind.i64.wrap (i2 + (1 : Int)))] else none else none else none else ret (vS s1) := by kernel_rfl

theorem prn_i {L : List (List D)} (hL : allR L) {i : Nat} (hi : i ≤ L.length) : i ≤ (prnQ (L.take i)).length := by
  induction i with
  | zero => exact Nat.zero_le _
  | succ j jh =>
    have := jh (by omega)
    have hj2 : j < L.length := by omega
    have h3 := (lnR_len (allR_at hL hj2)).2
    rw [prnQ_take hj2, List.length_append]; omega
theorem rprint_loop (L : List (List D)) (hL : allR L) (hT : (prnQ L).length ≤ 1000000000) : ∀ (k i : Nat), i ≤ L.length → L.length - i < k →
    rprint_f.H rprint_e [] k 0 [.r L, .s (tx (prnQ (L.take i))), .i (i : Nat)] = some ⟨vS (tx (prnQ L)), []⟩ := by
  intro k
  induction k with
  | zero => intro i _ h; omega
  | succ k ih =>
    intro i hi hk
    rw [FnD.H_succ, rprint_l0]
    dsimp only
    rw [Int.toNat_natCast, lnR_unf]
    by_cases h : i < L.length
    · have ho := allR_at hL h
      have hs := prnQ_sub h
      have h1 := prn_i hL hi
      have h2 := prnQ_le L i
      have wr : IntKind.i64.wrap ((i : Int) + 1) = ((i + 1 : Nat) : Int) := by rw [IntWalk.i64_in _ (by omega)]; omega
      rw [wr]
      have key := ih (i + 1) (by omega) (by omega)
      rw [prnQ_take h] at key
      simp only [tx_append, tx_size]
      exact condT (by omega) (condB ((inB_iff _ _).2 (by omega)) (condT ho (condT (by omega) key)))
    · obtain rfl : i = L.length := by omega
      rw [List.take_length]
      exact condF (by omega) rfl
theorem rprint_run (L : List (List D)) (hp : allR L ∧ (prnQ L).length ≤ 1000000000) : ∃ fu, rprint_f.run rprint_e [] fu [c1 (.rows [.int .i64, .int .i64, .int .i64, .int .i64, .int .u64, .int .i64, .int .i64, .int .i64, .int .i64, .bool, .int .i64, .int .i64, .int .i64, .ints .u8, .int .i64, .int .u64, .int .i64, .int .u64, .int .i64, .int .i64, .int .i64] L)] [] = some ⟨vS (tx (prnQ L)), []⟩ := by
  refine ⟨L.length + 1, ?_⟩
  rw [FnD.run, rprint_ent]
  exact rprint_loop L hp.1 hp.2 (L.length + 1) 0 (by omega) (by omega)
theorem rprint_ok (L : List (List D)) (hp : allR L ∧ (prnQ L).length ≤ 1000000000) : FnOk cfg 37 ([c1 (.rows [.int .i64, .int .i64, .int .i64, .int .i64, .int .u64, .int .i64, .int .i64, .int .i64, .int .i64, .bool, .int .i64, .int .i64, .int .i64, .ints .u8, .int .i64, .int .u64, .int .i64, .int .u64, .int .i64, .int .i64, .int .i64] L)].map SV.den) (vS (tx (prnQ L)) : SV).den := by
  obtain ⟨nn, h⟩ := rprint_run L hp
  exact FnD.ok rprint_g rprint_f mixed Tryz.func37 rfl rfl rfl rfl rfl rfl h
noncomputable def c_rprint : SpecF := fun args _ K => match args with
  | [.one (.c (.rows [.int .i64, .int .i64, .int .i64, .int .i64, .int .u64, .int .i64, .int .i64, .int .i64, .int .i64, .bool, .int .i64, .int .i64, .int .i64, .ints .u8, .int .i64, .int .u64, .int .i64, .int .u64, .int .i64, .int .i64, .int .i64] L))] => bif decide (allR L ∧ (prnQ L).length ≤ 1000000000) then K (vS (tx (prnQ L))) [] else none
  | _ => none
theorem c_rprint_ok : SpecOk cfg 37 c_rprint := by
  intro args bx K out h
  unfold c_rprint at h
  split at h
  · obtain ⟨hp, h⟩ := bif_some h
    exact ⟨_, _, h, .inl (rprint_ok _ (of_decide_eq_true hp) _), by simp [isTupS]⟩
  · cases h
/-! ### epactref28.words -/
/-! ### epactref01.Same -/
/-! ### epactref05.Small -/
/-! ### epactref28.small -/
/-! ### epactref28.data -/
/-! ### epactref28.ReadLine -/
/-! ### epactref28.Read -/
end Go.Proofs.YtldofkogmkfpjaaGreatDoor
