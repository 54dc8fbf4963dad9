/-
  The contracts of the document's functions for layer 29 (epactref28).
-/
import Derived.Test.YtldofkogmkfpjaaGreatDoorWZzSyScript2
import Derived.Test.YtldofkogmkfpjaaGreatDoorWPScrE
namespace Go.Proofs.YtldofkogmkfpjaaGreatDoor
open Go Go.Ev Go.Sy
set_option linter.unusedSimpArgs false
set_option linter.unusedVariables false
set_option maxRecDepth 10000
set_option maxHeartbeats 4000000
/-! ### epactref28.Hex -/
noncomputable def rhex_e : Ev' := ⟨Tryz.prog, glob, Γof []⟩
theorem rhex_g : Gd cfg rhex_e := gd (env_nil _)
noncomputable def rhex_f : FnD := ⟨42, Tryz.f42, shOf [(0, ⟨39, [], [], [(0, .c (.ints .u8)), (3, .c (.str)), (4, .c (.int .i64))]⟩)], Tryz.f42.resultTypes.toList, 0⟩
theorem rhex_ent (h : Hd) (l : List Int) : rhex_f.ent rhex_e [] h [c1 (.ints .u8 l)] [] = h (0 : Nat) [Lf.l l, Lf.s (tx []), Lf.i (0 : Int)] := by kernel_rfl
theorem rhex_l0 (h : Hd) (l0 : List Int) (s1 : ByteArray) (i2 : Int) : rhex_f.seg rhex_e [] h 0 [.l l0, .s s1, .i i2] = let v1 : Int := IntKind.u8.wrap (shrI IntKind.u8 (l0.getD i2.toNat (0 : Int)) (4 : Int) + (1 : Int)); let v2 : ByteArray := (tx [48, 49, 50, 51, 52, 53, 54, 55, 56, 57, 97, 98, 99, 100, 101, 102]).extract (shrI IntKind.u8 (l0.getD i2.toNat (0 : Int)) (4 : Int)).toNat v1.toNat; let v3 : Nat := s1.size + v2.size; let v4 : Int := IntKind.u8.wrap (andI IntKind.u8 (l0.getD i2.toNat (0 : Int)) (15 : Int) + (1 : Int)); let v5 : ByteArray := s1 ++ v2; let v6 : ByteArray := (tx [48, 49, 50, 51, 52, 53, 54, 55, 56, 57, 97, 98, 99, 100, 101, 102]).extract (andI IntKind.u8 (l0.getD i2.toNat (0 : Int)) (15 : Int)).toNat v4.toNat; let v7 : Nat := v5.size + v6.size; bif decide (i2 < (↑l0.length : Int)) then bif inB i2 l0.length then bif inB i2 l0.length then bif slB (shrI IntKind.u8 (l0.getD i2.toNat (0 : Int)) (4 : Int)) v1 (16 : Nat) then bif decide (v3 ≤ (9223372036854775807 : Nat)) then bif inB i2 l0.length then bif inB i2 l0.length then bif slB (andI IntKind.u8 (l0.getD i2.toNat (0 : Int)) (15 : Int)) v4 (16 : Nat) then bif decide (v7 ≤ (9223372036854775807 : Nat)) then h (0 : Nat) [Lf.l l0, Lf.s (v5 ++ v6), Lf.i (IntKind.i64.wrap (i2 + (1 : Int)))] else none else none else none else none else none else none else none else none else ret (vS s1) := by kernel_rfl

theorem slB_of {l h : Int} {n : Nat} (h0 : 0 ≤ l) (h1 : l ≤ h) (h2 : h ≤ n) : slB l h n = true := by
  unfold slB
  rw [decide_eq_true h0, decide_eq_true h1, decide_eq_true h2]; rfl
theorem rhex_loop (m : List Nat) (hm : ∀ x ∈ m, x < 256) (hl : m.length ≤ 1000000000) : ∀ (k i : Nat), i ≤ m.length → m.length - i < k →
    rhex_f.H rhex_e [] k 0 [.l (castL m), .s (tx (hexB (toB (castL (m.take i))))), .i (i : Nat)] = some ⟨vS (tx (hexB (toB (castL m)))), []⟩ := by
  intro k
  induction k with
  | zero => intro i _ h; omega
  | succ k ih =>
    intro i hi hk
    rw [FnD.H_succ, rhex_l0]
    dsimp only
    have hlen : (hexB (toB (castL (m.take i)))).length = 2 * i := by
      rw [hexB_len, toB_len, castL_length, List.length_take, Nat.min_eq_left hi]
    by_cases h : i < m.length
    · have hx : nthN m i < 256 := nthN_all hm (by decide) i
      have e1 : shrI .u8 ((nthN m i : Nat) : Int) 4 = ((nthN m i / 16 : Nat) : Int) := shrI_u .u8 _ 4 (by decide)
      have e2 : andI .u8 ((nthN m i : Nat) : Int) 15 = ((nthN m i % 16 : Nat) : Int) := by
        have := andI_u (k := .u8) rfl (a := nthN m i) (b := 15) (by show _ < 2 ^ 8; omega) (by decide)
        rw [show (15 : Int) = ((15 : Nat) : Int) from rfl, this, show (15 : Nat) = 2 ^ 4 - 1 from rfl, Nat.and_two_pow_sub_one_eq_mod]
      rw [Int.toNat_natCast, nth_castL, e1, e2]
      have w1 : IntKind.u8.wrap (((nthN m i / 16 : Nat) : Int) + 1) = ((nthN m i / 16 + 1 : Nat) : Int) := by
        rw [show ((nthN m i / 16 : Nat) : Int) + 1 = ((nthN m i / 16 + 1 : Nat) : Int) by omega, wrap_u8, Nat.mod_eq_of_lt (by omega)]
      have w2 : IntKind.u8.wrap (((nthN m i % 16 : Nat) : Int) + 1) = ((nthN m i % 16 + 1 : Nat) : Int) := by
        rw [show ((nthN m i % 16 : Nat) : Int) + 1 = ((nthN m i % 16 + 1 : Nat) : Int) by omega, wrap_u8, Nat.mod_eq_of_lt (by omega)]
      rw [w1, w2, Int.toNat_natCast, Int.toNat_natCast, Int.toNat_natCast, Int.toNat_natCast, digX16 _ (by omega), digX16 _ (by omega)]
      rw [show IntKind.i64.wrap ((i : Int) + 1) = ((i + 1 : Nat) : Int) by rw [IntWalk.i64_in _ (by omega)]; omega]
      have hin : inB (i : Int) (castL m).length = true := (inB_iff _ _).2 (by rw [castL_length]; omega)
      refine condT (by rw [castL_length]; omega) (condB hin (condB hin (condB (slB_of (by omega) (by omega) (by omega)) (condT ?_ (condB hin (condB hin (condB (slB_of (by omega) (by omega) (by omega)) (condT ?_ ?_))))))))
      · rw [tx_size, tx_size, hlen]; simp <;> omega
      · rw [tx_append, tx_size, tx_size, List.length_append, hlen]; simp only [List.length_cons, List.length_nil] <;> omega
      · rw [tx_append, tx_append, List.append_assoc]
        have := ih (i + 1) (by omega) (by omega)
        rw [hexB_take h hm] at this
        exact this
    · obtain rfl : i = m.length := by omega
      refine condF (by rw [castL_length]; omega) ?_
      rw [List.take_length]
theorem rhex_run (l : List Int) (hp : bytesOk l ∧ l.length ≤ 1000000000) : ∃ fu, rhex_f.run rhex_e [] fu [c1 (.ints .u8 l)] [] = some ⟨vS (tx (hexB (toB l))), []⟩ := by
  obtain ⟨m, rfl, -, hm⟩ := bytes_nat hp.1
  have hl := hp.2
  rw [castL_length] at hl
  refine ⟨m.length + 1, ?_⟩
  rw [FnD.run, rhex_ent]
  exact rhex_loop m hm hl (m.length + 1) 0 (by omega) (by omega)
theorem rhex_ok (l : List Int) (hp : bytesOk l ∧ l.length ≤ 1000000000) : FnOk cfg 42 ([c1 (.ints .u8 l)].map SV.den) (vS (tx (hexB (toB l))) : SV).den := by
  obtain ⟨nn, h⟩ := rhex_run l hp
  exact FnD.ok rhex_g rhex_f mixed Tryz.func42 rfl rfl rfl rfl rfl rfl h
noncomputable def c_rhex : SpecF := fun args _ K => match args with
  | [.one (.c (.ints .u8 l))] => bif decide (bytesOk l ∧ l.length ≤ 1000000000) then K (vS (tx (hexB (toB l)))) [] else none
  | _ => none
theorem c_rhex_ok : SpecOk cfg 42 c_rhex := by
  intro args bx K out h
  unfold c_rhex at h
  split at h
  · obtain ⟨hp, h⟩ := bif_some h
    exact ⟨_, _, h, .inl (rhex_ok _ (of_decide_eq_true hp) _), by simp [isTupS]⟩
  · cases h
/-! ### epactref28.flag -/
/-! ### epactref28.Number -/
/-! ### epactref28.Line -/
/-! ### epactref28.Print -/
theorem prn_i {L : List (List D)} (hL : allR L) {i : Nat} (hi : i ≤ L.length) : i ≤ (prnQ (L.take i)).length := by
  induction i with
  | zero => exact Nat.zero_le _
  | succ j jh =>
    have := jh (by omega)
    have hj2 : j < L.length := by omega
    have h3 := (lnR_len (allR_at hL hj2)).2
    rw [prnQ_take hj2, List.length_append]; omega
/-! ### epactref28.words -/
noncomputable def rwords_e : Ev' := ⟨Tryz.prog, glob, Γof []⟩
theorem rwords_g : Gd cfg rwords_e := gd (env_nil _)
noncomputable def rwords_f : FnD := ⟨88, Tryz.f88, shOf [(0, ⟨32, [(3, ⟨.rows [.str], false, true⟩)], [], [(0, .c (.str)), (3, .c (.sl 3 1)), (4, .c (.int .i64)), (5, .c (.int .i64))]⟩)], Tryz.f88.resultTypes.toList, 0⟩
theorem rwords_ent (h : Hd) (s : ByteArray) : rwords_f.ent rwords_e [] h [vS s] [] = h (0 : Nat) [Lf.r [], Lf.b true, Lf.s s, Lf.i (0 : Int), Lf.i (0 : Int)] := by kernel_rfl
theorem rwords_l0 (h : Hd) (r0 : List (List D)) (b1 : Bool) (s2 : ByteArray) (i3 : Int) (i4 : Int) : rwords_f.seg rwords_e [] h 0 [.r r0, .b b1, .s s2, .i i3, .i i4] = let v1 : List (List D) := List.take r0.length r0 ++ [[D.s (s2.extract i3.toNat i4.toNat)]]; let v2 : Nat := v1.length; bif decide (i4 ≤ (↑s2.size : Int)) then bif decide (i4 = (↑s2.size : Int)) then bif slB i3 i4 s2.size then bif b1 == b1 && true && decide (r0.length ≤ r0.length) && roomB (r0.length + (1 : Nat)) (16 : Nat) then bif nlAfter b1 (1 : Nat) == nlAfter b1 (1 : Nat) && decide (r0.length + (1 : Nat) = v2) then h (0 : Nat) [Lf.r v1, Lf.b (nlAfter b1 (1 : Nat)), Lf.s s2, Lf.i (IntKind.i64.wrap (i4 + (1 : Int))), Lf.i (IntKind.i64.wrap (i4 + (1 : Int)))] else none else none else none else bif inB i4 s2.size then bif decide ((bytesI s2).getD i4.toNat (0 : Int) = (32 : Int)) then bif slB i3 i4 s2.size then bif b1 == b1 && true && decide (r0.length ≤ r0.length) && roomB (r0.length + (1 : Nat)) (16 : Nat) then bif nlAfter b1 (1 : Nat) == nlAfter b1 (1 : Nat) && decide (r0.length + (1 : Nat) = v2) then h (0 : Nat) [Lf.r v1, Lf.b (nlAfter b1 (1 : Nat)), Lf.s s2, Lf.i (IntKind.i64.wrap (i4 + (1 : Int))), Lf.i (IntKind.i64.wrap (i4 + (1 : Int)))] else none else none else none else bif b1 == b1 && decide (r0.length = r0.length) then h (0 : Nat) [Lf.r r0, Lf.b b1, Lf.s s2, Lf.i i3, Lf.i (IntKind.i64.wrap (i4 + (1 : Int)))] else none else none else bif b1 == b1 && decide (r0.length ≤ r0.length) && true then ret (c1 (Cl.rows [Kd.str] (List.take r0.length r0))) else none := by kernel_rfl

theorem rwords_loop (l : List UInt8) (hl : l.length ≤ 100000000) : ∀ (k : Nat) (W : List (List UInt8)) (a i : Nat) (b : Bool), a ≤ i → i ≤ l.length → W.length ≤ i → splitW l = W ++ splitA 32 ((l.drop a).take (i - a)) (l.drop i) → l.length + 1 - i < k →
    rwords_f.H rwords_e [] k 0 [.r (rowW W), .b b, .s (tx l), .i (a : Nat), .i (i : Nat)] = some ⟨c1 (.rows [.str] (rowW (splitW l))), []⟩ := by
  intro k
  induction k with
  | zero => intro W a i b _ _ _ _ h; omega
  | succ k ih =>
    intro W a i b ha hi hw hs hk
    rw [FnD.H_succ, rwords_l0]
    dsimp only
    rw [tx_size, Int.toNat_natCast, Int.toNat_natCast, tx_extract, bytes_get]
    have hwl : (rowW W).length = W.length := rowW_len W
    have wr : IntKind.i64.wrap ((i : Int) + 1) = ((i + 1 : Nat) : Int) := by rw [IntWalk.i64_in _ (by omega)]; omega
    rw [wr]
    by_cases h : i = l.length
    · subst h
      have hs2 : splitW l = W ++ [(l.drop a).take (l.length - a)] := by
        rw [hs, List.drop_of_length_le (Nat.le_refl _)]; rfl
      refine condT (by omega) (condT rfl (condB (slB_of (by omega) (by omega) (by omega)) ?_))
      refine (push_rowsN (z := 16) (room_of (by rw [hwl]; omega) (by rw [hwl]; omega))).trans ?_
      rw [List.take_length, rowW_snoc, ← hs2]
      cases k with
      | zero => omega
      | succ k =>
        rw [FnD.H_succ, rwords_l0]
        dsimp only
        rw [tx_size]
        refine condF (by omega) (condB (by simp) (retV ?_))
        rw [List.take_length]
    · have hlt : i < l.length := by omega
      have hd : l.drop i = l[i] :: l.drop (i + 1) := List.drop_eq_getElem_cons hlt
      have hg : l.getD i 0 = l[i] := by rw [List.getD_eq_getElem?_getD, List.getElem?_eq_getElem hlt]; rfl
      refine condT (by omega) (condF (by omega) (condB ((inB_iff _ _).2 (by omega)) ?_))
      rw [hg]
      rw [hd, splitA] at hs
      by_cases h32 : l[i] = 32
      · rw [if_pos h32] at hs
        refine condT (by rw [h32]; rfl) (condB (slB_of (by omega) (by omega) (by omega)) ?_)
        refine (push_rowsN (z := 16) (room_of (by rw [hwl]; omega) (by rw [hwl]; omega))).trans ?_
        rw [List.take_length, rowW_snoc]
        refine ih (W ++ [(l.drop a).take (i - a)]) (i + 1) (i + 1) (nlAfter b 1) (Nat.le_refl _) (by omega) (by rw [List.length_append]; simp; omega) ?_ (by omega)
        rw [Nat.sub_self, List.take_zero, hs]; simp
      · rw [if_neg h32] at hs
        refine condF (fun e => h32 (by apply UInt8.toNat_inj.1; show l[i].toNat = 32; omega)) (condB (by simp) ?_)
        refine ih W a (i + 1) b (by omega) (by omega) (by omega) ?_ (by omega)
        rw [hs]
        congr 2
        rw [show i + 1 - a = (i - a) + 1 by omega, List.take_succ_eq_append_getElem (by rw [List.length_drop]; omega)]
        congr 2
        rw [List.getElem_drop]
        congr 1
        omega
theorem rwords_run (s : ByteArray) (hp : s.size ≤ 100000000) : ∃ fu, rwords_f.run rwords_e [] fu [vS s] [] = some ⟨c1 (.rows [.str] ((splitW s.data.toList).map fun l => [.s (tx l)])), []⟩ := by
  obtain ⟨l, rfl, hl⟩ := tx_get s
  rw [tx_size] at hp
  rw [tx_toList]
  refine ⟨l.length + 2, ?_⟩
  rw [FnD.run, rwords_ent]
  exact rwords_loop l hp (l.length + 2) [] 0 0 true (by omega) (by omega) (by simp) (by simp [splitW]) (by omega)
theorem rwords_ok (s : ByteArray) (hp : s.size ≤ 100000000) : FnOk cfg 88 ([vS s].map SV.den) (c1 (.rows [.str] ((splitW s.data.toList).map fun l => [.s (tx l)])) : SV).den := by
  obtain ⟨nn, h⟩ := rwords_run s hp
  exact FnD.ok rwords_g rwords_f mixed Tryz.func88 rfl rfl rfl rfl rfl rfl h
noncomputable def c_rwords : SpecF := fun args _ K => match args with
  | [.one (.c (.str s))] => bif decide (s.size ≤ 100000000) then K (c1 (.rows [.str] ((splitW s.data.toList).map fun l => [.s (tx l)]))) [] else none
  | _ => none
theorem c_rwords_ok : SpecOk cfg 88 c_rwords := by
  intro args bx K out h
  unfold c_rwords at h
  split at h
  · obtain ⟨hp, h⟩ := bif_some h
    exact ⟨_, _, h, .inl (rwords_ok _ (of_decide_eq_true hp) _), by simp [isTupS]⟩
  · cases h
/-! ### epactref01.Same -/
noncomputable def rbsame_e : Ev' := ⟨Tryz.prog, glob, Γof [(134, c_rbcmp)]⟩
theorem rbsame_g : Gd cfg rbsame_e := gd (env_cons c_rbcmp_ok (env_nil _))
noncomputable def rbsame_f : FnD := ⟨172, Tryz.f172, noSh, Tryz.f172.resultTypes.toList, 0⟩
theorem rbsame_ent (h : Hd) (s : Bool) (a : List Int) (t : Bool) (b : List Int) : rbsame_f.ent rbsame_e [] h [agg [.c (.bool s), .c (.ints .i64 a)], agg [.c (.bool t), .c (.ints .i64 b)]] [] = bif decide (isBig s a ∧ isBig t b ∧ a.length ≤ (1000000000 : Nat) ∧ b.length ≤ (1000000000 : Nat)) then ret (vB (decide (cmpV (bV s a) (bV t b) = (0 : Int)))) else none := by kernel_rfl
theorem rbsame_run (s : Bool) (a : List Int) (t : Bool) (b : List Int) (hp : isBig s a ∧ isBig t b ∧ a.length ≤ 1000000000 ∧ b.length ≤ 1000000000) : ∃ fu, rbsame_f.run rbsame_e [] fu [agg [.c (.bool s), .c (.ints .i64 a)], agg [.c (.bool t), .c (.ints .i64 b)]] [] = some ⟨vB (decide (bV s a = bV t b)), []⟩ := by
  refine ⟨0, ?_⟩
  rw [FnD.run, rbsame_ent]
  refine condT hp (retV ?_)
  congr 1
  unfold cmpV
  by_cases h : bV s a = bV t b
  · rw [if_pos h, decide_eq_true h]; rfl
  · rw [if_neg h, decide_eq_false h]
    split <;> rfl
theorem rbsame_ok (s : Bool) (a : List Int) (t : Bool) (b : List Int) (hp : isBig s a ∧ isBig t b ∧ a.length ≤ 1000000000 ∧ b.length ≤ 1000000000) : FnOk cfg 172 ([agg [.c (.bool s), .c (.ints .i64 a)], agg [.c (.bool t), .c (.ints .i64 b)]].map SV.den) (vB (decide (bV s a = bV t b)) : SV).den := by
  obtain ⟨nn, h⟩ := rbsame_run s a t b hp
  exact FnD.ok rbsame_g rbsame_f mixed Tryz.func172 rfl rfl rfl rfl rfl rfl h
noncomputable def c_rbsame : SpecF := fun args _ K => match args with
  | [.one (.agg [.c (.bool s), .c (.ints .i64 a)]), .one (.agg [.c (.bool t), .c (.ints .i64 b)])] => bif decide (isBig s a ∧ isBig t b ∧ a.length ≤ 1000000000 ∧ b.length ≤ 1000000000) then K (vB (decide (bV s a = bV t b))) [] else none
  | _ => none
theorem c_rbsame_ok : SpecOk cfg 172 c_rbsame := by
  intro args bx K out h
  unfold c_rbsame at h
  split at h
  · obtain ⟨hp, h⟩ := bif_some h
    exact ⟨_, _, h, .inl (rbsame_ok _ _ _ _ (of_decide_eq_true hp) _), by simp [isTupS]⟩
  · cases h
/-! ### epactref05.Small -/
noncomputable def r5small_e : Ev' := ⟨Tryz.prog, glob, Γof [(134, c_rbcmp), (135, c_rpow2), (133, c_rbneg), (132, c_rbint), (91, c_rbwide), (171, c_rword), (172, c_rbsame)]⟩
theorem r5small_g : Gd cfg r5small_e := gd (env_cons c_rbcmp_ok (env_cons c_rpow2_ok (env_cons c_rbneg_ok (env_cons c_rbint_ok (env_cons c_rbwide_ok (env_cons c_rword_ok (env_cons c_rbsame_ok (env_nil _))))))))
noncomputable def r5small_f : FnD := ⟨129, Tryz.f129, noSh, Tryz.f129.resultTypes.toList, 0⟩
theorem r5small_ent (h : Hd) (s : Bool) (a : List Int) : r5small_f.ent r5small_e [] h [agg [.c (.bool s), .c (.ints .i64 a)]] [] = let v1 : Int := bV (decide (IntKind.i64.wrap (wLo (clip (bV s a))) < (0 : Int))) (bigD (IntKind.i64.wrap (wLo (clip (bV s a)))).natAbs); bif decide (isBig s a ∧ a.length ≤ (1000000000 : Nat)) then bif !decide (isI (bV s a)) then ret (SV.tup [tI (0 : Int), S1.c (Cl.bool false)]) else bif decide (isH (IntKind.i64.wrap (wLo (clip (bV s a))))) then bif decide (isBig s a ∧ isBig (decide (IntKind.i64.wrap (wLo (clip (bV s a))) < (0 : Int))) (bigD (IntKind.i64.wrap (wLo (clip (bV s a)))).natAbs) ∧ a.length ≤ (1000000000 : Nat) ∧ (bigD (IntKind.i64.wrap (wLo (clip (bV s a)))).natAbs).length ≤ (1000000000 : Nat)) then bif !decide (bV s a = v1) then ret (SV.tup [tI (0 : Int), S1.c (Cl.bool false)]) else ret (SV.tup [tI (IntKind.i64.wrap (wLo (clip (bV s a)))), S1.c (Cl.bool true)]) else none else none else none := by kernel_rfl

theorem smR0 {a c : Int} {b d : Bool} (h1 : a = c) (h2 : b = d) : (ret (.tup [tI a, tB b]) : Option Out) = some ⟨.tup [tI c, tB d], []⟩ := by rw [h1, h2]
theorem lo_H (v : Int) : isH (IntKind.i64.wrap (wLo v)) ∧ (isH v ↔ v = IntKind.i64.wrap (wLo v)) := by
  have e : IntKind.i64.wrap (wLo v) = (wLo v + 9223372036854775808) % 18446744073709551616 - 9223372036854775808 := i64w (wLo v)
  rw [e]
  unfold isH wLo
  omega
theorem r5small_run (s : Bool) (a : List Int) (hp : isBig s a ∧ a.length ≤ 1000000000) : ∃ fu, r5small_f.run r5small_e [] fu [agg [.c (.bool s), .c (.ints .i64 a)]] [] = some ⟨.tup [tI (if isH (bV s a) then bV s a else 0), tB (decide (isH (bV s a)))], []⟩ := by
  refine ⟨0, ?_⟩
  rw [FnD.run, r5small_ent]
  refine condT hp ?_
  generalize hv : bV s a = v
  by_cases hI : isI v
  case neg =>
    have hH : ¬ isH v := fun h => hI (isI_H h)
    exact condB (by rw [decide_eq_false hI]; rfl) (smR0 (by rw [if_neg hH]) (by rw [decide_eq_false hH]))
  have ec : clip v = v := if_pos hI
  obtain ⟨h1, h2⟩ := lo_H v
  rw [ec, bV_mk]
  have hn : ∀ x : Int, isH x → (bigD x.natAbs).length ≤ 1000000000 := fun x hx => lenBg (by unfold isH at hx; omega)
  refine condN (by rw [decide_eq_true hI]; rfl) (condT h1 (condT ⟨hp.1, (isBig_mk _).1, hp.2, hn _ h1⟩ ?_))
  by_cases h : v = IntKind.i64.wrap (wLo v)
  · have hH := h2.2 h
    refine condN (by rw [decide_eq_true h]; rfl) (smR0 ?_ ?_)
    · rw [if_pos hH]; exact h.symm
    · rw [decide_eq_true hH]
  · have hH : ¬ isH v := fun g => h (h2.1 g)
    exact condB (by rw [decide_eq_false h]; rfl) (smR0 (by rw [if_neg hH]) (by rw [decide_eq_false hH]))
theorem r5small_ok (s : Bool) (a : List Int) (hp : isBig s a ∧ a.length ≤ 1000000000) : FnOk cfg 129 ([agg [.c (.bool s), .c (.ints .i64 a)]].map SV.den) (.tup [tI (if isH (bV s a) then bV s a else 0), tB (decide (isH (bV s a)))] : SV).den := by
  obtain ⟨nn, h⟩ := r5small_run s a hp
  exact FnD.ok r5small_g r5small_f mixed Tryz.func129 rfl rfl rfl rfl rfl rfl h
noncomputable def c_r5small : SpecF := fun args _ K => match args with
  | [.one (.agg [.c (.bool s), .c (.ints .i64 a)])] => bif decide (isBig s a ∧ a.length ≤ 1000000000) then K (.tup [tI (if isH (bV s a) then bV s a else 0), tB (decide (isH (bV s a)))]) [] else none
  | _ => none
theorem c_r5small_ok : SpecOk cfg 129 c_r5small := by
  intro args bx K out h
  unfold c_r5small at h
  split at h
  · obtain ⟨hp, h⟩ := bif_some h
    exact ⟨_, _, h, .inl (r5small_ok _ _ (of_decide_eq_true hp) _), by simp [isTupS]⟩
  · cases h
/-! ### epactref28.small -/
noncomputable def rsmall_e : Ev' := ⟨Tryz.prog, glob, Γof [(90, c_rnum), (129, c_r5small)]⟩
theorem rsmall_g : Gd cfg rsmall_e := gd (env_cons c_rnum_ok (env_cons c_r5small_ok (env_nil _)))
noncomputable def rsmall_f : FnD := ⟨89, Tryz.f89, noSh, Tryz.f89.resultTypes.toList, 0⟩
theorem rsmall_ent (h : Hd) (s : ByteArray) : rsmall_f.ent rsmall_e [] h [vS s] [] = let v1 : Int := if formL s.data.toList = true then numL s.data.toList else (0 : Int); let v2 : List Int := bigD v1.natAbs; let v3 : Nat := v2.length; let v4 : Int := bV (decide (v1 < (0 : Int))) v2; bif decide (s.size ≤ (100000000 : Nat)) then bif !formL s.data.toList then ret (SV.tup [tI (0 : Int), S1.c (Cl.bool false)]) else bif decide (isBig (decide (v1 < (0 : Int))) v2 ∧ v3 ≤ (1000000000 : Nat)) then ret (SV.tup [tI (if isH v4 then v4 else (0 : Int)), S1.c (Cl.bool (decide (isH v4)))]) else none else none := by kernel_rfl

theorem num_big {l : List UInt8} (h : formL l = true) (hl : l.length ≤ 100000000) : (bigD (numL l).natAbs).length ≤ 1000000000 := by
  have h1 := numL_len h
  have h2 : (numL l).natAbs < 65536 ^ l.length := Nat.lt_of_lt_of_le h1 (Nat.pow_le_pow_left (by omega) _)
  exact Nat.le_trans (bigD_len h2) (by omega)
theorem smR {a c : Int} {b d : Bool} (h1 : a = c) (h2 : b = d) : (ret (.tup [tI a, tB b]) : Option Out) = some ⟨.tup [tI c, tB d], []⟩ := by rw [h1, h2]
theorem rsmall_run (s : ByteArray) (hp : s.size ≤ 100000000) : ∃ fu, rsmall_f.run rsmall_e [] fu [vS s] [] = some ⟨.tup [tI (smV s.data.toList), tB (smB s.data.toList)], []⟩ := by
  refine ⟨0, ?_⟩
  rw [FnD.run, rsmall_ent]
  obtain ⟨l, rfl, hl⟩ := tx_get s
  rw [tx_size] at hp
  dsimp only
  rw [tx_toList, bV_mk, tx_size]
  refine condT hp ?_
  cases hf : formL l with
  | false => exact condB rfl (smR (by unfold smV smB; rw [hf]; rfl) (by unfold smB; rw [hf]; rfl))
  | true =>
    refine condN rfl (condT ⟨(isBig_mk _).1, num_big hf hp⟩ (smR ?_ ?_))
    · unfold smV smB
      rw [hf, if_pos rfl, Bool.true_and]
      by_cases h : isH (numL l)
      · rw [if_pos h, decide_eq_true h, if_pos rfl]
      · rw [if_neg h, decide_eq_false h, if_neg (by simp)]
    · unfold smB
      rw [hf, if_pos rfl, Bool.true_and]
theorem rsmall_ok (s : ByteArray) (hp : s.size ≤ 100000000) : FnOk cfg 89 ([vS s].map SV.den) (.tup [tI (smV s.data.toList), tB (smB s.data.toList)] : SV).den := by
  obtain ⟨nn, h⟩ := rsmall_run s hp
  exact FnD.ok rsmall_g rsmall_f mixed Tryz.func89 rfl rfl rfl rfl rfl rfl h
noncomputable def c_rsmall : SpecF := fun args _ K => match args with
  | [.one (.c (.str s))] => bif decide (s.size ≤ 100000000) then K (.tup [tI (smV s.data.toList), tB (smB s.data.toList)]) [] else none
  | _ => none
theorem c_rsmall_ok : SpecOk cfg 89 c_rsmall := by
  intro args bx K out h
  unfold c_rsmall at h
  split at h
  · obtain ⟨hp, h⟩ := bif_some h
    exact ⟨_, _, h, .inl (rsmall_ok _ (of_decide_eq_true hp) _), by simp [isTupS]⟩
  · cases h
/-! ### epactref28.data -/
noncomputable def rdata_e : Ev' := ⟨Tryz.prog, glob, Γof []⟩
theorem rdata_g : Gd cfg rdata_e := gd (env_nil _)
noncomputable def rdata_f : FnD := ⟨92, Tryz.f92, shOf [(0, ⟨56, [(4, ⟨.ints .u8, false, true⟩)], [], [(0, .c (.str)), (4, .c (.sl 4 1)), (5, .c (.int .i64)), (6, .c (.int .i64))]⟩), (1, ⟨56, [(4, ⟨.ints .u8, false, true⟩)], [], [(0, .c (.str)), (4, .c (.sl 4 1)), (5, .c (.int .i64)), (6, .c (.int .i64)), (7, .c (.int .i64)), (8, .c (.int .i64))]⟩)], Tryz.f92.resultTypes.toList, 0⟩
theorem rdata_ent (h : Hd) (s : ByteArray) : rdata_f.ent rdata_e [] h [vS s] [] = bif decide ((↑s.size : Int) = (0 : Int)) then ret (SV.tup [S1.c (Cl.ints IntKind.u8 []), S1.c (Cl.bool false)]) else bif inB (0 : Int) s.size then bif !decide ((bytesI s).getD (0 : Nat) (0 : Int) = (120 : Int)) then ret (SV.tup [S1.c (Cl.ints IntKind.u8 []), S1.c (Cl.bool false)]) else bif !decide ((↑s.size : Int).tmod (2 : Int) = (1 : Int)) then ret (SV.tup [S1.c (Cl.ints IntKind.u8 []), S1.c (Cl.bool false)]) else h (0 : Nat) [Lf.l [], Lf.b true, Lf.s s, Lf.i (0 : Int), Lf.i (1 : Int)] else none := by kernel_rfl
theorem rdata_l0 (h : Hd) (l0 : List Int) (b1 : Bool) (s2 : ByteArray) (i3 : Int) (i4 : Int) : rdata_f.seg rdata_e [] h 0 [.l l0, .b b1, .s s2, .i i3, .i i4] = bif decide (i4 < (↑s2.size : Int)) then bif b1 == b1 && decide (l0.length = l0.length) then h (1 : Nat) [Lf.l l0, Lf.b b1, Lf.s s2, Lf.i i3, Lf.i i4, Lf.i (-1 : Int), Lf.i (0 : Int)] else none else bif b1 == b1 && decide (l0.length ≤ l0.length) && true then ret (SV.tup [S1.c (Cl.ints IntKind.u8 (List.take l0.length l0)), S1.c (Cl.bool true)]) else none := by kernel_rfl
theorem rdata_l1 (h : Hd) (l0 : List Int) (b1 : Bool) (s2 : ByteArray) (i3 : Int) (i4 : Int) (i5 : Int) (i6 : Int) : rdata_f.seg rdata_e [] h 1 [.l l0, .b b1, .s s2, .i i3, .i i4, .i i5, .i i6] = let v1 : Int := (bytesI (tx [48, 49, 50, 51, 52, 53, 54, 55, 56, 57, 97, 98, 99, 100, 101, 102])).getD i6.toNat (0 : Int); let v2 : Int := IntKind.i64.wrap ((IntKind.i64.wrap (i3 * (16 : Int))).tmod (256 : Int) + i5); let v3 : List Int := List.take l0.length l0 ++ [IntKind.u8.wrap v2]; let v4 : Nat := v3.length; bif decide (i6 < (16 : Int)) then bif inB i6 (16 : Nat) then bif inB i4 s2.size then bif decide (v1 = (bytesI s2).getD i4.toNat (0 : Int)) then bif b1 == b1 && decide (l0.length = l0.length) then h (1 : Nat) [Lf.l l0, Lf.b b1, Lf.s s2, Lf.i i3, Lf.i i4, Lf.i i6, Lf.i (IntKind.i64.wrap (i6 + (1 : Int)))] else none else bif b1 == b1 && decide (l0.length = l0.length) then h (1 : Nat) [Lf.l l0, Lf.b b1, Lf.s s2, Lf.i i3, Lf.i i4, Lf.i i5, Lf.i (IntKind.i64.wrap (i6 + (1 : Int)))] else none else none else none else bif decide (i5 < (0 : Int)) then ret (SV.tup [S1.c (Cl.ints IntKind.u8 []), S1.c (Cl.bool false)]) else bif decide (i4.tmod (2 : Int) = (0 : Int)) then bif b1 == b1 && true && decide (l0.length ≤ l0.length) && roomB (l0.length + (1 : Nat)) (1 : Nat) then bif nlAfter b1 (1 : Nat) == nlAfter b1 (1 : Nat) && decide (l0.length + (1 : Nat) = v4) then h (0 : Nat) [Lf.l v3, Lf.b (nlAfter b1 (1 : Nat)), Lf.s s2, Lf.i v2, Lf.i (IntKind.i64.wrap (i4 + (1 : Int)))] else none else none else bif b1 == b1 && decide (l0.length = l0.length) then h (0 : Nat) [Lf.l l0, Lf.b b1, Lf.s s2, Lf.i v2, Lf.i (IntKind.i64.wrap (i4 + (1 : Int)))] else none := by kernel_rfl

def dAt (c : UInt8) (j : Nat) : Int := if isHex c = true ∧ hexd c < (j : Int) then hexd c else -1
theorem dig_is : ∀ n < 256, ∀ k < 16, ((bytesI (tx [48, 49, 50, 51, 52, 53, 54, 55, 56, 57, 97, 98, 99, 100, 101, 102])).getD k 0 = ((UInt8.ofNat n).toNat : Int)) = (isHex (UInt8.ofNat n) = true ∧ hexd (UInt8.ofNat n) = (k : Int)) := by
  have key : ∀ n < 256, ∀ k < 16, decide ((bytesI (tx [48, 49, 50, 51, 52, 53, 54, 55, 56, 57, 97, 98, 99, 100, 101, 102])).getD k 0 = ((UInt8.ofNat n).toNat : Int)) = decide (isHex (UInt8.ofNat n) = true ∧ hexd (UInt8.ofNat n) = (k : Int)) := by decide +kernel
  intro n hn k hk
  exact propext (decide_eq_decide.1 (key n hn k hk))
theorem dig_c (c : UInt8) {k : Nat} (hk : k < 16) : ((bytesI (tx [48, 49, 50, 51, 52, 53, 54, 55, 56, 57, 97, 98, 99, 100, 101, 102])).getD k 0 = (c.toNat : Int)) ↔ (isHex c = true ∧ hexd c = (k : Int)) := by
  have := dig_is c.toNat c.toNat_lt k hk
  rw [UInt8.ofNat_toNat] at this
  rw [this]
theorem dAt_end {c : UInt8} (h : isHex c = true) : dAt c 16 = hexd c ∧ 0 ≤ hexd c ∧ hexd c < 16 := by
  have h1 := hexd_pos h
  have h2 := (hexc_of h).2
  refine ⟨?_, h1, by omega⟩
  unfold dAt
  rw [if_pos ⟨h, by omega⟩]
theorem dAt_no {c : UInt8} (h : ¬ isHex c = true) (j : Nat) : dAt c j = -1 := by
  unfold dAt
  rw [if_neg fun e => h e.1]
theorem rdata_inner (l : List UInt8) (p : Nat) (hp : p < l.length) (out : List Int) (b : Bool) (n : Int) (R : Option Out) : ∀ d j, j + d = 16 →
    (∃ k, rdata_f.H rdata_e [] k 1 [.l out, .b b, .s (tx l), .i n, .i (p : Nat), .i (dAt (l.getD p 0) 16), .i ((16 : Nat) : Int)] = R) →
    ∃ k, rdata_f.H rdata_e [] k 1 [.l out, .b b, .s (tx l), .i n, .i (p : Nat), .i (dAt (l.getD p 0) j), .i (j : Nat)] = R := by
  intro d
  induction d with
  | zero =>
    intro j hj h
    obtain rfl : j = 16 := by omega
    exact h
  | succ d ih =>
    intro j hj h
    obtain ⟨k, hk⟩ := ih (j + 1) (by omega) h
    refine ⟨k + 1, ?_⟩
    rw [FnD.H_succ, rdata_l1]
    try dsimp only
    rw [Int.toNat_natCast, Int.toNat_natCast, bytes_get l, tx_size]
    have wr : IntKind.i64.wrap ((j : Int) + 1) = ((j + 1 : Nat) : Int) := by rw [IntWalk.i64_in _ (by omega)]; omega
    rw [wr]
    refine condT (by omega) (condB ((inB_iff _ _).2 (by omega)) (condB ((inB_iff _ _).2 (by omega)) ?_))
    have hd := dig_c (l.getD p 0) (k := j) (by omega)
    by_cases h2 : isHex (l.getD p 0) = true ∧ hexd (l.getD p 0) = (j : Int)
    · refine condT (hd.2 h2) (condB (by simp) ?_)
      have e : dAt (l.getD p 0) (j + 1) = (j : Int) := by
        unfold dAt
        rw [if_pos ⟨h2.1, by omega⟩]; exact h2.2
      rw [e] at hk
      exact hk
    · refine condF (fun e => h2 (hd.1 e)) (condB (by simp) ?_)
      have e : dAt (l.getD p 0) (j + 1) = dAt (l.getD p 0) j := by
        unfold dAt
        by_cases g : isHex (l.getD p 0) = true
        · have g2 : hexd (l.getD p 0) ≠ (j : Int) := fun e => h2 ⟨g, e⟩
          by_cases g3 : hexd (l.getD p 0) < (j : Int)
          · rw [if_pos ⟨g, by omega⟩, if_pos ⟨g, g3⟩]
          · rw [if_neg fun e => g3 (by have := e.2; omega), if_neg fun e => g3 e.2]
        · rw [if_neg fun e => g e.1, if_neg fun e => g e.1]
      rw [e] at hk
      exact hk
theorem dtR {l : List UInt8} {a : List Int} {b : Bool} (h1 : a = byI (dtD l)) (h2 : b = dtB l) : (ret (.tup [.c (.ints .u8 a), .c (.bool b)]) : Option Out) = some ⟨.tup [.c (.ints .u8 (byI (dtD l))), tB (dtB l)], []⟩ := by rw [h1, h2]
theorem dt_no {l : List UInt8} (h : dtB l = false) : (ret (.tup [.c (.ints .u8 []), .c (.bool false)]) : Option Out) = some ⟨.tup [.c (.ints .u8 (byI (dtD l))), tB (dtB l)], []⟩ := dtR (by unfold dtD; rw [h]; rfl) h.symm
theorem dt_unh {l : List UInt8} (h : unhP (l.drop 1) = none) : dtB l = false := by
  unfold dtB unB
  rw [h]; exact Bool.and_false _
theorem rdata_loop (l : List UInt8) (hl : l.length ≤ 100000000) (h0 : l.getD 0 0 = 120) (hne : l ≠ []) : ∀ (m : Nat) (rest a d : List UInt8) (n : Nat) (b : Bool), rest.length ≤ m → l.drop 1 = a ++ rest → unhP a = some d → rest.length % 2 = 0 → a.length % 2 = 0 → n < 256 →
    ∃ k, rdata_f.H rdata_e [] k 0 [.l (byI d), .b b, .s (tx l), .i (n : Nat), .i ((a.length + 1 : Nat) : Int)] = some ⟨.tup [.c (.ints .u8 (byI (dtD l))), tB (dtB l)], []⟩ := by
  intro m
  induction m with
  | zero =>
    intro rest a d n b hm hs hu he ha hn
    obtain rfl : rest = [] := List.length_eq_zero_iff.1 (by omega)
    rw [List.append_nil] at hs
    have hal : a.length + 1 = l.length := by rw [← hs, List.length_drop]; have := List.length_pos_iff.2 hne; omega
    refine ⟨1, ?_⟩
    rw [FnD.H_succ, rdata_l0]
    try dsimp only
    rw [tx_size]
    have hb : dtB l = true := by
      unfold dtB unB
      rw [hs, hu, h0]; rfl
    refine condF (by omega) (condB (by simp) (dtR ?_ hb.symm))
    rw [List.take_length]
    unfold dtD unD
    rw [hb, hs, hu]; rfl
  | succ m ih =>
    intro rest a d n b hm hs hu he ha hn
    match rest, hs, he, hm with
    | [], hs, he, hm => exact ih [] a d n b (by simp) hs hu rfl ha hn
    | [c], hs, he, hm => simp at he
    | c :: e :: r, hs, he, hm =>
      simp only [List.length_cons] at he hm
      have hll := congrArg List.length hs
      rw [List.length_drop, List.length_append, List.length_cons, List.length_cons] at hll
      have hlp := List.length_pos_iff.2 hne
      have hget : ∀ i, l.getD (i + 1) 0 = (l.drop 1).getD i 0 := fun i => by rw [List.getD_eq_getElem?_getD, List.getD_eq_getElem?_getD, List.getElem?_drop, Nat.add_comm]
      have g0 : l.getD (a.length + 1) 0 = c := by rw [hget, hs, List.getD_eq_getElem?_getD, List.getElem?_append_right (Nat.le_refl _), Nat.sub_self]; rfl
      have g1 : l.getD (a.length + 1 + 1) 0 = e := by rw [hget, hs, List.getD_eq_getElem?_getD, List.getElem?_append_right (by omega), show a.length + 1 - a.length = 1 by omega]; rfl
      have hun : unhP (l.drop 1) = (unhP (c :: e :: r)).map (d ++ ·) := by rw [hs]; exact unh_app a _ d hu
      have hd := hex_unh a d hu
      have hdl : 2 * d.length = a.length := by rw [← hd, hexB_len]
      -- the first digit
      have s1 : (∃ k, rdata_f.H rdata_e [] k 1 [.l (byI d), .b b, .s (tx l), .i (n : Nat), .i ((a.length + 1 : Nat) : Int), .i (dAt (l.getD (a.length + 1) 0) 16), .i ((16 : Nat) : Int)] = some ⟨.tup [.c (.ints .u8 (byI (dtD l))), tB (dtB l)], []⟩) →
          ∃ k, rdata_f.H rdata_e [] k 0 [.l (byI d), .b b, .s (tx l), .i (n : Nat), .i ((a.length + 1 : Nat) : Int)] = some ⟨.tup [.c (.ints .u8 (byI (dtD l))), tB (dtB l)], []⟩ := fun h => by
        obtain ⟨k, hk⟩ := rdata_inner l (a.length + 1) (by omega) (byI d) b n _ 16 0 rfl h
        refine ⟨k + 1, ?_⟩
        rw [FnD.H_succ, rdata_l0]
        try dsimp only
        rw [tx_size]
        refine condT (by omega) (condB (by simp) ?_)
        have e0 : dAt (l.getD (a.length + 1) 0) 0 = -1 := by
          unfold dAt
          by_cases g : isHex (l.getD (a.length + 1) 0) = true
          · have := hexd_pos g
            rw [if_neg fun e => by have := e.2; omega]
          · rw [if_neg fun e => g e.1]
        rw [e0] at hk
        exact hk
      apply s1
      rw [g0]
      by_cases hc : isHex c = true
      case neg =>
        refine ⟨1, ?_⟩
        rw [FnD.H_succ, rdata_l1]
        try dsimp only
        rw [dAt_no hc]
        refine condF (by omega) (condT (by decide) (dt_no (dt_unh ?_)))
        rw [hun, unhP, if_neg (by simp only [Bool.and_eq_true]; exact fun h => hc h.1)]; rfl
      obtain ⟨x1, x2, x3⟩ := dAt_end hc
      obtain ⟨x, hx⟩ := Int.eq_ofNat_of_zero_le x2
      rw [x1, hx]
      rw [hx] at x3
      have v1 : IntKind.i64.wrap ((IntKind.i64.wrap ((n : Int) * 16)).tmod 256 + (x : Int)) = ((n * 16 % 256 + x : Nat) : Int) := by
        rw [IntWalk.i64_in ((n : Int) * 16) (by omega), show ((n : Int) * 16).tmod 256 = ((n * 16 % 256 : Nat) : Int) by rw [show (n : Int) * 16 = ((n * 16 : Nat) : Int) by omega]; rfl, IntWalk.i64_in _ (by omega)]; omega
      -- the second digit
      have s2 : (∃ k, rdata_f.H rdata_e [] k 1 [.l (byI d), .b b, .s (tx l), .i ((n * 16 % 256 + x : Nat) : Int), .i ((a.length + 1 + 1 : Nat) : Int), .i (dAt (l.getD (a.length + 1 + 1) 0) 16), .i ((16 : Nat) : Int)] = some ⟨.tup [.c (.ints .u8 (byI (dtD l))), tB (dtB l)], []⟩) →
          ∃ k, rdata_f.H rdata_e [] k 1 [.l (byI d), .b b, .s (tx l), .i (n : Nat), .i ((a.length + 1 : Nat) : Int), .i (x : Int), .i ((16 : Nat) : Int)] = some ⟨.tup [.c (.ints .u8 (byI (dtD l))), tB (dtB l)], []⟩ := fun h => by
        obtain ⟨k, hk⟩ := rdata_inner l (a.length + 1 + 1) (by omega) (byI d) b _ _ 16 0 rfl h
        refine ⟨k + 1 + 1, ?_⟩
        rw [FnD.H_succ, rdata_l1]
        try dsimp only
        rw [v1]
        have wr : IntKind.i64.wrap (((a.length + 1 : Nat) : Int) + 1) = ((a.length + 1 + 1 : Nat) : Int) := by rw [IntWalk.i64_in _ (by omega)]; omega
        have tm : (((a.length + 1 : Nat) : Int)).tmod 2 = 1 := by rw [Int.tmod_eq_emod_of_nonneg (by omega)]; omega
        rw [wr, tm]
        refine condF (by omega) (condF (by omega) (condF (by decide) (condB (by simp) ?_)))
        rw [FnD.H_succ, rdata_l0]
        try dsimp only
        rw [tx_size]
        refine condT (by omega) (condB (by simp) ?_)
        have e0 : dAt (l.getD (a.length + 1 + 1) 0) 0 = -1 := by
          unfold dAt
          by_cases g : isHex (l.getD (a.length + 1 + 1) 0) = true
          · have := hexd_pos g
            rw [if_neg fun e => by have := e.2; omega]
          · rw [if_neg fun e => g e.1]
        rw [e0] at hk
        exact hk
      apply s2
      rw [g1]
      by_cases hc2 : isHex e = true
      case neg =>
        refine ⟨1, ?_⟩
        rw [FnD.H_succ, rdata_l1]
        try dsimp only
        rw [dAt_no hc2]
        refine condF (by omega) (condT (by decide) (dt_no (dt_unh ?_)))
        rw [hun, unhP, if_neg (by simp only [Bool.and_eq_true]; exact fun h => hc2 h.2)]; rfl
      obtain ⟨y1, y2, y3⟩ := dAt_end hc2
      obtain ⟨y, hy⟩ := Int.eq_ofNat_of_zero_le y2
      rw [y1, hy]
      rw [hy] at y3
      have hu2 : unhP (a ++ [c, e]) = some (d ++ [UInt8.ofNat (x * 16 + y)]) := by
        rw [unh_app a _ d hu, unhP, if_pos (by rw [hc, hc2]; rfl), hx, hy, Int.toNat_natCast, Int.toNat_natCast]; rfl
      obtain ⟨k, hk⟩ := ih r (a ++ [c, e]) _ (x * 16 + y) (nlAfter b 1) (by omega) (by rw [hs]; simp) hu2 (by omega) (by rw [List.length_append]; simp only [List.length_cons, List.length_nil]; omega) (by omega)
      refine ⟨k + 1, ?_⟩
      rw [FnD.H_succ, rdata_l1]
      try dsimp only
      have v2 : IntKind.i64.wrap ((IntKind.i64.wrap (((n * 16 % 256 + x : Nat) : Int) * 16)).tmod 256 + (y : Int)) = ((x * 16 + y : Nat) : Int) := by
        rw [IntWalk.i64_in (((n * 16 % 256 + x : Nat) : Int) * 16) (by omega), show (((n * 16 % 256 + x : Nat) : Int) * 16).tmod 256 = (((n * 16 % 256 + x) * 16 % 256 : Nat) : Int) by rw [show ((n * 16 % 256 + x : Nat) : Int) * 16 = (((n * 16 % 256 + x) * 16 : Nat) : Int) by omega]; rfl, IntWalk.i64_in _ (by omega)]; omega
      have wr : IntKind.i64.wrap (((a.length + 1 + 1 : Nat) : Int) + 1) = ((a.length + 1 + 1 + 1 : Nat) : Int) := by rw [IntWalk.i64_in _ (by omega)]; omega
      have tm : (((a.length + 1 + 1 : Nat) : Int)).tmod 2 = 0 := by rw [Int.tmod_eq_emod_of_nonneg (by omega)]; omega
      rw [v2, wr, tm, wrap_u8, Nat.mod_eq_of_lt (show x * 16 + y < 256 by omega)]
      refine condF (by omega) (condF (by omega) (condT rfl ?_))
      refine (push_intsN (z := 1) (n := 1) (room_of (by rw [byI_len]; omega) (by rw [byI_len]; omega)) rfl).trans ?_
      have ed : List.take (byI d).length (byI d) ++ [((x * 16 + y : Nat) : Int)] = byI (d ++ [UInt8.ofNat (x * 16 + y)]) := by
        rw [List.take_length]
        unfold byI
        rw [List.map_append]
        congr 1
        show [_] = [(((UInt8.ofNat (x * 16 + y)).toNat : Nat) : Int)]
        rw [UInt8.toNat_ofNat', Nat.mod_eq_of_lt (by omega)]
      rw [ed]
      rw [List.length_append] at hk
      exact hk
theorem rdata_run (s : ByteArray) (hp : s.size ≤ 100000000) : ∃ fu, rdata_f.run rdata_e [] fu [vS s] [] = some ⟨.tup [.c (.ints .u8 (byI (dtD s.data.toList))), tB (dtB s.data.toList)], []⟩ := by
  obtain ⟨l, rfl, hl⟩ := tx_get s
  rw [tx_size] at hp
  rw [tx_toList]
  by_cases hne : l = []
  · subst hne
    refine ⟨0, ?_⟩
    rw [FnD.run, rdata_ent]
    exact condT rfl (dt_no (by decide))
  have hlp := List.length_pos_iff.2 hne
  by_cases h0 : l.getD 0 0 = 120
  case neg =>
    refine ⟨0, ?_⟩
    rw [FnD.run, rdata_ent, bytes_get, tx_size]
    refine condF (by omega) (condB ((inB_iff _ _).2 (by omega)) (condB ?_ (dt_no ?_)))
    · rw [decide_eq_false (fun e => h0 (by apply UInt8.toNat_inj.1; show (l.getD 0 0).toNat = 120; omega))]; rfl
    · unfold dtB; rw [decide_eq_false h0]; rfl
  have tm : ((l.length : Nat) : Int).tmod 2 = ((l.length % 2 : Nat) : Int) := by rw [Int.tmod_eq_emod_of_nonneg (by omega)]; omega
  by_cases h2 : l.length % 2 = 1
  case neg =>
    refine ⟨0, ?_⟩
    rw [FnD.run, rdata_ent, bytes_get, tx_size, h0, tm]
    refine condF (by omega) (condB ((inB_iff _ _).2 (by omega)) (condN rfl (condB ?_ (dt_no (dt_unh ?_)))))
    · rw [decide_eq_false (by omega)]; rfl
    · exact unh_odd _ (by rw [List.length_drop]; omega)
  obtain ⟨k, hk⟩ := rdata_loop l hp h0 hne (l.drop 1).length (l.drop 1) [] [] 0 true (Nat.le_refl _) rfl rfl (by rw [List.length_drop]; omega) rfl (by omega)
  refine ⟨k, ?_⟩
  rw [FnD.run, rdata_ent, bytes_get, tx_size, h0, tm]
  exact condF (by omega) (condB ((inB_iff _ _).2 (by omega)) (condN rfl (condN (by rw [decide_eq_true (by omega)]; rfl) hk)))
theorem rdata_ok (s : ByteArray) (hp : s.size ≤ 100000000) : FnOk cfg 92 ([vS s].map SV.den) (.tup [.c (.ints .u8 (byI (dtD s.data.toList))), tB (dtB s.data.toList)] : SV).den := by
  obtain ⟨nn, h⟩ := rdata_run s hp
  exact FnD.ok rdata_g rdata_f mixed Tryz.func92 rfl rfl rfl rfl rfl rfl h
noncomputable def c_rdata : SpecF := fun args _ K => match args with
  | [.one (.c (.str s))] => bif decide (s.size ≤ 100000000) then K (.tup [.c (.ints .u8 (byI (dtD s.data.toList))), tB (dtB s.data.toList)]) [] else none
  | _ => none
theorem c_rdata_ok : SpecOk cfg 92 c_rdata := by
  intro args bx K out h
  unfold c_rdata at h
  split at h
  · obtain ⟨hp, h⟩ := bif_some h
    exact ⟨_, _, h, .inl (rdata_ok _ (of_decide_eq_true hp) _), by simp [isTupS]⟩
  · cases h
/-! ### epactref28.ReadLine -/
noncomputable def rrl_e : Ev' := ⟨Tryz.prog, glob, Γof [(88, c_rwords), (89, c_rsmall), (90, c_rnum), (91, c_rbwide), (92, c_rdata)]⟩
theorem rrl_g : Gd cfg rrl_e := gd (env_cons c_rwords_ok (env_cons c_rsmall_ok (env_cons c_rnum_ok (env_cons c_rbwide_ok (env_cons c_rdata_ok (env_nil _))))))
noncomputable def rrl_f : FnD := ⟨40, Tryz.f40, shOf [(0, ⟨128, [], [(2, [.c (.int .i64), .c (.int .i64), .c (.int .i64), .c (.int .i64), .c (.int .u64), .c (.int .i64), .c (.int .i64), .c (.int .i64), .c (.int .i64), .c .bool, .c (.int .i64), .c (.int .i64), .c (.int .i64), .c .nils, .c (.int .i64), .c (.int .u64), .c (.int .i64), .c (.int .u64), .c (.int .i64), .c (.int .i64), .c (.int .i64)]), (5, [.arr .i64 14])], [(2, .c (.ptr 2 0)), (4, .c (.rows [.str])), (5, .c (.ptr 5 0)), (6, .c (.int .i64))]⟩), (1, ⟨128, [], [(2, [.c (.int .i64), .c (.int .i64), .c (.int .i64), .c (.int .i64), .c (.int .u64), .c (.int .i64), .c (.int .i64), .c (.int .i64), .c (.int .i64), .c .bool, .c (.int .i64), .c (.int .i64), .c (.int .i64), .c .nils, .c (.int .i64), .c (.int .u64), .c (.int .i64), .c (.int .u64), .c (.int .i64), .c (.int .i64), .c (.int .i64)]), (5, [.arr .i64 14]), (9, [.c (.int .i64), .c (.int .u64), .c (.int .i64), .c (.int .u64), .c (.int .i64), .c (.int .u64)])], [(2, .c (.ptr 2 0)), (4, .c (.rows [.str])), (5, .c (.ptr 5 0)), (9, .c (.ptr 9 0)), (10, .c (.int .i64))]⟩)], Tryz.f40.resultTypes.toList, 0⟩
theorem rrl_ent (h : Hd) (s : ByteArray) : rrl_f.ent rrl_e [] h [vS s] [] = bif decide (s.size ≤ (100000000 : Nat)) then bif !decide ((↑(List.map (fun l => [D.s (tx l)]) (splitW s.data.toList)).length : Int) = (18 : Int)) then ret (SV.tup [S1.agg [gI (0 : Int), gI (0 : Int), gI (0 : Int), gI (0 : Int), gU (0 : Int), gI (0 : Int), gI (0 : Int), gI (0 : Int), gI (0 : Int), Sg.c (Cl.bool false), gI (0 : Int), gI (0 : Int), gI (0 : Int), Sg.c (Cl.ints IntKind.u8 []), gI (0 : Int), gU (0 : Int), gI (0 : Int), gU (0 : Int), gI (0 : Int), gI (0 : Int), gI (0 : Int)], S1.c (Cl.bool false)]) else h (0 : Nat) [Lf.i (0 : Int), Lf.i (0 : Int), Lf.i (0 : Int), Lf.i (0 : Int), Lf.i (0 : Int), Lf.i (0 : Int), Lf.i (0 : Int), Lf.i (0 : Int), Lf.i (0 : Int), Lf.b false, Lf.i (0 : Int), Lf.i (0 : Int), Lf.i (0 : Int), Lf.i (0 : Int), Lf.i (0 : Int), Lf.i (0 : Int), Lf.i (0 : Int), Lf.i (0 : Int), Lf.i (0 : Int), Lf.i (0 : Int), Lf.l [(0 : Int), (0 : Int), (0 : Int), (0 : Int), (0 : Int), (0 : Int), (0 : Int), (0 : Int), (0 : Int), (0 : Int), (0 : Int), (0 : Int), (0 : Int), (0 : Int)], Lf.r (List.map (fun l => [D.s (tx l)]) (splitW s.data.toList)), Lf.i (0 : Int)] else none := by kernel_rfl
theorem rrl_l0 (h : Hd) (i0 : Int) (i1 : Int) (i2 : Int) (i3 : Int) (i4 : Int) (i5 : Int) (i6 : Int) (i7 : Int) (i8 : Int) (b9 : Bool) (i10 : Int) (i11 : Int) (i12 : Int) (i13 : Int) (i14 : Int) (i15 : Int) (i16 : Int) (i17 : Int) (i18 : Int) (i19 : Int) (l20 : List Int) (r21 : List (List D)) (i22 : Int) : rrl_f.seg rrl_e [] h 0 [.i i0, .i i1, .i i2, .i i3, .i i4, .i i5, .i i6, .i i7, .i i8, .b b9, .i i10, .i i11, .i i12, .i i13, .i i14, .i i15, .i i16, .i i17, .i i18, .i i19, .l l20, .r r21, .i i22] = let v1 : List UInt8 := ((r21.getD i22.toNat []).getD (0 : Nat) (D.i (0 : Int))).toS.data.toList; bif decide (i22 < (14 : Int)) then bif inB i22 r21.length then bif decide (((r21.getD i22.toNat []).getD (0 : Nat) (D.i (0 : Int))).toS.size ≤ (100000000 : Nat)) then bif !smB v1 then ret (SV.tup [S1.agg [gI (0 : Int), gI (0 : Int), gI (0 : Int), gI (0 : Int), gU (0 : Int), gI (0 : Int), gI (0 : Int), gI (0 : Int), gI (0 : Int), Sg.c (Cl.bool false), gI (0 : Int), gI (0 : Int), gI (0 : Int), Sg.c (Cl.ints IntKind.u8 []), gI (0 : Int), gU (0 : Int), gI (0 : Int), gU (0 : Int), gI (0 : Int), gI (0 : Int), gI (0 : Int)], S1.c (Cl.bool false)]) else bif inB i22 (14 : Nat) then bif decide (i22.toNat < (14 : Nat)) then h (0 : Nat) [Lf.i i0, Lf.i i1, Lf.i i2, Lf.i i3, Lf.i i4, Lf.i i5, Lf.i i6, Lf.i i7, Lf.i i8, Lf.b b9, Lf.i i10, Lf.i i11, Lf.i i12, Lf.i i13, Lf.i i14, Lf.i i15, Lf.i i16, Lf.i i17, Lf.i i18, Lf.i i19, Lf.l (setD (14 : Nat) l20 i22.toNat (smV v1)), Lf.r r21, Lf.i (IntKind.i64.wrap (i22 + (1 : Int)))] else none else none else none else none else h (1 : Nat) [Lf.i i0, Lf.i i1, Lf.i i2, Lf.i i3, Lf.i i4, Lf.i i5, Lf.i i6, Lf.i i7, Lf.i i8, Lf.b b9, Lf.i i10, Lf.i i11, Lf.i i12, Lf.i i13, Lf.i i14, Lf.i i15, Lf.i i16, Lf.i i17, Lf.i i18, Lf.i i19, Lf.l l20, Lf.i (0 : Int), Lf.i (0 : Int), Lf.i (0 : Int), Lf.i (0 : Int), Lf.i (0 : Int), Lf.i (0 : Int), Lf.r r21, Lf.i (0 : Int)] := by kernel_rfl
theorem rrl_l1_0 (h : Hd) (i0 : Int) (i1 : Int) (i2 : Int) (i3 : Int) (i4 : Int) (i5 : Int) (i6 : Int) (i7 : Int) (i8 : Int) (b9 : Bool) (i10 : Int) (i11 : Int) (i12 : Int) (i13 : Int) (i14 : Int) (i15 : Int) (i16 : Int) (i17 : Int) (i18 : Int) (i19 : Int) (l20 : List Int) (i21 : Int) (i22 : Int) (i23 : Int) (i24 : Int) (i25 : Int) (i26 : Int) (r27 : List (List D)) : rrl_f.seg rrl_e [] h 1 [.i i0, .i i1, .i i2, .i i3, .i i4, .i i5, .i i6, .i i7, .i i8, .b b9, .i i10, .i i11, .i i12, .i i13, .i i14, .i i15, .i i16, .i i17, .i i18, .i i19, .l l20, .i i21, .i i22, .i i23, .i i24, .i i25, .i i26, .r r27, .i 0] = let v1 : ByteArray := ((r27.getD (14 : Nat) []).getD (0 : Nat) (D.i (0 : Int))).toS; let v2 : Nat := v1.size; let v3 : List UInt8 := v1.data.toList; let v4 : Int := if formL v3 = true then numL v3 else (0 : Int); let v5 : List Int := bigD v4.natAbs; let v6 : Nat := v5.length; let v7 : Int := bV (decide (v4 < (0 : Int))) v5; let v8 : Int := clip v7; bif inB (IntKind.i64.wrap ((14 : Int) + (0 : Int))) r27.length then bif decide (v2 ≤ (100000000 : Nat)) then bif decide (isBig (decide (v4 < (0 : Int))) v5 ∧ v6 ≤ (1000000000 : Nat)) then bif !formL v3 then ret (SV.tup [S1.agg [gI (0 : Int), gI (0 : Int), gI (0 : Int), gI (0 : Int), gU (0 : Int), gI (0 : Int), gI (0 : Int), gI (0 : Int), gI (0 : Int), Sg.c (Cl.bool false), gI (0 : Int), gI (0 : Int), gI (0 : Int), Sg.c (Cl.ints IntKind.u8 []), gI (0 : Int), gU (0 : Int), gI (0 : Int), gU (0 : Int), gI (0 : Int), gI (0 : Int), gI (0 : Int)], S1.c (Cl.bool false)]) else bif !decide (isI v7) then ret (SV.tup [S1.agg [gI (0 : Int), gI (0 : Int), gI (0 : Int), gI (0 : Int), gU (0 : Int), gI (0 : Int), gI (0 : Int), gI (0 : Int), gI (0 : Int), Sg.c (Cl.bool false), gI (0 : Int), gI (0 : Int), gI (0 : Int), Sg.c (Cl.ints IntKind.u8 []), gI (0 : Int), gU (0 : Int), gI (0 : Int), gU (0 : Int), gI (0 : Int), gI (0 : Int), gI (0 : Int)], S1.c (Cl.bool false)]) else h (1 : Nat) [Lf.i i0, Lf.i i1, Lf.i i2, Lf.i i3, Lf.i i4, Lf.i i5, Lf.i i6, Lf.i i7, Lf.i i8, Lf.b b9, Lf.i i10, Lf.i i11, Lf.i i12, Lf.i i13, Lf.i i14, Lf.i i15, Lf.i i16, Lf.i i17, Lf.i i18, Lf.i i19, Lf.l l20, Lf.i (wHi v8), Lf.i (wLo v8), Lf.i i23, Lf.i i24, Lf.i i25, Lf.i i26, Lf.r r27, Lf.i (IntKind.i64.wrap ((0 : Int) + (1 : Int)))] else none else none else none := by kernel_rfl
theorem rrl_l1_1 (h : Hd) (i0 : Int) (i1 : Int) (i2 : Int) (i3 : Int) (i4 : Int) (i5 : Int) (i6 : Int) (i7 : Int) (i8 : Int) (b9 : Bool) (i10 : Int) (i11 : Int) (i12 : Int) (i13 : Int) (i14 : Int) (i15 : Int) (i16 : Int) (i17 : Int) (i18 : Int) (i19 : Int) (l20 : List Int) (i21 : Int) (i22 : Int) (i23 : Int) (i24 : Int) (i25 : Int) (i26 : Int) (r27 : List (List D)) : rrl_f.seg rrl_e [] h 1 [.i i0, .i i1, .i i2, .i i3, .i i4, .i i5, .i i6, .i i7, .i i8, .b b9, .i i10, .i i11, .i i12, .i i13, .i i14, .i i15, .i i16, .i i17, .i i18, .i i19, .l l20, .i i21, .i i22, .i i23, .i i24, .i i25, .i i26, .r r27, .i 1] = let v1 : ByteArray := ((r27.getD (15 : Nat) []).getD (0 : Nat) (D.i (0 : Int))).toS; let v2 : Nat := v1.size; let v3 : List UInt8 := v1.data.toList; let v4 : Int := if formL v3 = true then numL v3 else (0 : Int); let v5 : List Int := bigD v4.natAbs; let v6 : Nat := v5.length; let v7 : Int := bV (decide (v4 < (0 : Int))) v5; let v8 : Int := clip v7; bif inB (IntKind.i64.wrap ((14 : Int) + (1 : Int))) r27.length then bif decide (v2 ≤ (100000000 : Nat)) then bif decide (isBig (decide (v4 < (0 : Int))) v5 ∧ v6 ≤ (1000000000 : Nat)) then bif !formL v3 then ret (SV.tup [S1.agg [gI (0 : Int), gI (0 : Int), gI (0 : Int), gI (0 : Int), gU (0 : Int), gI (0 : Int), gI (0 : Int), gI (0 : Int), gI (0 : Int), Sg.c (Cl.bool false), gI (0 : Int), gI (0 : Int), gI (0 : Int), Sg.c (Cl.ints IntKind.u8 []), gI (0 : Int), gU (0 : Int), gI (0 : Int), gU (0 : Int), gI (0 : Int), gI (0 : Int), gI (0 : Int)], S1.c (Cl.bool false)]) else bif !decide (isI v7) then ret (SV.tup [S1.agg [gI (0 : Int), gI (0 : Int), gI (0 : Int), gI (0 : Int), gU (0 : Int), gI (0 : Int), gI (0 : Int), gI (0 : Int), gI (0 : Int), Sg.c (Cl.bool false), gI (0 : Int), gI (0 : Int), gI (0 : Int), Sg.c (Cl.ints IntKind.u8 []), gI (0 : Int), gU (0 : Int), gI (0 : Int), gU (0 : Int), gI (0 : Int), gI (0 : Int), gI (0 : Int)], S1.c (Cl.bool false)]) else h (1 : Nat) [Lf.i i0, Lf.i i1, Lf.i i2, Lf.i i3, Lf.i i4, Lf.i i5, Lf.i i6, Lf.i i7, Lf.i i8, Lf.b b9, Lf.i i10, Lf.i i11, Lf.i i12, Lf.i i13, Lf.i i14, Lf.i i15, Lf.i i16, Lf.i i17, Lf.i i18, Lf.i i19, Lf.l l20, Lf.i i21, Lf.i i22, Lf.i (wHi v8), Lf.i (wLo v8), Lf.i i25, Lf.i i26, Lf.r r27, Lf.i (IntKind.i64.wrap ((1 : Int) + (1 : Int)))] else none else none else none := by kernel_rfl
theorem rrl_l1_2 (h : Hd) (i0 : Int) (i1 : Int) (i2 : Int) (i3 : Int) (i4 : Int) (i5 : Int) (i6 : Int) (i7 : Int) (i8 : Int) (b9 : Bool) (i10 : Int) (i11 : Int) (i12 : Int) (i13 : Int) (i14 : Int) (i15 : Int) (i16 : Int) (i17 : Int) (i18 : Int) (i19 : Int) (l20 : List Int) (i21 : Int) (i22 : Int) (i23 : Int) (i24 : Int) (i25 : Int) (i26 : Int) (r27 : List (List D)) : rrl_f.seg rrl_e [] h 1 [.i i0, .i i1, .i i2, .i i3, .i i4, .i i5, .i i6, .i i7, .i i8, .b b9, .i i10, .i i11, .i i12, .i i13, .i i14, .i i15, .i i16, .i i17, .i i18, .i i19, .l l20, .i i21, .i i22, .i i23, .i i24, .i i25, .i i26, .r r27, .i 2] = let v1 : ByteArray := ((r27.getD (16 : Nat) []).getD (0 : Nat) (D.i (0 : Int))).toS; let v2 : Nat := v1.size; let v3 : List UInt8 := v1.data.toList; let v4 : Int := if formL v3 = true then numL v3 else (0 : Int); let v5 : List Int := bigD v4.natAbs; let v6 : Nat := v5.length; let v7 : Int := bV (decide (v4 < (0 : Int))) v5; let v8 : Int := clip v7; bif inB (IntKind.i64.wrap ((14 : Int) + (2 : Int))) r27.length then bif decide (v2 ≤ (100000000 : Nat)) then bif decide (isBig (decide (v4 < (0 : Int))) v5 ∧ v6 ≤ (1000000000 : Nat)) then bif !formL v3 then ret (SV.tup [S1.agg [gI (0 : Int), gI (0 : Int), gI (0 : Int), gI (0 : Int), gU (0 : Int), gI (0 : Int), gI (0 : Int), gI (0 : Int), gI (0 : Int), Sg.c (Cl.bool false), gI (0 : Int), gI (0 : Int), gI (0 : Int), Sg.c (Cl.ints IntKind.u8 []), gI (0 : Int), gU (0 : Int), gI (0 : Int), gU (0 : Int), gI (0 : Int), gI (0 : Int), gI (0 : Int)], S1.c (Cl.bool false)]) else bif !decide (isI v7) then ret (SV.tup [S1.agg [gI (0 : Int), gI (0 : Int), gI (0 : Int), gI (0 : Int), gU (0 : Int), gI (0 : Int), gI (0 : Int), gI (0 : Int), gI (0 : Int), Sg.c (Cl.bool false), gI (0 : Int), gI (0 : Int), gI (0 : Int), Sg.c (Cl.ints IntKind.u8 []), gI (0 : Int), gU (0 : Int), gI (0 : Int), gU (0 : Int), gI (0 : Int), gI (0 : Int), gI (0 : Int)], S1.c (Cl.bool false)]) else h (1 : Nat) [Lf.i i0, Lf.i i1, Lf.i i2, Lf.i i3, Lf.i i4, Lf.i i5, Lf.i i6, Lf.i i7, Lf.i i8, Lf.b b9, Lf.i i10, Lf.i i11, Lf.i i12, Lf.i i13, Lf.i i14, Lf.i i15, Lf.i i16, Lf.i i17, Lf.i i18, Lf.i i19, Lf.l l20, Lf.i i21, Lf.i i22, Lf.i i23, Lf.i i24, Lf.i (wHi v8), Lf.i (wLo v8), Lf.r r27, Lf.i (IntKind.i64.wrap ((2 : Int) + (1 : Int)))] else none else none else none := by kernel_rfl
theorem rrl_l1_3 (h : Hd) (i0 : Int) (i1 : Int) (i2 : Int) (i3 : Int) (i4 : Int) (i5 : Int) (i6 : Int) (i7 : Int) (i8 : Int) (b9 : Bool) (i10 : Int) (i11 : Int) (i12 : Int) (i13 : Int) (i14 : Int) (i15 : Int) (i16 : Int) (i17 : Int) (i18 : Int) (i19 : Int) (l20 : List Int) (i21 : Int) (i22 : Int) (i23 : Int) (i24 : Int) (i25 : Int) (i26 : Int) (r27 : List (List D)) : rrl_f.seg rrl_e [] h 1 [.i i0, .i i1, .i i2, .i i3, .i i4, .i i5, .i i6, .i i7, .i i8, .b b9, .i i10, .i i11, .i i12, .i i13, .i i14, .i i15, .i i16, .i i17, .i i18, .i i19, .l l20, .i i21, .i i22, .i i23, .i i24, .i i25, .i i26, .r r27, .i 3] = let v1 : ByteArray := ((r27.getD (17 : Nat) []).getD (0 : Nat) (D.i (0 : Int))).toS; let v2 : Nat := v1.size; let v3 : List UInt8 := v1.data.toList; let v4 : List Int := byI (dtD v3); bif inB (17 : Int) r27.length then bif decide (v2 ≤ (100000000 : Nat)) then bif !dtB v3 then ret (SV.tup [S1.agg [gI (0 : Int), gI (0 : Int), gI (0 : Int), gI (0 : Int), gU (0 : Int), gI (0 : Int), gI (0 : Int), gI (0 : Int), gI (0 : Int), Sg.c (Cl.bool false), gI (0 : Int), gI (0 : Int), gI (0 : Int), Sg.c (Cl.ints IntKind.u8 []), gI (0 : Int), gU (0 : Int), gI (0 : Int), gU (0 : Int), gI (0 : Int), gI (0 : Int), gI (0 : Int)], S1.c (Cl.bool false)]) else bif !decide (l20.getD (4 : Nat) (0 : Int) = (0 : Int)) then bif !decide (l20.getD (4 : Nat) (0 : Int) = (1 : Int)) then ret (SV.tup [S1.agg [gI (0 : Int), gI (0 : Int), gI (0 : Int), gI (0 : Int), gU (0 : Int), gI (0 : Int), gI (0 : Int), gI (0 : Int), gI (0 : Int), Sg.c (Cl.bool false), gI (0 : Int), gI (0 : Int), gI (0 : Int), Sg.c (Cl.ints IntKind.u8 []), gI (0 : Int), gU (0 : Int), gI (0 : Int), gU (0 : Int), gI (0 : Int), gI (0 : Int), gI (0 : Int)], S1.c (Cl.bool false)]) else ret (SV.tup [S1.agg [gI (l20.getD (0 : Nat) (0 : Int)), gI (l20.getD (1 : Nat) (0 : Int)), gI (l20.getD (2 : Nat) (0 : Int)), gI i21, gU i22, gI (l20.getD (8 : Nat) (0 : Int)), gI (l20.getD (9 : Nat) (0 : Int)), gI (l20.getD (10 : Nat) (0 : Int)), gI (l20.getD (3 : Nat) (0 : Int)), Sg.c (Cl.bool (decide (l20.getD (4 : Nat) (0 : Int) = (1 : Int)))), gI (l20.getD (5 : Nat) (0 : Int)), gI (l20.getD (6 : Nat) (0 : Int)), gI (l20.getD (7 : Nat) (0 : Int)), Sg.c (Cl.ints IntKind.u8 v4), gI i23, gU i24, gI i25, gU i26, gI (l20.getD (11 : Nat) (0 : Int)), gI (l20.getD (12 : Nat) (0 : Int)), gI (l20.getD (13 : Nat) (0 : Int))], S1.c (Cl.bool true)]) else ret (SV.tup [S1.agg [gI (l20.getD (0 : Nat) (0 : Int)), gI (l20.getD (1 : Nat) (0 : Int)), gI (l20.getD (2 : Nat) (0 : Int)), gI i21, gU i22, gI (l20.getD (8 : Nat) (0 : Int)), gI (l20.getD (9 : Nat) (0 : Int)), gI (l20.getD (10 : Nat) (0 : Int)), gI (l20.getD (3 : Nat) (0 : Int)), Sg.c (Cl.bool (decide (l20.getD (4 : Nat) (0 : Int) = (1 : Int)))), gI (l20.getD (5 : Nat) (0 : Int)), gI (l20.getD (6 : Nat) (0 : Int)), gI (l20.getD (7 : Nat) (0 : Int)), Sg.c (Cl.ints IntKind.u8 v4), gI i23, gU i24, gI i25, gU i26, gI (l20.getD (11 : Nat) (0 : Int)), gI (l20.getD (12 : Nat) (0 : Int)), gI (l20.getD (13 : Nat) (0 : Int))], S1.c (Cl.bool true)]) else none else none := by kernel_rfl

theorem rrl_no {l : List UInt8} (h : rlB l = false) : (ret (.tup [.agg [gI 0, gI 0, gI 0, gI 0, gU 0, gI 0, gI 0, gI 0, gI 0, .c (.bool false), gI 0, gI 0, gI 0, .c (.ints .u8 []), gI 0, gU 0, gI 0, gU 0, gI 0, gI 0, gI 0], .c (.bool false)]) : Option Out) = some ⟨.tup [.agg [gI ((rlN l).getD 0 0), gI ((rlN l).getD 1 0), gI ((rlN l).getD 2 0), gI ((rlW l).getD 0 0), gU ((rlW l).getD 1 0), gI ((rlN l).getD 8 0), gI ((rlN l).getD 9 0), gI ((rlN l).getD 10 0), gI ((rlN l).getD 3 0), .c (.bool (rlX l)), gI ((rlN l).getD 5 0), gI ((rlN l).getD 6 0), gI ((rlN l).getD 7 0), .c (.ints .u8 (byI (rlD l))), gI ((rlW l).getD 2 0), gU ((rlW l).getD 3 0), gI ((rlW l).getD 4 0), gU ((rlW l).getD 5 0), gI ((rlN l).getD 11 0), gI ((rlN l).getD 12 0), gI ((rlN l).getD 13 0)], tB (rlB l)], []⟩ := by
  have hN : rlN l = List.replicate 14 0 := by unfold rlN; rw [h]; rfl
  have hW : rlW l = List.replicate 6 0 := by unfold rlW; rw [h]; rfl
  have hD : rlD l = [] := by unfold rlD; rw [h]; rfl
  have hX : rlX l = false := by unfold rlX; rw [h]; rfl
  rw [hN, hW, hD, hX, h]; rfl
theorem rl_bad {l : List UInt8} (i : Nat) (hi : i < 18) (h18 : (splitW l).length = 18) (h : (i < 14 ∧ smB ((splitW l).getD i []) = false) ∨ (14 ≤ i ∧ i < 17 ∧ wdB ((splitW l).getD i []) = false) ∨ (i = 17 ∧ dtB ((splitW l).getD i []) = false) ∨ (i = 4 ∧ smV ((splitW l).getD 4 []) ≠ 0 ∧ smV ((splitW l).getD 4 []) ≠ 1)) : rlB l = false := by
  rw [Bool.eq_false_iff]
  intro hb
  unfold rlB at hb
  simp only [Bool.and_eq_true, Bool.or_eq_true, decide_eq_true_eq] at hb
  obtain ⟨_, hs, hw, hd, h4⟩ := hb
  rw [List.all_eq_true] at hs hw
  have hg : (splitW l).getD i [] = (splitW l)[i] := by rw [List.getD_eq_getElem?_getD, List.getElem?_eq_getElem (by omega)]; rfl
  rcases h with ⟨h1, h2⟩ | ⟨h1, h2, h3⟩ | ⟨h1, h2⟩ | ⟨_, h1, h2⟩
  · have hm : (splitW l).getD i [] ∈ (splitW l).take 14 := by
      rw [hg, ← List.getElem_take (j := 14) (h := by rw [List.length_take]; omega)]
      exact List.getElem_mem _
    rw [hs _ hm] at h2; cases h2
  · have hm : (splitW l).getD i [] ∈ ((splitW l).drop 14).take 3 := by
      have e : (splitW l)[i] = (((splitW l).drop 14).take 3)[i - 14]'(by rw [List.length_take, List.length_drop]; omega) := by
        rw [List.getElem_take, List.getElem_drop]
        congr 1
        omega
      rw [hg, e]
      exact List.getElem_mem _
    rw [hw _ hm] at h3; cases h3
  · subst h1
    rw [hd] at h2; cases h2
  · rcases h4 with h4 | h4
    · exact h1 h4
    · exact h2 h4
theorem big0 : (bigD (Int.natAbs 0)).length ≤ 1000000000 := lenBg (by simp)
theorem rrl_fin (l : List UInt8) (hl : l.length ≤ 100000000) (h18 : (splitW l).length = 18) (hws : ∀ w ∈ splitW l, w.length ≤ l.length) (hall : ((splitW l).take 14).all smB = true) (k : Nat) :
    rrl_f.H rrl_e [] (k + 4) 1 [.i 0, .i 0, .i 0, .i 0, .i 0, .i 0, .i 0, .i 0, .i 0, .b false, .i 0, .i 0, .i 0, .i 0, .i 0, .i 0, .i 0, .i 0, .i 0, .i 0, .l (((splitW l).take 14).map smV), .i 0, .i 0, .i 0, .i 0, .i 0, .i 0, .r (rowW (splitW l)), .i 0] = some ⟨.tup [.agg [gI ((rlN l).getD 0 0), gI ((rlN l).getD 1 0), gI ((rlN l).getD 2 0), gI ((rlW l).getD 0 0), gU ((rlW l).getD 1 0), gI ((rlN l).getD 8 0), gI ((rlN l).getD 9 0), gI ((rlN l).getD 10 0), gI ((rlN l).getD 3 0), .c (.bool (rlX l)), gI ((rlN l).getD 5 0), gI ((rlN l).getD 6 0), gI ((rlN l).getD 7 0), .c (.ints .u8 (byI (rlD l))), gI ((rlW l).getD 2 0), gU ((rlW l).getD 3 0), gI ((rlW l).getD 4 0), gU ((rlW l).getD 5 0), gI ((rlN l).getD 11 0), gI ((rlN l).getD 12 0), gI ((rlN l).getD 13 0)], tB (rlB l)], []⟩ := by
  have hsz : ∀ i, i < 18 → ((splitW l).getD i []).length ≤ 100000000 := fun i hi => by
    rw [List.getD_eq_getElem?_getD, List.getElem?_eq_getElem (by omega)]
    exact Nat.le_trans (hws _ (List.getElem_mem _)) hl
  have hin : ∀ i : Nat, i < 18 → inB (i : Int) (rowW (splitW l)).length = true := fun i hi => (inB_iff _ _).2 (by rw [rowW_len]; omega)
  have v0 : IntKind.i64.wrap (14 + 0) = ((14 : Nat) : Int) := by decide
  have v1 : IntKind.i64.wrap (14 + 1) = ((15 : Nat) : Int) := by decide
  have v2 : IntKind.i64.wrap (14 + 2) = ((16 : Nat) : Int) := by decide
  have w1 : IntKind.i64.wrap (0 + 1) = 1 := by decide
  have w2 : IntKind.i64.wrap (1 + 1) = 2 := by decide
  have w3 : IntKind.i64.wrap (2 + 1) = 3 := by decide
  rw [FnD.H_succ, rrl_l1_0]
  dsimp only
  rw [rowW_at (by omega), tx_toList, tx_size, bV_mk, v0, w1]
  refine condB (hin 14 (by decide)) (condT (hsz 14 (by decide)) ?_)
  cases f0 : formL ((splitW l).getD 14 []) with
  | false =>
    rw [if_neg (by simp)]
    exact condT ⟨(isBig_mk _).1, big0⟩ (condB rfl (rrl_no (rl_bad 14 (by decide) h18 (.inr (.inl ⟨by decide, by decide, by unfold wdB; rw [f0]; rfl⟩)))))
  | true =>
  rw [if_pos rfl]
  refine condT ⟨(isBig_mk _).1, num_big f0 (hsz 14 (by decide))⟩ (condN rfl ?_)
  by_cases i0 : isI (numL ((splitW l).getD 14 []))
  case neg => exact condB (by rw [decide_eq_false i0]; rfl) (rrl_no (rl_bad 14 (by decide) h18 (.inr (.inl ⟨by decide, by decide, by unfold wdB; rw [f0, decide_eq_false i0]; rfl⟩))))
  refine condN (by rw [decide_eq_true i0]; rfl) ?_
  rw [FnD.H_succ, rrl_l1_1]
  dsimp only
  rw [rowW_at (by omega), tx_toList, tx_size, bV_mk, v1, w2]
  refine condB (hin 15 (by decide)) (condT (hsz 15 (by decide)) ?_)
  cases f1 : formL ((splitW l).getD 15 []) with
  | false =>
    rw [if_neg (by simp)]
    exact condT ⟨(isBig_mk _).1, big0⟩ (condB rfl (rrl_no (rl_bad 15 (by decide) h18 (.inr (.inl ⟨by decide, by decide, by unfold wdB; rw [f1]; rfl⟩)))))
  | true =>
  rw [if_pos rfl]
  refine condT ⟨(isBig_mk _).1, num_big f1 (hsz 15 (by decide))⟩ (condN rfl ?_)
  by_cases i1 : isI (numL ((splitW l).getD 15 []))
  case neg => exact condB (by rw [decide_eq_false i1]; rfl) (rrl_no (rl_bad 15 (by decide) h18 (.inr (.inl ⟨by decide, by decide, by unfold wdB; rw [f1, decide_eq_false i1]; rfl⟩))))
  refine condN (by rw [decide_eq_true i1]; rfl) ?_
  rw [FnD.H_succ, rrl_l1_2]
  dsimp only
  rw [rowW_at (by omega), tx_toList, tx_size, bV_mk, v2, w3]
  refine condB (hin 16 (by decide)) (condT (hsz 16 (by decide)) ?_)
  cases f2 : formL ((splitW l).getD 16 []) with
  | false =>
    rw [if_neg (by simp)]
    exact condT ⟨(isBig_mk _).1, big0⟩ (condB rfl (rrl_no (rl_bad 16 (by decide) h18 (.inr (.inl ⟨by decide, by decide, by unfold wdB; rw [f2]; rfl⟩)))))
  | true =>
  rw [if_pos rfl]
  refine condT ⟨(isBig_mk _).1, num_big f2 (hsz 16 (by decide))⟩ (condN rfl ?_)
  by_cases i2 : isI (numL ((splitW l).getD 16 []))
  case neg => exact condB (by rw [decide_eq_false i2]; rfl) (rrl_no (rl_bad 16 (by decide) h18 (.inr (.inl ⟨by decide, by decide, by unfold wdB; rw [f2, decide_eq_false i2]; rfl⟩))))
  refine condN (by rw [decide_eq_true i2]; rfl) ?_
  rw [FnD.H_succ, rrl_l1_3]
  dsimp only
  rw [rowW_at (by omega), tx_toList, tx_size]
  refine condB (hin 17 (by decide)) (condT (hsz 17 (by decide)) ?_)
  cases d3 : dtB ((splitW l).getD 17 []) with
  | false => exact condB rfl (rrl_no (rl_bad 17 (by decide) h18 (.inr (.inr (.inl ⟨rfl, d3⟩)))))
  | true =>
  refine condN rfl ?_
  have l14 : ((splitW l).take 14).length = 14 := by rw [List.length_take]; omega
  have t3 : ((splitW l).drop 14).take 3 = [(splitW l).getD 14 [], (splitW l).getD 15 [], (splitW l).getD 16 []] := by
    have g : ∀ i (hi : i < 18), (splitW l).getD i [] = (splitW l)[i] := fun i hi => by rw [List.getD_eq_getElem?_getD, List.getElem?_eq_getElem (by omega)]; rfl
    rw [g 14 (by decide), g 15 (by decide), g 16 (by decide), List.drop_eq_getElem_cons (by omega), List.drop_eq_getElem_cons (by omega), List.drop_eq_getElem_cons (by omega)]
    rfl
  have e4 : (((splitW l).take 14).map smV).getD 4 0 = smV ((splitW l).getD 4 []) := by
    rw [getD_map_lt smV _ 4 [] 0 (by omega), List.getD_eq_getElem?_getD, List.getElem?_take_of_lt (by decide), ← List.getD_eq_getElem?_getD]
  have hwd : (((splitW l).drop 14).take 3).all wdB = true := by
    rw [t3]
    simp only [List.all_cons, List.all_nil, Bool.and_true]
    unfold wdB
    rw [f0, f1, f2, decide_eq_true i0, decide_eq_true i1, decide_eq_true i2]; rfl
  have yes : (smV ((splitW l).getD 4 []) = 0 ∨ smV ((splitW l).getD 4 []) = 1) → rlB l = true := fun h4 => by
    unfold rlB
    rw [hall, hwd, d3, h18]
    rcases h4 with h4 | h4 <;> rw [h4] <;> rfl
  have fin : rlB l = true → (ret (.tup [.agg [gI ((((splitW l).take 14).map smV).getD 0 0), gI ((((splitW l).take 14).map smV).getD 1 0), gI ((((splitW l).take 14).map smV).getD 2 0), gI (wHi (clip (numL ((splitW l).getD 14 [])))), gU (wLo (clip (numL ((splitW l).getD 14 [])))), gI ((((splitW l).take 14).map smV).getD 8 0), gI ((((splitW l).take 14).map smV).getD 9 0), gI ((((splitW l).take 14).map smV).getD 10 0), gI ((((splitW l).take 14).map smV).getD 3 0), .c (.bool (decide ((((splitW l).take 14).map smV).getD 4 0 = 1))), gI ((((splitW l).take 14).map smV).getD 5 0), gI ((((splitW l).take 14).map smV).getD 6 0), gI ((((splitW l).take 14).map smV).getD 7 0), .c (.ints .u8 (byI (dtD ((splitW l).getD 17 [])))), gI (wHi (clip (numL ((splitW l).getD 15 [])))), gU (wLo (clip (numL ((splitW l).getD 15 [])))), gI (wHi (clip (numL ((splitW l).getD 16 [])))), gU (wLo (clip (numL ((splitW l).getD 16 [])))), gI ((((splitW l).take 14).map smV).getD 11 0), gI ((((splitW l).take 14).map smV).getD 12 0), gI ((((splitW l).take 14).map smV).getD 13 0)], .c (.bool true)]) : Option Out) = some ⟨.tup [.agg [gI ((rlN l).getD 0 0), gI ((rlN l).getD 1 0), gI ((rlN l).getD 2 0), gI ((rlW l).getD 0 0), gU ((rlW l).getD 1 0), gI ((rlN l).getD 8 0), gI ((rlN l).getD 9 0), gI ((rlN l).getD 10 0), gI ((rlN l).getD 3 0), .c (.bool (rlX l)), gI ((rlN l).getD 5 0), gI ((rlN l).getD 6 0), gI ((rlN l).getD 7 0), .c (.ints .u8 (byI (rlD l))), gI ((rlW l).getD 2 0), gU ((rlW l).getD 3 0), gI ((rlW l).getD 4 0), gU ((rlW l).getD 5 0), gI ((rlN l).getD 11 0), gI ((rlN l).getD 12 0), gI ((rlN l).getD 13 0)], tB (rlB l)], []⟩ := fun hb => by
    have hN : rlN l = ((splitW l).take 14).map smV := by unfold rlN; rw [hb]; rfl
    have hW : rlW l = [wHi (numL ((splitW l).getD 14 [])), wLo (numL ((splitW l).getD 14 [])), wHi (numL ((splitW l).getD 15 [])), wLo (numL ((splitW l).getD 15 [])), wHi (numL ((splitW l).getD 16 [])), wLo (numL ((splitW l).getD 16 []))] := by unfold rlW; rw [hb, t3]; rfl
    have hD : rlD l = dtD ((splitW l).getD 17 []) := by unfold rlD; rw [hb]; rfl
    have hX : rlX l = decide ((((splitW l).take 14).map smV).getD 4 0 = 1) := by unfold rlX; rw [hb, hN]; rfl
    have c0 : clip (numL ((splitW l).getD 14 [])) = numL ((splitW l).getD 14 []) := if_pos i0
    have c1' : clip (numL ((splitW l).getD 15 [])) = numL ((splitW l).getD 15 []) := if_pos i1
    have c2 : clip (numL ((splitW l).getD 16 [])) = numL ((splitW l).getD 16 []) := if_pos i2
    rw [hN, hW, hD, hX, hb, c0, c1', c2]; rfl
  by_cases z0 : smV ((splitW l).getD 4 []) = 0
  · refine condN (by rw [e4, decide_eq_true z0]; rfl) ?_
    exact fin (yes (.inl z0))
  · refine condB (by rw [e4, decide_eq_false z0]; rfl) ?_
    by_cases z1 : smV ((splitW l).getD 4 []) = 1
    · refine condN (by rw [e4, decide_eq_true z1]; rfl) ?_
      exact fin (yes (.inr z1))
    · exact condB (by rw [e4, decide_eq_false z1]; rfl) (rrl_no (rl_bad 4 (by decide) h18 (.inr (.inr (.inr ⟨rfl, z0, z1⟩)))))
theorem rrl_loop (l : List UInt8) (hl : l.length ≤ 100000000) (h18 : (splitW l).length = 18) (hws : ∀ w ∈ splitW l, w.length ≤ l.length) : ∀ (k i : Nat) (out : List Int), i + k = 14 → out.length = 14 → out.take i = ((splitW l).take i).map smV → ((splitW l).take i).all smB = true →
    rrl_f.H rrl_e [] (k + 5) 0 [.i 0, .i 0, .i 0, .i 0, .i 0, .i 0, .i 0, .i 0, .i 0, .b false, .i 0, .i 0, .i 0, .i 0, .i 0, .i 0, .i 0, .i 0, .i 0, .i 0, .l out, .r (rowW (splitW l)), .i (i : Nat)] = some ⟨.tup [.agg [gI ((rlN l).getD 0 0), gI ((rlN l).getD 1 0), gI ((rlN l).getD 2 0), gI ((rlW l).getD 0 0), gU ((rlW l).getD 1 0), gI ((rlN l).getD 8 0), gI ((rlN l).getD 9 0), gI ((rlN l).getD 10 0), gI ((rlN l).getD 3 0), .c (.bool (rlX l)), gI ((rlN l).getD 5 0), gI ((rlN l).getD 6 0), gI ((rlN l).getD 7 0), .c (.ints .u8 (byI (rlD l))), gI ((rlW l).getD 2 0), gU ((rlW l).getD 3 0), gI ((rlW l).getD 4 0), gU ((rlW l).getD 5 0), gI ((rlN l).getD 11 0), gI ((rlN l).getD 12 0), gI ((rlN l).getD 13 0)], tB (rlB l)], []⟩ := by
  intro k
  induction k with
  | zero =>
    intro i out hi ho ht hall
    obtain rfl : i = 14 := by omega
    rw [List.take_of_length_le (by omega)] at ht
    subst ht
    rw [FnD.H_succ, rrl_l0]
    dsimp only
    refine condF (by omega) ?_
    exact rrl_fin l hl h18 hws hall 0
  | succ k ih =>
    intro i out hi ho ht hall
    have hsz : ((splitW l).getD i []).length ≤ 100000000 := by
      rw [List.getD_eq_getElem?_getD, List.getElem?_eq_getElem (by omega)]
      exact Nat.le_trans (hws _ (List.getElem_mem _)) hl
    rw [show k + 1 + 5 = (k + 5) + 1 by omega, FnD.H_succ, rrl_l0]
    dsimp only
    rw [Int.toNat_natCast, rowW_at (by omega), tx_toList, tx_size, setD_eq ho]
    rw [show IntKind.i64.wrap ((i : Int) + 1) = ((i + 1 : Nat) : Int) by rw [IntWalk.i64_in _ (by omega)]; omega]
    refine condT (by omega) (condB ((inB_iff _ _).2 (by rw [rowW_len]; omega)) (condT hsz ?_))
    cases hb : smB ((splitW l).getD i []) with
    | false => exact condB rfl (rrl_no (rl_bad i (by omega) h18 (.inl ⟨by omega, hb⟩)))
    | true =>
      refine condN rfl (condB ((inB_iff _ _).2 (by omega)) (condT (by omega) ?_))
      have hg : (splitW l).getD i [] = (splitW l)[i] := by rw [List.getD_eq_getElem?_getD, List.getElem?_eq_getElem (by omega)]; rfl
      refine ih (i + 1) _ (by omega) (by rw [List.length_set]; exact ho) ?_ ?_
      · rw [List.take_succ_eq_append_getElem (by rw [List.length_set]; omega), List.getElem_set_self, List.take_set_of_le (Nat.le_refl _), ht, List.take_succ_eq_append_getElem (by omega), List.map_append, ← hg]; rfl
      · rw [List.take_succ_eq_append_getElem (by omega), List.all_append, hall, ← hg, List.all_cons, hb]; rfl
theorem rrl_run (s : ByteArray) (hp : s.size ≤ 100000000) : ∃ fu, rrl_f.run rrl_e [] fu [vS s] [] = some ⟨.tup [.agg [gI ((rlN s.data.toList).getD 0 0), gI ((rlN s.data.toList).getD 1 0), gI ((rlN s.data.toList).getD 2 0), gI ((rlW s.data.toList).getD 0 0), gU ((rlW s.data.toList).getD 1 0), gI ((rlN s.data.toList).getD 8 0), gI ((rlN s.data.toList).getD 9 0), gI ((rlN s.data.toList).getD 10 0), gI ((rlN s.data.toList).getD 3 0), .c (.bool (rlX s.data.toList)), gI ((rlN s.data.toList).getD 5 0), gI ((rlN s.data.toList).getD 6 0), gI ((rlN s.data.toList).getD 7 0), .c (.ints .u8 (byI (rlD s.data.toList))), gI ((rlW s.data.toList).getD 2 0), gU ((rlW s.data.toList).getD 3 0), gI ((rlW s.data.toList).getD 4 0), gU ((rlW s.data.toList).getD 5 0), gI ((rlN s.data.toList).getD 11 0), gI ((rlN s.data.toList).getD 12 0), gI ((rlN s.data.toList).getD 13 0)], tB (rlB s.data.toList)], []⟩ := by
  obtain ⟨l, rfl, hl⟩ := tx_get s
  rw [tx_size] at hp
  rw [tx_toList]
  have hws : ∀ w ∈ splitW l, w.length ≤ l.length := fun w hw => by
    have := splitA_len 32 l [] w hw
    rwa [List.length_nil, Nat.zero_add] at this
  refine ⟨14 + 5, ?_⟩
  rw [FnD.run, rrl_ent, tx_toList, tx_size, List.length_map]
  refine condT hp ?_
  by_cases h18 : (splitW l).length = 18
  case neg =>
    refine condB (by rw [decide_eq_false (by omega)]; rfl) (rrl_no ?_)
    unfold rlB; rw [decide_eq_false h18]; rfl
  refine condN (by rw [decide_eq_true (by omega)]; rfl) ?_
  exact rrl_loop l hp h18 hws 14 0 _ rfl rfl rfl rfl
theorem rrl_ok (s : ByteArray) (hp : s.size ≤ 100000000) : FnOk cfg 40 ([vS s].map SV.den) (.tup [.agg [gI ((rlN s.data.toList).getD 0 0), gI ((rlN s.data.toList).getD 1 0), gI ((rlN s.data.toList).getD 2 0), gI ((rlW s.data.toList).getD 0 0), gU ((rlW s.data.toList).getD 1 0), gI ((rlN s.data.toList).getD 8 0), gI ((rlN s.data.toList).getD 9 0), gI ((rlN s.data.toList).getD 10 0), gI ((rlN s.data.toList).getD 3 0), .c (.bool (rlX s.data.toList)), gI ((rlN s.data.toList).getD 5 0), gI ((rlN s.data.toList).getD 6 0), gI ((rlN s.data.toList).getD 7 0), .c (.ints .u8 (byI (rlD s.data.toList))), gI ((rlW s.data.toList).getD 2 0), gU ((rlW s.data.toList).getD 3 0), gI ((rlW s.data.toList).getD 4 0), gU ((rlW s.data.toList).getD 5 0), gI ((rlN s.data.toList).getD 11 0), gI ((rlN s.data.toList).getD 12 0), gI ((rlN s.data.toList).getD 13 0)], tB (rlB s.data.toList)] : SV).den := by
  obtain ⟨nn, h⟩ := rrl_run s hp
  exact FnD.ok rrl_g rrl_f mixed Tryz.func40 rfl rfl rfl rfl rfl rfl h
noncomputable def c_rrl : SpecF := fun args _ K => match args with
  | [.one (.c (.str s))] => bif decide (s.size ≤ 100000000) then K (.tup [.agg [gI ((rlN s.data.toList).getD 0 0), gI ((rlN s.data.toList).getD 1 0), gI ((rlN s.data.toList).getD 2 0), gI ((rlW s.data.toList).getD 0 0), gU ((rlW s.data.toList).getD 1 0), gI ((rlN s.data.toList).getD 8 0), gI ((rlN s.data.toList).getD 9 0), gI ((rlN s.data.toList).getD 10 0), gI ((rlN s.data.toList).getD 3 0), .c (.bool (rlX s.data.toList)), gI ((rlN s.data.toList).getD 5 0), gI ((rlN s.data.toList).getD 6 0), gI ((rlN s.data.toList).getD 7 0), .c (.ints .u8 (byI (rlD s.data.toList))), gI ((rlW s.data.toList).getD 2 0), gU ((rlW s.data.toList).getD 3 0), gI ((rlW s.data.toList).getD 4 0), gU ((rlW s.data.toList).getD 5 0), gI ((rlN s.data.toList).getD 11 0), gI ((rlN s.data.toList).getD 12 0), gI ((rlN s.data.toList).getD 13 0)], tB (rlB s.data.toList)]) [] else none
  | _ => none
theorem c_rrl_ok : SpecOk cfg 40 c_rrl := by
  intro args bx K out h
  unfold c_rrl at h
  split at h
  · obtain ⟨hp, h⟩ := bif_some h
    exact ⟨_, _, h, .inl (rrl_ok _ (of_decide_eq_true hp) _), by simp [isTupS]⟩
  · cases h
/-! ### epactref28.Read -/
end Go.Proofs.YtldofkogmkfpjaaGreatDoor
