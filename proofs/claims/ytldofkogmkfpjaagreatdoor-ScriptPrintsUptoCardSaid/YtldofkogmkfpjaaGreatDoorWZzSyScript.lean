/-
  The contracts of layer 29 (script).
-/
import Derived.Test.YtldofkogmkfpjaaGreatDoorWZzSyScShelf
namespace Go.Proofs.YtldofkogmkfpjaaGreatDoor
open Go Go.Ev Go.Sy
set_option linter.unusedSimpArgs false
set_option linter.unusedVariables false
set_option maxRecDepth 10000
set_option maxHeartbeats 4000000
/-! ### script.Hex -/
noncomputable def shex_e : Ev' := ⟨Tryz.prog, glob, Γof []⟩
theorem shex_g : Gd cfg shex_e := gd (env_nil _)
noncomputable def shex_f : FnD := ⟨41, Tryz.f41, shOf [(0, ⟨24, [(3, ⟨.ints .u8, false, true⟩)], [], [(3, .c (.sl 3 1)), (6, .c (.ints .u8)), (7, .c (.int .i64)), (8, .c (.int .i64))]⟩)], Tryz.f41.resultTypes.toList, 0⟩
theorem shex_ent (h : Hd) (l : List Int) : shex_f.ent shex_e [] h [c1 (.ints .u8 l)] [] = h (0 : Nat) [Lf.l [], Lf.b true, Lf.l l, Lf.i (↑l.length : Int), Lf.i (0 : Int)] := by kernel_rfl
theorem shex_l0 (h : Hd) (l0 : List Int) (b1 : Bool) (l2 : List Int) (i3 : Int) (i4 : Int) : shex_f.seg shex_e [] h 0 [.l l0, .b b1, .l l2, .i i3, .i i4] = let v1 : List Int := List.take l0.length l0 ++ [(bytesI (tx [48, 49, 50, 51, 52, 53, 54, 55, 56, 57, 97, 98, 99, 100, 101, 102])).getD (shrI IntKind.u8 (l2.getD i4.toNat (0 : Int)) (4 : Int)).toNat (0 : Int), (bytesI (tx [48, 49, 50, 51, 52, 53, 54, 55, 56, 57, 97, 98, 99, 100, 101, 102])).getD (andI IntKind.u8 (l2.getD i4.toNat (0 : Int)) (15 : Int)).toNat (0 : Int)]; let v2 : Nat := v1.length; bif decide (i4 < i3) then bif inB i4 l2.length then bif inB (shrI IntKind.u8 (l2.getD i4.toNat (0 : Int)) (4 : Int)) (16 : Nat) then bif inB (andI IntKind.u8 (l2.getD i4.toNat (0 : Int)) (15 : Int)) (16 : Nat) then bif b1 == b1 && true && decide (l0.length ≤ l0.length) && roomB (l0.length + (2 : Nat)) (1 : Nat) then bif nlAfter b1 (2 : Nat) == nlAfter b1 (2 : Nat) && decide (l0.length + (2 : Nat) = v2) then h (0 : Nat) [Lf.l v1, Lf.b (nlAfter b1 (2 : Nat)), Lf.l l2, Lf.i i3, Lf.i (IntKind.i64.wrap (i4 + (1 : Int)))] else none else none else none else none else none else bif b1 == b1 && decide (l0.length ≤ l0.length) then ret (vS (textOf (List.take l0.length l0))) else none := by kernel_rfl

theorem shex_loop (m : List Nat) (hm : ∀ x ∈ m, x < 256) (hl : m.length ≤ 1000000000) : ∀ (k i : Nat) (b : Bool), i ≤ m.length → m.length - i < k →
    shex_f.H shex_e [] k 0 [.l (bytesI (tx (hexB (toB (castL (m.take i)))))), .b b, .l (castL m), .i (m.length : Nat), .i (i : Nat)] = some ⟨vS (tx (hexB (toB (castL m)))), []⟩ := by
  intro k
  induction k with
  | zero => intro i b _ h; omega
  | succ k ih =>
    intro i b hi hk
    rw [FnD.H_succ, shex_l0]
    dsimp only
    have hlen : (bytesI (tx (hexB (toB (castL (m.take i)))))).length = 2 * i := by
      rw [bytesI_lenL, hexB_len, toB_len, castL_length, List.length_take, Nat.min_eq_left hi]
    by_cases h : i < m.length
    · have hx : nthN m i < 256 := nthN_all hm (by decide) i
      have e1 : shrI .u8 ((nthN m i : Nat) : Int) 4 = ((nthN m i / 16 : Nat) : Int) := shrI_u .u8 _ 4 (by decide)
      have e2 : andI .u8 ((nthN m i : Nat) : Int) 15 = ((nthN m i % 16 : Nat) : Int) := by
        have := andI_u (k := .u8) rfl (a := nthN m i) (b := 15) (by show _ < 2 ^ 8; omega) (by decide)
        rw [show (15 : Int) = ((15 : Nat) : Int) from rfl, this, show (15 : Nat) = 2 ^ 4 - 1 from rfl, Nat.and_two_pow_sub_one_eq_mod]
      rw [Int.toNat_natCast, nth_castL, e1, e2, Int.toNat_natCast, Int.toNat_natCast, dig16 _ (by omega), dig16 _ (by omega)]
      rw [show IntKind.i64.wrap ((i : Int) + 1) = ((i + 1 : Nat) : Int) by rw [IntWalk.i64_in _ (by omega)]; omega]
      refine condT (by omega) (condB ((inB_iff _ _).2 (by rw [castL_length]; omega)) (condB ((inB_iff _ _).2 (by omega)) (condB ((inB_iff _ _).2 (by omega)) ?_)))
      refine (push_intsN (z := 1) (n := 2) (room_of (by rw [hlen]; omega) (by rw [hlen]; omega)) rfl).trans ?_
      rw [List.take_length, bytesI_snoc2, ← hexB_take h hm]
      exact ih (i + 1) _ (by omega) (by omega)
    · obtain rfl : i = m.length := by omega
      refine condF (by omega) (condB (by simp) (retV ?_))
      rw [List.take_length, textOf_bytesL, List.take_length]
theorem shex_run (l : List Int) (hp : bytesOk l ∧ l.length ≤ 1000000000) : ∃ fu, shex_f.run shex_e [] fu [c1 (.ints .u8 l)] [] = some ⟨vS (tx (hexB (toB l))), []⟩ := by
  obtain ⟨m, rfl, -, hm⟩ := bytes_nat hp.1
  have hl := hp.2
  rw [castL_length] at hl
  refine ⟨m.length + 1, ?_⟩
  rw [FnD.run, shex_ent, castL_length]
  exact shex_loop m hm hl (m.length + 1) 0 true (by omega) (by omega)
theorem shex_ok (l : List Int) (hp : bytesOk l ∧ l.length ≤ 1000000000) : FnOk cfg 41 ([c1 (.ints .u8 l)].map SV.den) (vS (tx (hexB (toB l))) : SV).den := by
  obtain ⟨nn, h⟩ := shex_run l hp
  exact FnD.ok shex_g shex_f mixed Tryz.func41 rfl rfl rfl rfl rfl rfl h
noncomputable def c_shex : SpecF := fun args _ K => match args with
  | [.one (.c (.ints .u8 l))] => bif decide (bytesOk l ∧ l.length ≤ 1000000000) then K (vS (tx (hexB (toB l)))) [] else none
  | _ => none
theorem c_shex_ok : SpecOk cfg 41 c_shex := by
  intro args bx K out h
  unfold c_shex at h
  split at h
  · obtain ⟨hp, h⟩ := bif_some h
    exact ⟨_, _, h, .inl (shex_ok _ (of_decide_eq_true hp) _), by simp [isTupS]⟩
  · cases h
/-! ### script.unhex -/
noncomputable def sunh_e : Ev' := ⟨Tryz.prog, glob, Γof [(101, c_ixb)]⟩
theorem sunh_g : Gd cfg sunh_e := gd (env_cons c_ixb_ok (env_nil _))
noncomputable def sunh_f : FnD := ⟨124, Tryz.f124, shOf [(0, ⟨42, [(4, ⟨.ints .u8, false, true⟩)], [], [(0, .c (.str)), (4, .c (.sl 4 1)), (5, .c (.int .i64))]⟩)], Tryz.f124.resultTypes.toList, 0⟩
theorem sunh_ent (h : Hd) (s : ByteArray) : sunh_f.ent sunh_e [] h [vS s] [] = bif !decide ((↑s.size : Int).tmod (2 : Int) = (0 : Int)) then ret (SV.tup [S1.c (Cl.ints IntKind.u8 []), S1.c (Cl.bool false)]) else h (0 : Nat) [Lf.l [], Lf.b true, Lf.s s, Lf.i (0 : Int)] := by kernel_rfl
theorem sunh_l0 (h : Hd) (l0 : List Int) (b1 : Bool) (s2 : ByteArray) (i3 : Int) : sunh_f.seg sunh_e [] h 0 [.l l0, .b b1, .s s2, .i i3] = let v1 : Int := Lib.indexByte (tx [48, 49, 50, 51, 52, 53, 54, 55, 56, 57, 97, 98, 99, 100, 101, 102]).data.toList ((bytesI s2).getD i3.toNat (0 : Int)).toNat.toUInt8; let v2 : Int := Lib.indexByte (tx [48, 49, 50, 51, 52, 53, 54, 55, 56, 57, 97, 98, 99, 100, 101, 102]).data.toList ((bytesI s2).getD (IntKind.i64.wrap (i3 + (1 : Int))).toNat (0 : Int)).toNat.toUInt8; let v3 : List Int := List.take l0.length l0 ++ [IntKind.u8.wrap (orI IntKind.i64 (shlI IntKind.i64 v1 (4 : Int)) v2)]; let v4 : Nat := v3.length; bif decide (i3 < (↑s2.size : Int)) then bif inB i3 s2.size then bif inB (IntKind.i64.wrap (i3 + (1 : Int))) s2.size then bif decide (v1 < (0 : Int)) then ret (SV.tup [S1.c (Cl.ints IntKind.u8 []), S1.c (Cl.bool false)]) else bif decide (v2 < (0 : Int)) then ret (SV.tup [S1.c (Cl.ints IntKind.u8 []), S1.c (Cl.bool false)]) else bif b1 == b1 && true && decide (l0.length ≤ l0.length) && roomB (l0.length + (1 : Nat)) (1 : Nat) then bif nlAfter b1 (1 : Nat) == nlAfter b1 (1 : Nat) && decide (l0.length + (1 : Nat) = v4) then h (0 : Nat) [Lf.l v3, Lf.b (nlAfter b1 (1 : Nat)), Lf.s s2, Lf.i (IntKind.i64.wrap (i3 + (2 : Int)))] else none else none else none else none else bif b1 == b1 && decide (l0.length ≤ l0.length) && true then ret (SV.tup [S1.c (Cl.ints IntKind.u8 (List.take l0.length l0)), S1.c (Cl.bool true)]) else none := by kernel_rfl

theorem unR {l : List UInt8} {a : List Int} {b : Bool} (h1 : a = byI (unD l)) (h2 : b = unB l) : (ret (.tup [.c (.ints .u8 a), .c (.bool b)]) : Option Out) = some ⟨.tup [.c (.ints .u8 (byI (unD l))), tB (unB l)], []⟩ := by rw [h1, h2]
theorem sunh_loop (l : List UInt8) (hl : l.length ≤ 1000000000) : ∀ (k : Nat) (rest a d : List UInt8) (b : Bool), l = a ++ rest → unhP a = some d → rest.length % 2 = 0 → rest.length < k →
    sunh_f.H sunh_e [] k 0 [.l (byI d), .b b, .s (tx l), .i (a.length : Nat)] = some ⟨.tup [.c (.ints .u8 (byI (unD l))), tB (unB l)], []⟩ := by
  intro k
  induction k with
  | zero => intro rest a d b _ _ _ h; omega
  | succ k ih =>
    intro rest a d b hs hu he hk
    have hd := hex_unh a d hu
    have hdl : 2 * d.length = a.length := by rw [← hd, hexB_len]
    have hal : a.length + rest.length = l.length := by rw [hs, List.length_append]
    rw [FnD.H_succ, sunh_l0]
    dsimp only
    match rest, hs, he, hk, hal with
    | [], hs, he, hk, hal =>
      rw [List.append_nil] at hs
      subst hs
      refine condF (by rw [tx_size]; omega) (condB (by simp) (unR ?_ ?_))
      · rw [List.take_length]; unfold unD; rw [hu]; rfl
      · unfold unB; rw [hu]; rfl
    | [c], hs, he, hk, hal => simp at he
    | c :: e :: r, hs, he, hk, hal =>
      simp only [List.length_cons] at he hk hal
      have g0 : l.getD a.length 0 = c := by rw [hs, List.getD_eq_getElem?_getD, List.getElem?_append_right (Nat.le_refl _), Nat.sub_self]; rfl
      have g1 : l.getD (a.length + 1) 0 = e := by rw [hs, List.getD_eq_getElem?_getD, List.getElem?_append_right (by omega), show a.length + 1 - a.length = 1 by omega]; rfl
      have w1 : IntKind.i64.wrap ((a.length : Int) + 1) = ((a.length + 1 : Nat) : Int) := by rw [IntWalk.i64_in _ (by omega)]; omega
      have w2 : IntKind.i64.wrap ((a.length : Int) + 2) = ((a.length + 2 : Nat) : Int) := by rw [IntWalk.i64_in _ (by omega)]; omega
      rw [w1, w2, Int.toNat_natCast, Int.toNat_natCast, bytes_get, bytes_get, g0, g1, Int.toNat_natCast, Int.toNat_natCast, tx_toList]
      have ec : c.toNat.toUInt8 = c := UInt8.ofNat_toNat
      have ee : e.toNat.toUInt8 = e := UInt8.ofNat_toNat
      rw [ec, ee, idxH, idxH]
      have hun : unhP l = (unhP (c :: e :: r)).map (d ++ ·) := by rw [hs]; exact unh_app a _ d hu
      refine condT (by rw [tx_size]; omega) (condB ((inB_iff _ _).2 (by rw [tx_size]; omega)) (condB ((inB_iff _ _).2 (by rw [tx_size]; omega)) ?_))
      by_cases h1 : isHex c = true
      · rw [if_pos h1]
        have p1 := hexd_pos h1
        have q1 := (hexc_of h1).2
        refine condF (by omega) ?_
        by_cases h2 : isHex e = true
        · rw [if_pos h2]
          have p2 := hexd_pos h2
          have q2 := (hexc_of h2).2
          refine condF (by omega) ?_
          obtain ⟨x, hx⟩ := Int.eq_ofNat_of_zero_le p1
          obtain ⟨y, hy⟩ := Int.eq_ofNat_of_zero_le p2
          rw [hx, Int.toNat_natCast] at q1
          rw [hy, Int.toNat_natCast] at q2
          rw [hx, hy, two16 x q1 y q2]
          refine (push_intsN (z := 1) (n := 1) (room_of (by rw [byI_len]; omega) (by rw [byI_len]; omega)) rfl).trans ?_
          have hu2 : unhP (a ++ [c, e]) = some (d ++ [UInt8.ofNat (x * 16 + y)]) := by
            rw [unh_app a _ d hu, unhP, if_pos (by rw [h1, h2]; rfl), hx, hy, Int.toNat_natCast, Int.toNat_natCast]; rfl
          have ed : List.take (byI d).length (byI d) ++ [((x * 16 + y : Nat) : Int)] = byI (d ++ [UInt8.ofNat (x * 16 + y)]) := by
            rw [List.take_length]
            unfold byI
            rw [List.map_append]
            congr 1
            show [_] = [(((UInt8.ofNat (x * 16 + y)).toNat : Nat) : Int)]
            rw [UInt8.toNat_ofNat', Nat.mod_eq_of_lt (by omega)]
          rw [ed]
          have := ih r (a ++ [c, e]) _ (nlAfter b 1) (by rw [hs]; simp) hu2 (by omega) (by omega)
          rw [List.length_append] at this
          exact this
        · rw [if_neg h2]
          have hn : unhP l = none := by
            rw [hun, unhP, if_neg (by rw [h1]; simpa using h2)]; rfl
          exact condT (by decide) (unR (by unfold unD; rw [hn]; rfl) (by unfold unB; rw [hn]; rfl))
      · rw [if_neg h1]
        have hn : unhP l = none := by
          rw [hun, unhP, if_neg (by simp only [Bool.and_eq_true]; exact fun h => h1 h.1)]; rfl
        exact condT (by decide) (unR (by unfold unD; rw [hn]; rfl) (by unfold unB; rw [hn]; rfl))
theorem unh_odd : ∀ l : List UInt8, l.length % 2 = 1 → unhP l = none
  | [], h => by simp at h
  | [_], _ => rfl
  | x :: y :: l, h => by
    rw [unhP, unh_odd l (by simp only [List.length_cons] at h; omega)]
    split <;> rfl
theorem sunh_run (s : ByteArray) (hp : s.size ≤ 1000000000) : ∃ fu, sunh_f.run sunh_e [] fu [vS s] [] = some ⟨.tup [.c (.ints .u8 (byI (unD s.data.toList))), tB (unB s.data.toList)], []⟩ := by
  obtain ⟨l, rfl, hl⟩ := tx_get s
  rw [tx_size] at hp
  rw [tx_toList]
  refine ⟨l.length + 1, ?_⟩
  rw [FnD.run, sunh_ent, tx_size]
  have tm : ((l.length : Nat) : Int).tmod 2 = ((l.length % 2 : Nat) : Int) := by rw [Int.tmod_eq_emod_of_nonneg (by omega)]; omega
  rw [tm]
  by_cases h : l.length % 2 = 0
  · refine condN (by rw [decide_eq_true (by omega)]; rfl) ?_
    exact sunh_loop l hp (l.length + 1) l [] [] true rfl rfl h (by omega)
  · have hn := unh_odd l (by omega)
    exact condB (by rw [decide_eq_false (by omega)]; rfl) (unR (by unfold unD; rw [hn]; rfl) (by unfold unB; rw [hn]; rfl))
theorem sunh_ok (s : ByteArray) (hp : s.size ≤ 1000000000) : FnOk cfg 124 ([vS s].map SV.den) (.tup [.c (.ints .u8 (byI (unD s.data.toList))), tB (unB s.data.toList)] : SV).den := by
  obtain ⟨nn, h⟩ := sunh_run s hp
  exact FnD.ok sunh_g sunh_f mixed Tryz.func124 rfl rfl rfl rfl rfl rfl h
noncomputable def c_sunh : SpecF := fun args _ K => match args with
  | [.one (.c (.str s))] => bif decide (s.size ≤ 1000000000) then K (.tup [.c (.ints .u8 (byI (unD s.data.toList))), tB (unB s.data.toList)]) [] else none
  | _ => none
theorem c_sunh_ok : SpecOk cfg 124 c_sunh := by
  intro args bx K out h
  unfold c_sunh at h
  split at h
  · obtain ⟨hp, h⟩ := bif_some h
    exact ⟨_, _, h, .inl (sunh_ok _ (of_decide_eq_true hp) _), by simp [isTupS]⟩
  · cases h
/-! ### script.flag -/
noncomputable def sflag_e : Ev' := ⟨Tryz.prog, glob, Γof []⟩
theorem sflag_g : Gd cfg sflag_e := gd (env_nil _)
noncomputable def sflag_f : FnD := ⟨163, Tryz.f163, noSh, Tryz.f163.resultTypes.toList, 0⟩
theorem sflag_ent (h : Hd) (b : Bool) : sflag_f.ent sflag_e [] h [vB b] [] = bif b then ret (vI (1 : Int)) else ret (vI (0 : Int)) := by kernel_rfl
theorem sflag_run (b : Bool) : ∃ fu, sflag_f.run sflag_e [] fu [vB b] [] = some ⟨vI (if b then 1 else 0), []⟩ := by
  refine ⟨0, ?_⟩
  rw [FnD.run, sflag_ent]
  cases b <;> rfl
theorem sflag_ok (b : Bool) : FnOk cfg 163 ([vB b].map SV.den) (vI (if b then 1 else 0) : SV).den := by
  obtain ⟨nn, h⟩ := sflag_run b
  exact FnD.ok sflag_g sflag_f mixed Tryz.func163 rfl rfl rfl rfl rfl rfl h
noncomputable def c_sflag : SpecF := fun args _ K => match args with
  | [.one (.c (.bool b))] => K (vI (if b then 1 else 0)) []
  | _ => none
theorem c_sflag_ok : SpecOk cfg 163 c_sflag := by
  intro args bx K out h
  unfold c_sflag at h
  split at h
  · exact ⟨_, _, h, .inl (sflag_ok _ _), by simp [isTupS]⟩
  · cases h
/-! ### script.numbers -/
noncomputable def snums_e : Ev' := ⟨Tryz.prog, glob, Γof [(163, c_sflag)]⟩
theorem snums_g : Gd cfg snums_e := gd (env_cons c_sflag_ok (env_nil _))
noncomputable def snums_f : FnD := ⟨117, Tryz.f117, noSh, Tryz.f117.resultTypes.toList, 0⟩
theorem snums_ent (h : Hd) (a0 : Int) (a1 : Int) (a2 : Int) (x0 : Int) (y0 : Int) (a8 : Int) (a9 : Int) (aa : Int) (a3 : Int) (lx : Bool) (a5 : Int) (a6 : Int) (a7 : Int) (dd : List Int) (x1 : Int) (y1 : Int) (x2 : Int) (y2 : Int) (ab : Int) (ac : Int) (ad : Int) : snums_f.ent snums_e [] h [agg [.c (.int .i64 a0), .c (.int .i64 a1), .c (.int .i64 a2), .c (.int .i64 x0), .c (.int .u64 y0), .c (.int .i64 a8), .c (.int .i64 a9), .c (.int .i64 aa), .c (.int .i64 a3), .c (.bool lx), .c (.int .i64 a5), .c (.int .i64 a6), .c (.int .i64 a7), .c (.ints .u8 dd), .c (.int .i64 x1), .c (.int .u64 y1), .c (.int .i64 x2), .c (.int .u64 y2), .c (.int .i64 ab), .c (.int .i64 ac), .c (.int .i64 ad)]] [] = ret (c1 (Cl.ints IntKind.i64 [a0, a1, a2, a3, if lx = true then (1 : Int) else (0 : Int), a5, a6, a7, a8, a9, aa, ab, ac, ad])) := by kernel_rfl
theorem snums_run (a0 : Int) (a1 : Int) (a2 : Int) (x0 : Int) (y0 : Int) (a8 : Int) (a9 : Int) (aa : Int) (a3 : Int) (lx : Bool) (a5 : Int) (a6 : Int) (a7 : Int) (dd : List Int) (x1 : Int) (y1 : Int) (x2 : Int) (y2 : Int) (ab : Int) (ac : Int) (ad : Int) : ∃ fu, snums_f.run snums_e [] fu [agg [.c (.int .i64 a0), .c (.int .i64 a1), .c (.int .i64 a2), .c (.int .i64 x0), .c (.int .u64 y0), .c (.int .i64 a8), .c (.int .i64 a9), .c (.int .i64 aa), .c (.int .i64 a3), .c (.bool lx), .c (.int .i64 a5), .c (.int .i64 a6), .c (.int .i64 a7), .c (.ints .u8 dd), .c (.int .i64 x1), .c (.int .u64 y1), .c (.int .i64 x2), .c (.int .u64 y2), .c (.int .i64 ab), .c (.int .i64 ac), .c (.int .i64 ad)]] [] = some ⟨c1 (.ints .i64 [a0, a1, a2, a3, if lx then 1 else 0, a5, a6, a7, a8, a9, aa, ab, ac, ad]), []⟩ := by
  refine ⟨0, ?_⟩
  rw [FnD.run, snums_ent]
theorem snums_ok (a0 : Int) (a1 : Int) (a2 : Int) (x0 : Int) (y0 : Int) (a8 : Int) (a9 : Int) (aa : Int) (a3 : Int) (lx : Bool) (a5 : Int) (a6 : Int) (a7 : Int) (dd : List Int) (x1 : Int) (y1 : Int) (x2 : Int) (y2 : Int) (ab : Int) (ac : Int) (ad : Int) : FnOk cfg 117 ([agg [.c (.int .i64 a0), .c (.int .i64 a1), .c (.int .i64 a2), .c (.int .i64 x0), .c (.int .u64 y0), .c (.int .i64 a8), .c (.int .i64 a9), .c (.int .i64 aa), .c (.int .i64 a3), .c (.bool lx), .c (.int .i64 a5), .c (.int .i64 a6), .c (.int .i64 a7), .c (.ints .u8 dd), .c (.int .i64 x1), .c (.int .u64 y1), .c (.int .i64 x2), .c (.int .u64 y2), .c (.int .i64 ab), .c (.int .i64 ac), .c (.int .i64 ad)]].map SV.den) (c1 (.ints .i64 [a0, a1, a2, a3, if lx then 1 else 0, a5, a6, a7, a8, a9, aa, ab, ac, ad]) : SV).den := by
  obtain ⟨nn, h⟩ := snums_run a0 a1 a2 x0 y0 a8 a9 aa a3 lx a5 a6 a7 dd x1 y1 x2 y2 ab ac ad
  exact FnD.ok snums_g snums_f mixed Tryz.func117 rfl rfl rfl rfl rfl rfl h
noncomputable def c_snums : SpecF := fun args _ K => match args with
  | [.one (.agg [.c (.int .i64 a0), .c (.int .i64 a1), .c (.int .i64 a2), .c (.int .i64 x0), .c (.int .u64 y0), .c (.int .i64 a8), .c (.int .i64 a9), .c (.int .i64 aa), .c (.int .i64 a3), .c (.bool lx), .c (.int .i64 a5), .c (.int .i64 a6), .c (.int .i64 a7), .c (.ints .u8 dd), .c (.int .i64 x1), .c (.int .u64 y1), .c (.int .i64 x2), .c (.int .u64 y2), .c (.int .i64 ab), .c (.int .i64 ac), .c (.int .i64 ad)])] => K (c1 (.ints .i64 [a0, a1, a2, a3, if lx then 1 else 0, a5, a6, a7, a8, a9, aa, ab, ac, ad])) []
  | _ => none
theorem c_snums_ok : SpecOk cfg 117 c_snums := by
  intro args bx K out h
  unfold c_snums at h
  split at h
  · exact ⟨_, _, h, .inl (snums_ok _ _ _ _ _ _ _ _ _ _ _ _ _ _ _ _ _ _ _ _ _ _), by simp [isTupS]⟩
  · cases h
end Go.Proofs.YtldofkogmkfpjaaGreatDoor
