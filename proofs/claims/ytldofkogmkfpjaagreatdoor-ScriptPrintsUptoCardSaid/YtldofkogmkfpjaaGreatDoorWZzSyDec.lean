/-
  The contracts of layer 4 (dec).
-/
import Derived.Test.YtldofkogmkfpjaaGreatDoorWZzSyWide
import Derived.Test.YtldofkogmkfpjaaGreatDoorWPDec
namespace Go.Proofs.YtldofkogmkfpjaaGreatDoor
open Go Go.Ev Go.Sy
set_option linter.unusedSimpArgs false
set_option linter.unusedVariables false
set_option maxRecDepth 10000
set_option maxHeartbeats 4000000
/-! ### dec.plus -/
noncomputable def c_plusB (B : Nat) : SpecF := fun args _ K => match args with
  | [.one (.agg [.c (.int .i64 a), .c (.int .u64 b)])] => bif decide ((isH a ∧ isW b ∧ 0 ≤ a) ∧ (wVal a b).toNat < B) then K (vS (tx (Lib.decDigits (wVal a b).toNat))) [] else none
  | _ => none
noncomputable def plus_e (B : Nat) : Ev' := ⟨Tryz.prog, glob, Γof [(165, c_plusB B), (85, c_wof), (203, c_wdiv), (204, c_wint), (96, c_itoa), (97, c_rept)]⟩
theorem plus_g (B : Nat) (hB : SpecOk cfg 165 (c_plusB B)) : Gd cfg (plus_e B) := gd (env_cons hB (env_cons c_wof_ok (env_cons c_wdiv_ok (env_cons c_wint_ok (env_cons c_itoa_ok (env_cons c_rept_ok (env_nil _)))))))
noncomputable def plus_f : FnD := ⟨165, Tryz.f165, noSh, Tryz.f165.resultTypes.toList, 0⟩
theorem plus_ent (h : Hd) (B : Nat) (a : Int) (b : Int) : plus_f.ent (plus_e B) [] h [agg [.c (.int .i64 a), .c (.int .u64 b)]] [] = let v1 : Int := wVal (wHi (rV (wVal a b) (wVal (wHi (1000000000000000000 : Int)) (wLo (1000000000000000000 : Int))))) (wLo (rV (wVal a b) (wVal (wHi (1000000000000000000 : Int)) (wLo (1000000000000000000 : Int))))); let v2 : Int := if isH v1 then v1 else (0 : Int); let v3 : ByteArray := tx (Lib.itoa v2); let v4 : Nat := (wVal (wHi (qV (wVal a b) (wVal (wHi (1000000000000000000 : Int)) (wLo (1000000000000000000 : Int))))) (wLo (qV (wVal a b) (wVal (wHi (1000000000000000000 : Int)) (wLo (1000000000000000000 : Int)))))).toNat; let v5 : Nat := v3.size; let v6 : Int := IntKind.i64.wrap ((18 : Int) - (↑v5 : Int)); let v7 : Nat := v6.toNat; let v8 : Nat := (1 : Nat) * v7; let v9 : ByteArray := tx (Lib.decDigits v4); let v10 : ByteArray := tx (Lib.repeatL (tx [48]).data.toList v7); let v11 : Nat := v9.size + v10.size; let v12 : ByteArray := v9 ++ v10; let v13 : Nat := v12.size + v5; bif decide (isH a ∧ isW b ∧ isH (wHi (1000000000000000000 : Int)) ∧ isW (wLo (1000000000000000000 : Int))) then bif decide (isH (wHi (rV (wVal a b) (wVal (wHi (1000000000000000000 : Int)) (wLo (1000000000000000000 : Int))))) ∧ isW (wLo (rV (wVal a b) (wVal (wHi (1000000000000000000 : Int)) (wLo (1000000000000000000 : Int)))))) then bif decide (isH v2) then bif decide (wHi (qV (wVal a b) (wVal (wHi (1000000000000000000 : Int)) (wLo (1000000000000000000 : Int)))) = (0 : Int)) && (decide (wLo (qV (wVal a b) (wVal (wHi (1000000000000000000 : Int)) (wLo (1000000000000000000 : Int)))) = (0 : Int)) && true) then ret (vS v3) else bif decide ((isH (wHi (qV (wVal a b) (wVal (wHi (1000000000000000000 : Int)) (wLo (1000000000000000000 : Int))))) ∧ isW (wLo (qV (wVal a b) (wVal (wHi (1000000000000000000 : Int)) (wLo (1000000000000000000 : Int))))) ∧ (0 : Int) ≤ wHi (qV (wVal a b) (wVal (wHi (1000000000000000000 : Int)) (wLo (1000000000000000000 : Int))))) ∧ v4 < B) then bif decide ((0 : Int) ≤ v6 ∧ v6 ≤ (1000000 : Int) ∧ v8 ≤ (140737488355328 : Nat)) then bif decide (v11 ≤ (9223372036854775807 : Nat)) then bif decide (v13 ≤ (9223372036854775807 : Nat)) then ret (vS (v12 ++ v3)) else none else none else none else none else none else none else none := by kernel_rfl

theorem retS {a b : List UInt8} (h : a = b) : (ret (vS (tx a))) = some ⟨vS (tx b), []⟩ := by rw [h]
theorem plus_strs {q r n : Nat} (hq : q < 10 ^ 40) (hr : r < 10 ^ 18) (hn : n = 18 - (Lib.decDigits r).length) :
    ((tx (Lib.decDigits q)).size + (tx (List.replicate n 48)).size) ≤ 9223372036854775807 ∧ ((tx (Lib.decDigits q) ++ tx (List.replicate n 48)).size + (tx (Lib.decDigits r)).size) ≤ 9223372036854775807 := by
  have h1 := dec_len (k := 39) hq
  have h2 := dec_len (k := 17) hr
  rw [tx_append, tx_size, tx_size, tx_size, tx_size, List.length_append, List.length_replicate]
  omega
theorem plus_run (B : Nat) (a : Int) (b : Int) (hp : isH a ∧ isW b ∧ 0 ≤ a) (hB : (wVal a b).toNat < B + 1) : ∃ fu, plus_f.run (plus_e B) [] fu [agg [.c (.int .i64 a), .c (.int .u64 b)]] [] = some ⟨vS (tx (Lib.decDigits (wVal a b).toNat)), []⟩ := by
  refine ⟨0, ?_⟩
  rw [FnD.run, plus_ent]
  obtain ⟨ha, hb, h0⟩ := hp
  have hI := isI_val ha hb
  have hn := wVal_neg (a := a) hb
  simp only [wVal_mk]
  generalize wVal a b = v at *
  obtain ⟨e1, e2, e3, hi⟩ := div_I (D := 1000000000000000000) hI (by omega)
  have hv : 0 ≤ v := by omega
  have hr : isH (v % 1000000000000000000) := isH_small (by omega) (by omega)
  rw [e1, e2]
  simp only [if_pos hr]
  rw [words_zero hi, itoa_pos (by omega)]
  refine condT ⟨ha, hb, by decide, by decide⟩ (condT (words_I ?_) (condT hr ?_))
  · unfold isI; omega
  unfold isI at hI
  obtain ⟨N, rfl⟩ := Int.eq_ofNat_of_zero_le hv
  have q1 : ((N : Int) / 1000000000000000000).toNat = N / 1000000000000000000 := by omega
  have q2 : ((N : Int) % 1000000000000000000).toNat = N % 1000000000000000000 := by omega
  rw [q1, q2, Int.toNat_natCast]
  by_cases hq : (N : Int) / 1000000000000000000 = 0
  · refine condT hq (retS ?_)
    rw [show N % 1000000000000000000 = N by omega]
  · have hl := dec_len (k := 17) (show N % 1000000000000000000 < 10 ^ (17 + 1) by omega)
    have w : IntKind.i64.wrap (18 - ((tx (Lib.decDigits (N % 1000000000000000000))).size : Int)) = ((18 - (Lib.decDigits (N % 1000000000000000000)).length : Nat) : Int) := by
      rw [tx_size, IntWalk.i64_in _ (by omega)]; omega
    rw [w, Int.toNat_natCast, show (tx [(48 : UInt8)]).data.toList = [48] from rfl, repeatL_one]
    obtain ⟨g1, g2⟩ := plus_strs (q := N / 1000000000000000000) (r := N % 1000000000000000000) (by omega) (by omega) rfl
    have hh := words_I hi
    refine condF hq (condT ⟨⟨hh.1, hh.2, by unfold wHi; omega⟩, by omega⟩ (condT ⟨by omega, by omega, by omega⟩ (condT g1 (condT g2 ?_))))
    rw [tx_append, tx_append]
    exact retS (dec_split (by omega)).symm
theorem plus_okB : ∀ (B : Nat), SpecOk cfg 165 (c_plusB B)
  | 0 => by
    intro args bx K out h
    unfold c_plusB at h
    split at h
    · obtain ⟨hp, _⟩ := bif_some h
      exact absurd (of_decide_eq_true hp).2 (Nat.not_lt_zero _)
    · cases h
  | B + 1 => by
    intro args bx K out h
    unfold c_plusB at h
    split at h
    · obtain ⟨hp, h2⟩ := bif_some h
      have hp := of_decide_eq_true hp
      obtain ⟨nn, hr⟩ := plus_run B _ _ hp.1 hp.2
      exact ⟨_, _, h2, .inl ((FnD.ok (plus_g B (plus_okB B)) plus_f mixed Tryz.func165 rfl rfl rfl rfl rfl rfl hr) _), by simp [isTupS]⟩
    · cases h
theorem plus_ok (a : Int) (b : Int) (hp : isH a ∧ isW b ∧ 0 ≤ a) : FnOk cfg 165 ([agg [.c (.int .i64 a), .c (.int .u64 b)]].map SV.den) (vS (tx (Lib.decDigits (wVal a b).toNat)) : SV).den := by
  obtain ⟨nn, h⟩ := plus_run ((wVal a b).toNat) a b hp (Nat.lt_succ_self _)
  exact FnD.ok (plus_g _ (plus_okB _)) plus_f mixed Tryz.func165 rfl rfl rfl rfl rfl rfl h
noncomputable def c_plus : SpecF := fun args _ K => match args with
  | [.one (.agg [.c (.int .i64 a), .c (.int .u64 b)])] => bif decide (isH a ∧ isW b ∧ 0 ≤ a) then K (vS (tx (Lib.decDigits (wVal a b).toNat))) [] else none
  | _ => none
theorem c_plus_ok : SpecOk cfg 165 c_plus := by
  intro args bx K out h
  unfold c_plus at h
  split at h
  · obtain ⟨hp, h⟩ := bif_some h
    exact ⟨_, _, h, .inl (plus_ok _ _ (of_decide_eq_true hp) _), by simp [isTupS]⟩
  · cases h
/-! ### dec.minus -/
noncomputable def minus_e : Ev' := ⟨Tryz.prog, glob, Γof [(85, c_wof), (203, c_wdiv), (204, c_wint), (205, c_wdadd), (206, c_wdneg), (96, c_itoa), (165, c_plus)]⟩
theorem minus_g : Gd cfg minus_e := gd (env_cons c_wof_ok (env_cons c_wdiv_ok (env_cons c_wint_ok (env_cons c_wdadd_ok (env_cons c_wdneg_ok (env_cons c_itoa_ok (env_cons c_plus_ok (env_nil _))))))))
noncomputable def minus_f : FnD := ⟨164, Tryz.f164, noSh, Tryz.f164.resultTypes.toList, 0⟩
theorem minus_ent (h : Hd) (a : Int) (b : Int) : minus_f.ent minus_e [] h [agg [.c (.int .i64 a), .c (.int .u64 b)]] [] = let v1 : Int := wVal (wHi (rV (wVal a b) (wVal (wHi (10 : Int)) (wLo (10 : Int))))) (wLo (rV (wVal a b) (wVal (wHi (10 : Int)) (wLo (10 : Int))))); let v2 : Int := if isH v1 then v1 else (0 : Int); let v3 : Int := wVal (wHi (qV (wVal a b) (wVal (wHi (10 : Int)) (wLo (10 : Int))))) (wLo (qV (wVal a b) (wVal (wHi (10 : Int)) (wLo (10 : Int))))); let v4 : Int := clip (v3 + wVal (wHi (1 : Int)) (wLo (1 : Int))); let v5 : Int := wHi v4; let v6 : Int := wLo v4; let v7 : Int := clip (-wVal v5 v6); let v8 : Int := wHi v7; let v9 : Int := wLo v7; let v10 : Int := IntKind.i64.wrap ((10 : Int) - v2); let v11 : ByteArray := tx (Lib.itoa v10); let v12 : Nat := v11.size; let v13 : Nat := (1 : Nat) + v12; let v14 : ByteArray := tx (Lib.decDigits (wVal v8 v9).toNat); let v15 : Nat := (1 : Nat) + v14.size; let v16 : ByteArray := (tx [45]) ++ v14; let v17 : Nat := v16.size + v12; let v18 : Int := clip (-v3); let v19 : Int := wHi v18; let v20 : Int := wLo v18; let v21 : ByteArray := tx (Lib.itoa v2); let v22 : Nat := v21.size; let v23 : Nat := (1 : Nat) + v22; let v24 : ByteArray := tx (Lib.decDigits (wVal v19 v20).toNat); let v25 : Nat := (1 : Nat) + v24.size; let v26 : ByteArray := (tx [45]) ++ v24; let v27 : Nat := v26.size + v22; bif decide (isH a ∧ isW b ∧ isH (wHi (10 : Int)) ∧ isW (wLo (10 : Int))) then bif decide (isH (wHi (rV (wVal a b) (wVal (wHi (10 : Int)) (wLo (10 : Int))))) ∧ isW (wLo (rV (wVal a b) (wVal (wHi (10 : Int)) (wLo (10 : Int)))))) then bif decide ((0 : Int) < v2) then bif decide (isH (wHi (qV (wVal a b) (wVal (wHi (10 : Int)) (wLo (10 : Int))))) ∧ isW (wLo (qV (wVal a b) (wVal (wHi (10 : Int)) (wLo (10 : Int))))) ∧ isH (wHi (1 : Int)) ∧ isW (wLo (1 : Int))) then bif decide (isH v5 ∧ isW v6) then bif decide (v8 = (0 : Int)) && (decide (v9 = (0 : Int)) && true) then bif decide (isH v10) then bif decide (v13 ≤ (9223372036854775807 : Nat)) then ret (vS ((tx [45]) ++ v11)) else none else none else bif decide (isH v8 ∧ isW v9 ∧ (0 : Int) ≤ v8) then bif decide (v15 ≤ (9223372036854775807 : Nat)) then bif decide (isH v10) then bif decide (v17 ≤ (9223372036854775807 : Nat)) then ret (vS (v16 ++ v11)) else none else none else none else none else none else none else bif decide (isH (wHi (qV (wVal a b) (wVal (wHi (10 : Int)) (wLo (10 : Int))))) ∧ isW (wLo (qV (wVal a b) (wVal (wHi (10 : Int)) (wLo (10 : Int)))))) then bif decide (v19 = (0 : Int)) && (decide (v20 = (0 : Int)) && true) then bif decide (isH v2) then bif decide (v23 ≤ (9223372036854775807 : Nat)) then ret (vS ((tx [45]) ++ v21)) else none else none else bif decide (isH v19 ∧ isW v20 ∧ (0 : Int) ≤ v19) then bif decide (v25 ≤ (9223372036854775807 : Nat)) then bif decide (isH v2) then bif decide (v27 ≤ (9223372036854775807 : Nat)) then ret (vS (v26 ++ v21)) else none else none else none else none else none else none else none := by kernel_rfl

theorem minus_dec {v n d : Int} (hv : v = -(n * 10 + d)) (hn : 0 ≤ n) (hd : 0 ≤ d ∧ d < 10) (h : v < 0) : Lib.itoa v = 45 :: (if n = 0 then Lib.itoa d else Lib.decDigits n.toNat ++ Lib.itoa d) := by
  rw [itoa_neg h, itoa_pos hd.1, dec_small (show d.toNat < 10 by omega)]
  split
  · rw [dec_small (by omega), show (-v).toNat = d.toNat by omega]
  · rw [dec_big (by omega), show (-v).toNat / 10 = n.toNat by omega, show (-v).toNat % 10 = d.toNat by omega]
theorem minus_strs {n d : Int} (hn : n < 10 ^ 40) (hn0 : 0 ≤ n) (hd : 0 ≤ d ∧ d < 10) :
    (1 + (tx (Lib.decDigits n.toNat)).size) ≤ 9223372036854775807 ∧ (1 + (tx (Lib.itoa d)).size) ≤ 9223372036854775807 ∧ ((tx [(45 : UInt8)] ++ tx (Lib.decDigits n.toNat)).size + (tx (Lib.itoa d)).size) ≤ 9223372036854775807 := by
  have h1 := dec_len (k := 39) (show n.toNat < 10 ^ 40 by omega)
  rw [itoa_pos hd.1, dec_small (show d.toNat < 10 by omega), tx_append, tx_size, tx_size, tx_size, List.length_append]
  simp only [List.length_singleton]
  omega
theorem minus_run (a : Int) (b : Int) (hp : isH a ∧ isW b ∧ a < 0) : ∃ fu, minus_f.run minus_e [] fu [agg [.c (.int .i64 a), .c (.int .u64 b)]] [] = some ⟨vS (tx (Lib.itoa (wVal a b))), []⟩ := by
  refine ⟨0, ?_⟩
  rw [FnD.run, minus_ent]
  obtain ⟨ha, hb, h0⟩ := hp
  have hI := isI_val ha hb
  have hn := wVal_neg (a := a) hb
  simp only [wVal_mk]
  generalize wVal a b = v at *
  obtain ⟨e1, e2, e3, hi⟩ := div_I (D := 10) hI (by omega)
  have hv : v < 0 := by omega
  have hr : isH (v % 10) := isH_small (by omega) (by omega)
  rw [e1, e2]
  simp only [if_pos hr]
  have hI' := hI
  unfold isI at hI'
  have hr2 : isI (v % 10) := by unfold isI; omega
  refine condT ⟨ha, hb, by decide, by decide⟩ (condT (words_I hr2) ?_)
  by_cases hd : 0 < v % 10
  · have hq : isI (v / 10 + 1) := by unfold isI; omega
    have hm : isI (-(v / 10 + 1)) := by unfold isI; omega
    have w : IntKind.i64.wrap (10 - v % 10) = 10 - v % 10 := IntWalk.i64_in _ (by omega)
    rw [clip_in hq, clip_in hm, w, words_zero hm]
    obtain ⟨g1, g2, g3⟩ := minus_strs (n := -(v / 10 + 1)) (d := 10 - v % 10) (by omega) (by omega) (by omega)
    have key := minus_dec (v := v) (n := -(v / 10 + 1)) (d := 10 - v % 10) (by omega) (by omega) (by omega) hv
    refine condT hd (condT ⟨(words_I hi).1, (words_I hi).2, by decide, by decide⟩ (condT (words_I hq) ?_))
    by_cases hz : -(v / 10 + 1) = 0
    · rw [if_pos hz] at key
      refine condT hz (condT (isH_small (by omega) (by omega)) (condT g2 ?_))
      rw [tx_append]
      exact retS key.symm
    · rw [if_neg hz] at key
      refine condF hz (condT ⟨(words_I hm).1, (words_I hm).2, by unfold wHi; omega⟩ (condT g1 (condT (isH_small (by omega) (by omega)) (condT g3 ?_))))
      rw [tx_append, tx_append]
      exact retS (by rw [key]; rfl)
  · have hm : isI (-(v / 10)) := by unfold isI; omega
    rw [clip_in hm, words_zero hm]
    obtain ⟨g1, g2, g3⟩ := minus_strs (n := -(v / 10)) (d := v % 10) (by omega) (by omega) (by omega)
    have key := minus_dec (v := v) (n := -(v / 10)) (d := v % 10) (by omega) (by omega) (by omega) hv
    refine condF hd (condT (words_I hi) ?_)
    by_cases hz : -(v / 10) = 0
    · rw [if_pos hz] at key
      refine condT hz (condT hr (condT g2 ?_))
      rw [tx_append]
      exact retS key.symm
    · rw [if_neg hz] at key
      refine condF hz (condT ⟨(words_I hm).1, (words_I hm).2, by unfold wHi; omega⟩ (condT g1 (condT hr (condT g3 ?_))))
      rw [tx_append, tx_append]
      exact retS (by rw [key]; rfl)
theorem minus_ok (a : Int) (b : Int) (hp : isH a ∧ isW b ∧ a < 0) : FnOk cfg 164 ([agg [.c (.int .i64 a), .c (.int .u64 b)]].map SV.den) (vS (tx (Lib.itoa (wVal a b))) : SV).den := by
  obtain ⟨nn, h⟩ := minus_run a b hp
  exact FnD.ok minus_g minus_f mixed Tryz.func164 rfl rfl rfl rfl rfl rfl h
noncomputable def c_minus : SpecF := fun args _ K => match args with
  | [.one (.agg [.c (.int .i64 a), .c (.int .u64 b)])] => bif decide (isH a ∧ isW b ∧ a < 0) then K (vS (tx (Lib.itoa (wVal a b)))) [] else none
  | _ => none
theorem c_minus_ok : SpecOk cfg 164 c_minus := by
  intro args bx K out h
  unfold c_minus at h
  split at h
  · obtain ⟨hp, h⟩ := bif_some h
    exact ⟨_, _, h, .inl (minus_ok _ _ (of_decide_eq_true hp) _), by simp [isTupS]⟩
  · cases h
/-! ### dec.Print -/
noncomputable def dprint_e : Ev' := ⟨Tryz.prog, glob, Γof [(165, c_plus), (164, c_minus)]⟩
theorem dprint_g : Gd cfg dprint_e := gd (env_cons c_plus_ok (env_cons c_minus_ok (env_nil _)))
noncomputable def dprint_f : FnD := ⟨118, Tryz.f118, noSh, Tryz.f118.resultTypes.toList, 0⟩
theorem dprint_ent (h : Hd) (a : Int) (b : Int) : dprint_f.ent dprint_e [] h [agg [.c (.int .i64 a), .c (.int .u64 b)]] [] = bif decide (shrI IntKind.i64 a (63 : Int) = (-1 : Int)) then bif decide (isH a ∧ isW b ∧ a < (0 : Int)) then ret (vS (tx (Lib.itoa (wVal a b)))) else none else bif decide (isH a ∧ isW b ∧ (0 : Int) ≤ a) then ret (vS (tx (Lib.decDigits (wVal a b).toNat))) else none := by kernel_rfl
theorem dprint_run (a : Int) (b : Int) (hp : isH a ∧ isW b) : ∃ fu, dprint_f.run dprint_e [] fu [agg [.c (.int .i64 a), .c (.int .u64 b)]] [] = some ⟨vS (tx (Lib.itoa (wVal a b))), []⟩ := by
  refine ⟨0, ?_⟩
  rw [FnD.run, dprint_ent]
  obtain ⟨ha, hb⟩ := hp
  have hn := wVal_neg (a := a) hb
  have ha' := ha
  unfold isH at ha'
  rw [sar63]
  by_cases h : a < 0
  · exact condT (by omega) (condT ⟨ha, hb, h⟩ rfl)
  · refine condF (by omega) (condT ⟨ha, hb, by omega⟩ ?_)
    exact retS (itoa_pos (by omega)).symm
theorem dprint_ok (a : Int) (b : Int) (hp : isH a ∧ isW b) : FnOk cfg 118 ([agg [.c (.int .i64 a), .c (.int .u64 b)]].map SV.den) (vS (tx (Lib.itoa (wVal a b))) : SV).den := by
  obtain ⟨nn, h⟩ := dprint_run a b hp
  exact FnD.ok dprint_g dprint_f mixed Tryz.func118 rfl rfl rfl rfl rfl rfl h
noncomputable def c_dprint : SpecF := fun args _ K => match args with
  | [.one (.agg [.c (.int .i64 a), .c (.int .u64 b)])] => bif decide (isH a ∧ isW b) then K (vS (tx (Lib.itoa (wVal a b)))) [] else none
  | _ => none
theorem c_dprint_ok : SpecOk cfg 118 c_dprint := by
  intro args bx K out h
  unfold c_dprint at h
  split at h
  · obtain ⟨hp, h⟩ := bif_some h
    exact ⟨_, _, h, .inl (dprint_ok _ _ (of_decide_eq_true hp) _), by simp [isTupS]⟩
  · cases h
/-! ### dec.form -/
noncomputable def form_e : Ev' := ⟨Tryz.prog, glob, Γof [(242, c_trimp)]⟩
theorem form_g : Gd cfg form_e := gd (env_cons c_trimp_ok (env_nil _))
noncomputable def form_f : FnD := ⟨213, Tryz.f213, shOf [(0, ⟨34, [], [], [(3, .c (.str)), (19, .c (.int .i64)), (20, .c (.int .i64))]⟩)], Tryz.f213.resultTypes.toList, 0⟩
theorem form_ent (h : Hd) (s : ByteArray) : form_f.ent form_e [] h [vS s] [] = let v1 : Int := (bytesI (tx (Lib.trimPrefix s.data.toList (tx [45]).data.toList))).getD (0 : Nat) (0 : Int); bif eqB (tx (Lib.trimPrefix s.data.toList (tx [45]).data.toList)) (tx []) then ret (vB false) else bif inB (0 : Int) (tx (Lib.trimPrefix s.data.toList (tx [45]).data.toList)).size then bif decide (v1 = (48 : Int)) then bif !eqB s (tx [48]) then ret (vB false) else h (0 : Nat) [Lf.s (tx (Lib.trimPrefix s.data.toList (tx [45]).data.toList)), Lf.i (↑(tx (Lib.trimPrefix s.data.toList (tx [45]).data.toList)).size : Int), Lf.i (0 : Int)] else h (0 : Nat) [Lf.s (tx (Lib.trimPrefix s.data.toList (tx [45]).data.toList)), Lf.i (↑(tx (Lib.trimPrefix s.data.toList (tx [45]).data.toList)).size : Int), Lf.i (0 : Int)] else none := by kernel_rfl
theorem form_l0 (h : Hd) (s0 : ByteArray) (i1 : Int) (i2 : Int) : form_f.seg form_e [] h 0 [.s s0, .i i1, .i i2] = bif decide (i2 < i1) then bif inB i2 s0.size then bif decide ((bytesI s0).getD i2.toNat (0 : Int) < (48 : Int)) then ret (vB false) else bif inB i2 s0.size then bif decide ((57 : Int) < (bytesI s0).getD i2.toNat (0 : Int)) then ret (vB false) else h (0 : Nat) [Lf.s s0, Lf.i i1, Lf.i (IntKind.i64.wrap (i2 + (1 : Int)))] else none else none else ret (vB true) := by kernel_rfl

theorem form_loop (d : List UInt8) (hd : d.length ≤ 9223372036854775807) : ∀ (k i : Nat), i ≤ d.length → d.length - i < k → form_f.H form_e [] k 0 [.s (tx d), .i d.length, .i i] = ret (vB ((d.drop i).all isDig)) := by
  intro k
  induction k with
  | zero => intro i _ h; omega
  | succ k ih =>
    intro i hi hk
    rw [FnD.H_succ, form_l0]
    rw [bytes_get, tx_size, Int.toNat_natCast]
    by_cases h : i < d.length
    · have hb : inB (i : Int) d.length = true := (inB_iff _ _).2 (by omega)
      have e : d.getD i 0 = d[i] := by rw [List.getD_eq_getElem?_getD, List.getElem?_eq_getElem h]; rfl
      rw [List.drop_eq_getElem_cons h, List.all_cons, e]
      refine condT (by omega) (condB hb ?_)
      by_cases h1 : ((d[i].toNat : Nat) : Int) < 48
      · refine condT h1 ?_
        rw [show isDig d[i] = false by unfold isDig; rw [decide_eq_false (by omega)]; rfl]; rfl
      · refine condF h1 (condB hb ?_)
        by_cases h2 : 57 < ((d[i].toNat : Nat) : Int)
        · refine condT h2 ?_
          rw [show isDig d[i] = false by unfold isDig; rw [decide_eq_false (show ¬ d[i].toNat ≤ 57 by omega), Bool.and_false]]; rfl
        · refine condF h2 ?_
          rw [show isDig d[i] = true by unfold isDig; rw [decide_eq_true (by omega), decide_eq_true (by omega)]; rfl]
          rw [show IntKind.i64.wrap ((i : Int) + 1) = ((i + 1 : Nat) : Int) by rw [IntWalk.i64_in _ (by omega)]; omega]
          exact ih (i + 1) (by omega) (by omega)
    · refine condF (by omega) ?_
      rw [List.drop_eq_nil_of_le (by omega)]; rfl
theorem form_run (s : ByteArray) (hp : s.size ≤ 9223372036854775807) : ∃ fu, form_f.run form_e [] fu [vS s] [] = some ⟨vB (formL s.data.toList), []⟩ := by
  have hl : s.data.toList.length = s.size := Array.length_toList
  have ha := absL_len s.data.toList
  refine ⟨s.size + 1, ?_⟩
  rw [FnD.run, form_ent]
  rw [show (tx [(45 : UInt8)]).data.toList = [45] from rfl, show Lib.trimPrefix s.data.toList [45] = absL s.data.toList from rfl]
  dsimp only
  rw [eqB_tx, bytes_get, tx_size, eqB_s]
  unfold formL
  have lp := form_loop (absL s.data.toList) (by omega) (s.size + 1) 0 (by omega) (by omega)
  rw [List.drop_zero] at lp
  by_cases h0 : absL s.data.toList = []
  · refine condT h0 ?_
    rw [decide_eq_true h0]; rfl
  · have hn : 0 < (absL s.data.toList).length := List.length_pos_iff.2 h0
    refine condF h0 (condB ((inB_iff _ _).2 (by omega)) ?_)
    rw [decide_eq_false h0]
    by_cases h1 : (absL s.data.toList).getD 0 0 = 48
    · refine condT (by rw [h1]; rfl) ?_
      rw [decide_eq_true h1]
      by_cases h2 : s.data.toList = [48]
      · rw [decide_eq_true h2]
        exact condN rfl lp
      · rw [decide_eq_false h2]; rfl
    · refine condF (fun e => h1 ?_) ?_
      · exact UInt8.toNat_inj.1 (by have : (48 : UInt8).toNat = 48 := rfl
                                    omega)
      · rw [decide_eq_false h1]
        exact lp
theorem form_ok (s : ByteArray) (hp : s.size ≤ 9223372036854775807) : FnOk cfg 213 ([vS s].map SV.den) (vB (formL s.data.toList) : SV).den := by
  obtain ⟨nn, h⟩ := form_run s hp
  exact FnD.ok form_g form_f mixed Tryz.func213 rfl rfl rfl rfl rfl rfl h
noncomputable def c_form : SpecF := fun args _ K => match args with
  | [.one (.c (.str s))] => bif decide (s.size ≤ 9223372036854775807) then K (vB (formL s.data.toList)) [] else none
  | _ => none
theorem c_form_ok : SpecOk cfg 213 c_form := by
  intro args bx K out h
  unfold c_form at h
  split at h
  · obtain ⟨hp, h⟩ := bif_some h
    exact ⟨_, _, h, .inl (form_ok _ (of_decide_eq_true hp) _), by simp [isTupS]⟩
  · cases h
/-! ### dec.Parse -/
noncomputable def dparse_e : Ev' := ⟨Tryz.prog, glob, Γof [(213, c_form), (123, c_cutp), (85, c_wof), (214, c_wdmul), (205, c_wdadd)]⟩
theorem dparse_g : Gd cfg dparse_e := gd (env_cons c_form_ok (env_cons c_cutp_ok (env_cons c_wof_ok (env_cons c_wdmul_ok (env_cons c_wdadd_ok (env_nil _))))))
noncomputable def dparse_f : FnD := ⟨168, Tryz.f168, shOf [(0, ⟨57, [], [(2, [.c (.int .i64), .c (.int .u64)]), (6, [.c (.int .i64), .c (.int .u64)])], [(2, .c (.ptr 2 0)), (4, .c (.str)), (5, .c (.bool)), (6, .c (.ptr 6 0)), (22, .c (.int .i64)), (23, .c (.int .i64))]⟩)], Tryz.f168.resultTypes.toList, 0⟩
theorem dparse_ent (h : Hd) (s : ByteArray) : dparse_f.ent dparse_e [] h [vS s] [] = bif decide (s.size ≤ (9223372036854775807 : Nat)) then bif !formL s.data.toList then ret (SV.tup [S1.agg [gI (0 : Int), gU (0 : Int)], tI (4 : Int)]) else h (0 : Nat) [Lf.i (0 : Int), Lf.i (0 : Int), Lf.i (0 : Int), Lf.i (0 : Int), Lf.s (tx (Lib.trimPrefix s.data.toList (tx [45]).data.toList)), Lf.b (Lib.hasPrefix s.data.toList (tx [45]).data.toList), Lf.i (↑(tx (Lib.trimPrefix s.data.toList (tx [45]).data.toList)).size : Int), Lf.i (0 : Int)] else none := by kernel_rfl
theorem dparse_l0 (h : Hd) (i0 : Int) (i1 : Int) (i2 : Int) (i3 : Int) (s4 : ByteArray) (b5 : Bool) (i6 : Int) (i7 : Int) : dparse_f.seg dparse_e [] h 0 [.i i0, .i i1, .i i2, .i i3, .s s4, .b b5, .i i6, .i i7] = let v1 : Int := IntKind.i64.wrap (IntKind.u8.wrap ((bytesI s4).getD i7.toNat (0 : Int) - (48 : Int))); let v2 : Int := IntKind.i64.wrap ((0 : Int) - v1); let v3 : Int := wHi (clip (wVal i2 i3 * wVal (wHi (10 : Int)) (wLo (10 : Int)))); let v4 : Int := wLo (clip (wVal i2 i3 * wVal (wHi (10 : Int)) (wLo (10 : Int)))); let v5 : Int := wHi v2; let v6 : Int := wLo v2; let v7 : Int := wVal v3 v4 + wVal v5 v6; let v8 : Int := errV v7; let v9 : Int := clip v7; let v10 : Int := wHi v1; let v11 : Int := wLo v1; let v12 : Int := wVal v3 v4 + wVal v10 v11; let v13 : Int := errV v12; let v14 : Int := clip v12; bif decide (i7 < i6) then bif inB i7 s4.size then bif b5 then bif decide (isH i2 ∧ isW i3 ∧ isH (wHi (10 : Int)) ∧ isW (wLo (10 : Int))) then bif !decide (errV (wVal i2 i3 * wVal (wHi (10 : Int)) (wLo (10 : Int))) = (0 : Int)) then ret (SV.tup [S1.agg [gI (0 : Int), gU (0 : Int)], tI (errV (wVal i2 i3 * wVal (wHi (10 : Int)) (wLo (10 : Int))))]) else bif decide (isH v2) then bif decide (isH v3 ∧ isW v4 ∧ isH v5 ∧ isW v6) then bif !decide (v8 = (0 : Int)) then ret (SV.tup [S1.agg [gI (0 : Int), gU (0 : Int)], tI v8]) else h (0 : Nat) [Lf.i i0, Lf.i i1, Lf.i (wHi v9), Lf.i (wLo v9), Lf.s s4, Lf.b b5, Lf.i i6, Lf.i (IntKind.i64.wrap (i7 + (1 : Int)))] else none else none else none else bif decide (isH i2 ∧ isW i3 ∧ isH (wHi (10 : Int)) ∧ isW (wLo (10 : Int))) then bif !decide (errV (wVal i2 i3 * wVal (wHi (10 : Int)) (wLo (10 : Int))) = (0 : Int)) then ret (SV.tup [S1.agg [gI (0 : Int), gU (0 : Int)], tI (errV (wVal i2 i3 * wVal (wHi (10 : Int)) (wLo (10 : Int))))]) else bif decide (isH v1) then bif decide (isH v3 ∧ isW v4 ∧ isH v10 ∧ isW v11) then bif !decide (v13 = (0 : Int)) then ret (SV.tup [S1.agg [gI (0 : Int), gU (0 : Int)], tI v13]) else h (0 : Nat) [Lf.i i0, Lf.i i1, Lf.i (wHi v14), Lf.i (wLo v14), Lf.s s4, Lf.b b5, Lf.i i6, Lf.i (IntKind.i64.wrap (i7 + (1 : Int)))] else none else none else none else none else ret (SV.tup [S1.agg [gI i2, gU i3], tI (0 : Int)]) := by kernel_rfl

theorem sgn_add {neg : Bool} {x c : Int} : sgn neg x * 10 + sgn neg c = sgn neg (x * 10 + c) := by
  cases neg
  · rfl
  · show -x * 10 + -c = -(x * 10 + c); omega
theorem dparse_loop (neg : Bool) (d : List UInt8) (hd : d.length ≤ 9223372036854775807) (hg : d.all isDig = true) (z1 z2 : Int) : ∀ (k i : Nat), i ≤ d.length → d.length - i < k → isI (sgn neg (dval (d.take i))) →
    dparse_f.H dparse_e [] k 0 [.i z1, .i z2, .i (wHi (sgn neg (dval (d.take i)))), .i (wLo (sgn neg (dval (d.take i)))), .s (tx d), .b neg, .i d.length, .i i] = some ⟨.tup [.agg [gI (wHi (clip (sgn neg (dval d)))), gU (wLo (clip (sgn neg (dval d))))], tI (errV (sgn neg (dval d)))], []⟩ := by
  intro k
  induction k with
  | zero => intro i _ h; omega
  | succ k ih =>
    intro i hi hk hI
    rw [FnD.H_succ, dparse_l0]
    simp only [wVal_mk, bytes_get, tx_size, Int.toNat_natCast]
    by_cases h : i < d.length
    · obtain ⟨t1, t2, t3, t4, t5⟩ := dval_take hg h
      have hb : inB (i : Int) d.length = true := (inB_iff _ _).2 (by omega)
      have w : IntKind.i64.wrap (IntKind.u8.wrap (((d.getD i 0).toNat : Int) - 48)) = dig (d.getD i 0) := by
        rw [IntWalk.u8_in _ (by unfold dig at t3 t4; omega), IntWalk.i64_in _ (by unfold dig at t3 t4; omega)]; rfl
      rw [w, show IntKind.i64.wrap (0 - dig (d.getD i 0)) = - dig (d.getD i 0) by rw [IntWalk.i64_in _ (by omega)]; omega]
      rw [show IntKind.i64.wrap ((i : Int) + 1) = ((i + 1 : Nat) : Int) by rw [IntWalk.i64_in _ (by omega)]; omega]
      generalize hc : dig (d.getD i 0) = c at *
      generalize hx : dval (d.take i) = x at *
      refine condT (by omega) (condB hb ?_)
      have hw := words_I hI
      have g10 : isH (wHi (sgn neg x)) ∧ isW (wLo (sgn neg x)) ∧ isH (wHi 10) ∧ isW (wLo 10) := ⟨hw.1, hw.2, by decide, by decide⟩
      have key : ∀ (nx : Int), nx = sgn neg c → (bif decide (isH (wHi (sgn neg x)) ∧ isW (wLo (sgn neg x)) ∧ isH (wHi 10) ∧ isW (wLo 10)) then
          bif !decide (errV (sgn neg x * 10) = 0) then ret (.tup [.agg [gI 0, gU 0], tI (errV (sgn neg x * 10))]) else
          bif decide (isH nx) then bif decide (isH (wHi (clip (sgn neg x * 10))) ∧ isW (wLo (clip (sgn neg x * 10))) ∧ isH (wHi nx) ∧ isW (wLo nx)) then
          bif !decide (errV (clip (sgn neg x * 10) + nx) = 0) then ret (.tup [.agg [gI 0, gU 0], tI (errV (clip (sgn neg x * 10) + nx))]) else
          dparse_f.H dparse_e [] k 0 [.i z1, .i z2, .i (wHi (clip (clip (sgn neg x * 10) + nx))), .i (wLo (clip (clip (sgn neg x * 10) + nx))), .s (tx d), .b neg, .i d.length, .i ((i + 1 : Nat) : Int)] else none else none else none) = some ⟨.tup [.agg [gI (wHi (clip (sgn neg (dval d)))), gU (wLo (clip (sgn neg (dval d))))], tI (errV (sgn neg (dval d)))], []⟩ := by
        intro nx hnx
        have e10 : sgn neg x * 10 = sgn neg (x * 10) := by cases neg <;> simp [sgn] <;> omega
        refine condT g10 ?_
        by_cases h1 : isI (sgn neg x * 10)
        · rw [errV_in h1, clip_in h1, hnx, sgn_add]
          have hcI : isI (sgn neg c) := by unfold isI; cases neg <;> simp [sgn] <;> omega
          refine condN rfl (condT (isH_small (by cases neg <;> simp [sgn] <;> omega) (by cases neg <;> simp [sgn] <;> omega)) (condT ⟨(words_I h1).1, (words_I h1).2, (words_I hcI).1, (words_I hcI).2⟩ ?_))
          by_cases h2 : isI (sgn neg (x * 10 + c))
          · rw [errV_in h2, clip_in h2]
            refine condN rfl ?_
            have := ih (i + 1) (by omega) (by omega) (by rw [t1]; exact h2)
            rw [t1] at this
            exact this
          · have hno : ¬ isI (sgn neg (dval d)) := fun hh => h2 (sgn_I (by omega) (by omega) hh)
            rw [errV_out h2, errV_out hno, clip_out hno]; rfl
        · have hno : ¬ isI (sgn neg (dval d)) := fun hh => h1 (by rw [e10]; exact sgn_I (by omega) (by omega) hh)
          rw [errV_out h1, errV_out hno, clip_out hno]; rfl
      cases neg with
      | true => exact key (-c) rfl
      | false => exact key c rfl
    · refine condF (by omega) ?_
      rw [List.take_of_length_le (by omega)] at hI ⊢
      rw [clip_in hI, errV_in hI]
theorem dparse_run (s : ByteArray) (hp : s.size ≤ 9223372036854775807) : ∃ fu, dparse_f.run dparse_e [] fu [vS s] [] = some ⟨.tup [.agg [gI (wHi (pV s.data.toList)), gU (wLo (pV s.data.toList))], tI (pE s.data.toList)], []⟩ := by
  have hl : s.data.toList.length = s.size := Array.length_toList
  have ha := absL_len s.data.toList
  refine ⟨s.size + 1, ?_⟩
  rw [FnD.run, dparse_ent]
  rw [show (tx [(45 : UInt8)]).data.toList = [45] from rfl, show Lib.trimPrefix s.data.toList [45] = absL s.data.toList from rfl, show Lib.hasPrefix s.data.toList [45] = isMin s.data.toList from rfl]
  refine condT hp ?_
  unfold pV pE numL
  cases hf : formL s.data.toList with
  | false => rfl
  | true =>
    refine condN rfl ?_
    rw [if_pos rfl, if_pos rfl, tx_size]
    have hg : (absL s.data.toList).all isDig = true := by
      unfold formL at hf
      rw [Bool.and_eq_true] at hf
      exact hf.2
    have z : sgn (isMin s.data.toList) (dval ((absL s.data.toList).take 0)) = 0 := by cases isMin s.data.toList <;> rfl
    have := dparse_loop (isMin s.data.toList) (absL s.data.toList) (by omega) hg 0 0 (s.size + 1) 0 (by omega) (by omega) (by rw [z]; decide)
    rw [z] at this
    exact this
theorem dparse_ok (s : ByteArray) (hp : s.size ≤ 9223372036854775807) : FnOk cfg 168 ([vS s].map SV.den) (.tup [.agg [gI (wHi (pV s.data.toList)), gU (wLo (pV s.data.toList))], tI (pE s.data.toList)] : SV).den := by
  obtain ⟨nn, h⟩ := dparse_run s hp
  exact FnD.ok dparse_g dparse_f mixed Tryz.func168 rfl rfl rfl rfl rfl rfl h
noncomputable def c_dparse : SpecF := fun args _ K => match args with
  | [.one (.c (.str s))] => bif decide (s.size ≤ 9223372036854775807) then K (.tup [.agg [gI (wHi (pV s.data.toList)), gU (wLo (pV s.data.toList))], tI (pE s.data.toList)]) [] else none
  | _ => none
theorem c_dparse_ok : SpecOk cfg 168 c_dparse := by
  intro args bx K out h
  unfold c_dparse at h
  split at h
  · obtain ⟨hp, h⟩ := bif_some h
    exact ⟨_, _, h, .inl (dparse_ok _ (of_decide_eq_true hp) _), by simp [isTupS]⟩
  · cases h
end Go.Proofs.YtldofkogmkfpjaaGreatDoor
