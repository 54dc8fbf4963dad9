/-
  The statements of layer 4 (dec), as functions.
-/
import Derived.Test.YtldofkogmkfpjaaDoorDeSyRef01b
import Derived.Test.YtldofkogmkfpjaaDoorPBig
import Derived.Test.YtldofkogmkfpjaaDoorPLex
import Derived.Test.YtldofkogmkfpjaaDoorPDecLaw
namespace Go.Proofs.YtldofkogmkfpjaaDoor
open Go Go.Ev Go.Sy
set_option linter.unusedSimpArgs false
set_option linter.unusedVariables false
set_option maxRecDepth 10000
set_option maxHeartbeats 4000000
/-! ### epactlaw04.answers -/
noncomputable def dans_e : Ev' := ⟨Tryd.prog, glob, Γof [(31, c_dparse), (30, c_dprint)]⟩
theorem dans_g : Gd cfg dans_e := gd (env_cons c_dparse_ok (env_cons c_dprint_ok (env_nil _)))
noncomputable def dans_f : FnD := ⟨32, Tryd.f32, noSh, Tryd.f32.resultTypes.toList⟩
theorem dans_ent (h : Hd)  : dans_f.ent dans_e [] h [] [] = ret (vB true) := by kernel_rfl
theorem dans_run  : ∃ fu, dans_f.run dans_e [] fu [] [] = some ⟨vB true, []⟩ := by
  refine ⟨0, ?_⟩
  rw [FnD.run, dans_ent]
theorem dans_ok  : FnOk cfg 32 ([].map SV.den) (vB true : SV).den := by
  obtain ⟨nn, h⟩ := dans_run 
  exact FnD.ok dans_g dans_f mixed Tryd.func32 rfl rfl rfl rfl rfl rfl h
noncomputable def c_dans : SpecF := fun args _ K => match args with
  | [] => K (vB true) []
  | _ => none
theorem c_dans_ok : SpecOk cfg 32 c_dans := by
  intro args bx K out h
  unfold c_dans at h
  split at h
  · exact ⟨_, _, h, .inl (dans_ok  _), by simp [isTupS]⟩
  · cases h

theorem retTr {b : Bool} (h : b = true) : (ret (vB b)) = some ⟨vB true, []⟩ := by rw [h]
theorem bigD_len10 {n k : Nat} (h : n < 10 ^ k) : (bigD n).length ≤ k := bigD_len (Nat.lt_of_lt_of_le h (Nat.pow_le_pow_left (by omega) k))
/-! ### epactlaw04.DecPrints -/
noncomputable def ldprints_e : Ev' := ⟨Tryd.prog, glob, Γof [(31, c_dparse), (30, c_dprint), (32, c_dans), (33, c_rtext), (34, c_rbof)]⟩
theorem ldprints_g : Gd cfg ldprints_e := gd (env_cons c_dparse_ok (env_cons c_dprint_ok (env_cons c_dans_ok (env_cons c_rtext_ok (env_cons c_rbof_ok (env_nil _))))))
noncomputable def ldprints_f : FnD := ⟨8, Tryd.f8, noSh, Tryd.f8.resultTypes.toList⟩
theorem ldprints_ent (h : Hd) (a : Int) (b : Int) : ldprints_f.ent ldprints_e [] h [agg [.c (.int .i64 a), .c (.int .u64 b)]] [] = let v1 : Int := bV (decide (wVal a b < (0 : Int))) (bigD (wVal a b).natAbs); bif decide (isH a ∧ isW b) then bif decide ((tx (Lib.itoa (wVal a b))).size ≤ (9223372036854775807 : Nat)) then bif decide (isH a ∧ isW b) then bif decide (isBig (decide (wVal a b < (0 : Int))) (bigD (wVal a b).natAbs) ∧ isI v1) then bif eqB (tx (Lib.itoa (wVal a b))) (tx (Lib.itoa v1)) then bif decide (pE (tx (Lib.itoa (wVal a b))).data.toList = (0 : Int)) then ret (vB (decide (wHi (pV (tx (Lib.itoa (wVal a b))).data.toList) = a) && (decide (wLo (pV (tx (Lib.itoa (wVal a b))).data.toList) = b) && true))) else ret (vB false) else ret (vB false) else none else none else none else none := by kernel_rfl
theorem ldprints_run (a : Int) (b : Int) (hp : isH a ∧ isW b) : ∃ fu, ldprints_f.run ldprints_e [] fu [agg [.c (.int .i64 a), .c (.int .u64 b)]] [] = some ⟨vB true, []⟩ := by
  refine ⟨0, ?_⟩
  rw [FnD.run, ldprints_ent]
  obtain ⟨ha, hb⟩ := hp
  have hI := isI_val ha hb
  have hl := itoa_len hI
  obtain ⟨f1, f2⟩ := itoa_form (wVal a b)
  obtain ⟨p1, p2⟩ := parse_in f1 (by rw [f2]; exact hI)
  dsimp only
  rw [bV_mk, tx_toList, p1, p2, f2, tx_size]
  refine condT ⟨ha, hb⟩ (condT (by omega) (condT ⟨ha, hb⟩ (condT ⟨(isBig_mk _).1, hI⟩ (condB (by rw [eqB_tx]; simp) (condT rfl (retTr ?_))))))
  rw [wHi_val hb, wLo_val hb]; simp
theorem ldprints_ok (a : Int) (b : Int) (hp : isH a ∧ isW b) : FnOk cfg 8 ([agg [.c (.int .i64 a), .c (.int .u64 b)]].map SV.den) (vB true : SV).den := by
  obtain ⟨nn, h⟩ := ldprints_run a b hp
  exact FnD.ok ldprints_g ldprints_f mixed Tryd.func8 rfl rfl rfl rfl rfl rfl h
noncomputable def c_ldprints : SpecF := fun args _ K => match args with
  | [.one (.agg [.c (.int .i64 a), .c (.int .u64 b)])] => bif decide (isH a ∧ isW b) then K (vB true) [] else none
  | _ => none
theorem c_ldprints_ok : SpecOk cfg 8 c_ldprints := by
  intro args bx K out h
  unfold c_ldprints at h
  split at h
  · obtain ⟨hp, h⟩ := bif_some h
    exact ⟨_, _, h, .inl (ldprints_ok _ _ (of_decide_eq_true hp) _), by simp [isTupS]⟩
  · cases h
/-! ### epactlaw04.DecParses -/
noncomputable def ldparses_e : Ev' := ⟨Tryd.prog, glob, Γof [(31, c_dparse), (30, c_dprint), (32, c_dans), (35, c_rnum), (36, c_rbwide)]⟩
theorem ldparses_g : Gd cfg ldparses_e := gd (env_cons c_dparse_ok (env_cons c_dprint_ok (env_cons c_dans_ok (env_cons c_rnum_ok (env_cons c_rbwide_ok (env_nil _))))))
noncomputable def ldparses_f : FnD := ⟨9, Tryd.f9, noSh, Tryd.f9.resultTypes.toList⟩
theorem ldparses_ent (h : Hd) (s : ByteArray) : ldparses_f.ent ldparses_e [] h [vS s] [] = let v1 : Int := if formL s.data.toList = true then numL s.data.toList else (0 : Int); let v2 : List Int := bigD v1.natAbs; let v3 : Nat := v2.length; let v4 : Int := bV (decide (v1 < (0 : Int))) v2; let v5 : Int := clip v4; let v6 : Int := wHi v5; let v7 : Int := wLo v5; bif decide (s.size ≤ (9223372036854775807 : Nat)) then bif decide (s.size ≤ (100000000 : Nat)) then bif !formL s.data.toList then bif decide (pE s.data.toList = (4 : Int)) then ret (vB (decide (wHi (pV s.data.toList) = (0 : Int)) && (decide (wLo (pV s.data.toList) = (0 : Int)) && true))) else ret (vB false) else bif decide (isBig (decide (v1 < (0 : Int))) v2 ∧ v3 ≤ (1000000000 : Nat)) then bif !decide (isI v4) then bif decide (pE s.data.toList = (2 : Int)) then ret (vB (decide (wHi (pV s.data.toList) = (0 : Int)) && (decide (wLo (pV s.data.toList) = (0 : Int)) && true))) else ret (vB false) else bif decide (pE s.data.toList = (0 : Int)) then bif decide (wHi (pV s.data.toList) = v6) && (decide (wLo (pV s.data.toList) = v7) && true) then bif decide (isH (wHi (pV s.data.toList)) ∧ isW (wLo (pV s.data.toList))) then ret (vB (eqB (tx (Lib.itoa (wVal (wHi (pV s.data.toList)) (wLo (pV s.data.toList))))) s)) else none else ret (vB false) else ret (vB false) else none else none else none := by kernel_rfl
theorem ldparses_run (s : ByteArray) (hp : s.size ≤ 100000000) : ∃ fu, ldparses_f.run ldparses_e [] fu [vS s] [] = some ⟨vB true, []⟩ := by
  refine ⟨0, ?_⟩
  rw [FnD.run, ldparses_ent]
  obtain ⟨L, rfl, hl⟩ := tx_get s
  rw [tx_toList]
  rw [tx_size] at hp
  dsimp only
  rw [bV_mk, tx_size]
  refine condT (by omega) (condT hp ?_)
  cases hf : formL L with
  | false =>
    obtain ⟨p1, p2⟩ := parse_no hf
    rw [p1, p2]
    exact condB rfl (condT rfl (retTr rfl))
  | true =>
    have hn := numL_len hf
    rw [if_pos rfl]
    refine condN rfl (condT ⟨(isBig_mk _).1, Nat.le_trans (bigD_len10 hn) (by omega)⟩ ?_)
    by_cases hI : isI (numL L)
    · obtain ⟨p1, p2⟩ := parse_in hf hI
      rw [p1, p2, clip_in hI, wVal_mk, form_itoa hf]
      exact condN (by rw [decide_eq_true hI]; rfl) (condT rfl (condB (by simp) (condT (words_I hI) (retTr (by rw [eqB_tx]; simp)))))
    · obtain ⟨p1, p2⟩ := parse_out hf hI
      rw [p1, p2]
      exact condB (by rw [decide_eq_false hI]; rfl) (condT rfl (retTr rfl))
theorem ldparses_ok (s : ByteArray) (hp : s.size ≤ 100000000) : FnOk cfg 9 ([vS s].map SV.den) (vB true : SV).den := by
  obtain ⟨nn, h⟩ := ldparses_run s hp
  exact FnD.ok ldparses_g ldparses_f mixed Tryd.func9 rfl rfl rfl rfl rfl rfl h
noncomputable def c_ldparses : SpecF := fun args _ K => match args with
  | [.one (.c (.str s))] => bif decide (s.size ≤ 100000000) then K (vB true) [] else none
  | _ => none
theorem c_ldparses_ok : SpecOk cfg 9 c_ldparses := by
  intro args bx K out h
  unfold c_ldparses at h
  split at h
  · obtain ⟨hp, h⟩ := bif_some h
    exact ⟨_, _, h, .inl (ldparses_ok _ (of_decide_eq_true hp) _), by simp [isTupS]⟩
  · cases h
/-! ### epactlaw04.DecLong -/
noncomputable def ldlong_e : Ev' := ⟨Tryd.prog, glob, Γof [(31, c_dparse), (30, c_dprint), (32, c_dans)]⟩
theorem ldlong_g : Gd cfg ldlong_e := gd (env_cons c_dparse_ok (env_cons c_dprint_ok (env_cons c_dans_ok (env_nil _))))
noncomputable def ldlong_f : FnD := ⟨10, Tryd.f10, shOf [(0, ⟨81, [(7, ⟨.ints .u8, false, false⟩)], [], [(0, .c (.int .u16)), (1, .c (.int .u8)), (7, .c (.sl 7 1)), (8, .c (.int .i64))]⟩)], Tryd.f10.resultTypes.toList⟩
theorem ldlong_ent (h : Hd) (n : Int) (d : Int) (b : Bool) : ldlong_f.ent ldlong_e [] h [c1 (.int .u16 n), c1 (.int .u8 d), vB b] [] = bif b then h (0 : Nat) [Lf.l [(45 : Int)], Lf.i n, Lf.i d, Lf.i (0 : Int)] else h (0 : Nat) [Lf.l [], Lf.i n, Lf.i d, Lf.i (0 : Int)] := by kernel_rfl
theorem ldlong_l0 (h : Hd) (l0 : List Int) (i1 : Int) (i2 : Int) (i3 : Int) : ldlong_f.seg ldlong_e [] h 0 [.l l0, .i i1, .i i2, .i i3] = let v1 : List Int := List.take l0.length l0 ++ [IntKind.u8.wrap ((49 : Int) + i2.tmod (9 : Int))]; let v2 : Nat := v1.length; let v3 : ByteArray := tx (Lib.itoa (wVal (wHi (pV (textOf (List.take l0.length l0)).data.toList)) (wLo (pV (textOf (List.take l0.length l0)).data.toList)))); bif decide (i3 < IntKind.i64.wrap (IntKind.i64.wrap (i1.tmod (300 : Int)) + (1 : Int))) then bif decide (l0.length ≤ l0.length) && roomB (l0.length + (1 : Nat)) (1 : Nat) then bif decide (l0.length + (1 : Nat) = v2) then h (0 : Nat) [Lf.l v1, Lf.i i1, Lf.i i2, Lf.i (IntKind.i64.wrap (i3 + (1 : Int)))] else none else none else bif decide (l0.length ≤ l0.length) then bif decide ((textOf (List.take l0.length l0)).size ≤ (9223372036854775807 : Nat)) then bif decide (i1.tmod (300 : Int) < (38 : Int)) then bif decide (pE (textOf (List.take l0.length l0)).data.toList = (0 : Int)) then bif decide (isH (wHi (pV (textOf (List.take l0.length l0)).data.toList)) ∧ isW (wLo (pV (textOf (List.take l0.length l0)).data.toList))) then bif decide (l0.length ≤ l0.length) then ret (vB (eqB v3 (textOf (List.take l0.length l0)))) else none else none else ret (vB false) else bif decide (i1.tmod (300 : Int) = (38 : Int)) then bif decide (pE (textOf (List.take l0.length l0)).data.toList = (2 : Int)) then bif decide (wHi (pV (textOf (List.take l0.length l0)).data.toList) = (0 : Int)) && (decide (wLo (pV (textOf (List.take l0.length l0)).data.toList) = (0 : Int)) && true) then ret (vB true) else bif decide (pE (textOf (List.take l0.length l0)).data.toList = (0 : Int)) then bif decide (isH (wHi (pV (textOf (List.take l0.length l0)).data.toList)) ∧ isW (wLo (pV (textOf (List.take l0.length l0)).data.toList))) then bif decide (l0.length ≤ l0.length) then ret (vB (eqB v3 (textOf (List.take l0.length l0)))) else none else none else ret (vB false) else bif decide (pE (textOf (List.take l0.length l0)).data.toList = (0 : Int)) then bif decide (isH (wHi (pV (textOf (List.take l0.length l0)).data.toList)) ∧ isW (wLo (pV (textOf (List.take l0.length l0)).data.toList))) then bif decide (l0.length ≤ l0.length) then ret (vB (eqB v3 (textOf (List.take l0.length l0)))) else none else none else ret (vB false) else bif decide (pE (textOf (List.take l0.length l0)).data.toList = (2 : Int)) then bif decide (pE (textOf (List.take l0.length l0)).data.toList = (2 : Int)) then bif decide (wHi (pV (textOf (List.take l0.length l0)).data.toList) = (0 : Int)) && (decide (wLo (pV (textOf (List.take l0.length l0)).data.toList) = (0 : Int)) && true) then ret (vB true) else bif decide (pE (textOf (List.take l0.length l0)).data.toList = (0 : Int)) then bif decide (isH (wHi (pV (textOf (List.take l0.length l0)).data.toList)) ∧ isW (wLo (pV (textOf (List.take l0.length l0)).data.toList))) then bif decide (l0.length ≤ l0.length) then ret (vB (eqB v3 (textOf (List.take l0.length l0)))) else none else none else ret (vB false) else bif decide (pE (textOf (List.take l0.length l0)).data.toList = (0 : Int)) then bif decide (isH (wHi (pV (textOf (List.take l0.length l0)).data.toList)) ∧ isW (wLo (pV (textOf (List.take l0.length l0)).data.toList))) then bif decide (l0.length ≤ l0.length) then ret (vB (eqB v3 (textOf (List.take l0.length l0)))) else none else none else ret (vB false) else ret (vB false) else none else none := by kernel_rfl

theorem textOf_map (l : List UInt8) : textOf (l.map fun c : UInt8 => (c.toNat : Int)) = tx l := by
  unfold textOf tx
  congr 2
  rw [List.map_map]
  conv => rhs; rw [← List.map_id l]
  exact List.map_congr_left fun c _ => by simp
theorem ldlong_loop (n d : Nat) (hn : n < 65536) (hd : d < 256) (b : Bool) : ∀ (k i : Nat), i + k = n % 300 + 1 →
    ldlong_f.H ldlong_e [] (k + 1) 0 [.l (((if b then [(45 : UInt8)] else []) ++ List.replicate i (UInt8.ofNat (49 + d % 9))).map fun c : UInt8 => (c.toNat : Int)), .i n, .i d, .i i] = ret (vB true) := by
  have hc1 : (UInt8.ofNat (49 + d % 9)).toNat = 49 + d % 9 := by rw [UInt8.toNat_ofNat']; omega
  have hcd : isDig (UInt8.ofNat (49 + d % 9)) = true := by unfold isDig; rw [hc1, decide_eq_true (by omega), decide_eq_true (by omega)]; rfl
  have hc0 : UInt8.ofNat (49 + d % 9) ≠ 48 := fun e => by
    rw [e] at hc1; have : (48 : UInt8).toNat = 48 := rfl
    omega
  generalize hc : UInt8.ofNat (49 + d % 9) = c at *
  have w0 : (n : Int).tmod 300 = ((n % 300 : Nat) : Int) := by rw [IntWalk.rem_in _ _ (by omega)]; omega
  have w9 : IntKind.u8.wrap (49 + (d : Int).tmod 9) = (c.toNat : Int) := by rw [IntWalk.rem_in _ _ (by omega), IntWalk.u8_in _ (by omega)]; omega
  have w00 : IntKind.i64.wrap ((n % 300 : Nat) : Int) = ((n % 300 : Nat) : Int) := IntWalk.i64_in _ (by omega)
  intro k
  induction k with
  | zero =>
    intro i hi
    have hi' : i = n % 300 + 1 := by omega
    subst hi'
    obtain ⟨f1, f2, f3, f4⟩ := long_form hcd hc0 b (n % 300)
    have hlen : ((if b then [(45 : UInt8)] else []) ++ List.replicate (n % 300 + 1) c).length ≤ 1000 := by
      rw [List.length_append, List.length_replicate]; cases b <;> simp <;> omega
    generalize hL : (if b then [(45 : UInt8)] else []) ++ List.replicate (n % 300 + 1) c = L at *
    rw [FnD.H_succ, ldlong_l0]
    dsimp only
    rw [List.take_length, textOf_map, tx_toList, tx_size, w0, w9]
    have w1 : IntKind.i64.wrap (((n % 300 : Nat) : Int) + 1) = ((n % 300 + 1 : Nat) : Int) := by rw [IntWalk.i64_in _ (by omega)]; omega
    rw [w00, w1]
    have good : isI (numL L) → pE L = 0 ∧ (bif decide (pE L = 0) then bif decide (isH (wHi (pV L)) ∧ isW (wLo (pV L))) then bif decide ((L.map fun c : UInt8 => (c.toNat : Int)).length ≤ (L.map fun c : UInt8 => (c.toNat : Int)).length) then ret (vB (eqB (tx (Lib.itoa (wVal (wHi (pV L)) (wLo (pV L))))) (tx L))) else none else none else ret (vB false)) = some ⟨vB true, []⟩ := fun hI => by
      obtain ⟨p1, p2⟩ := parse_in f1 hI
      rw [p1, p2, wVal_mk, form_itoa f1]
      exact ⟨rfl, condT rfl (condT (words_I hI) (condT (Nat.le_refl _) (retTr (by rw [eqB_tx]; simp))))⟩
    have p38 : (10 : Int) ^ 38 = 100000000000000000000000000000000000000 := rfl
    have p39 : (10 : Int) ^ 39 = 1000000000000000000000000000000000000000 := rfl
    refine condF (by omega) (condT (Nat.le_refl _) (condT (by omega) ?_))
    by_cases h1 : n % 300 < 38
    · have hI : isI (numL L) := by
        have e : (10 : Int) ^ (n % 300 + 1) ≤ 10 ^ 38 := by
          have := Nat.pow_le_pow_right (n := 10) (by omega) (show n % 300 + 1 ≤ 38 by omega)
          have e1 : ∀ j : Nat, (10 : Int) ^ j = ((10 ^ j : Nat) : Int) := fun j => by rw [Int.natCast_pow]; rfl
          rw [e1, e1]; exact Int.ofNat_le.2 this
        rw [f2]
        have hp : (0 : Int) < 10 ^ (n % 300) := Int.pow_pos (by omega)
        unfold isI sgn
        cases b <;> simp <;> omega
      exact condT (by omega) (good hI).2
    · refine condF (by omega) ?_
      have bad : ¬ isI (numL L) → pE L = 2 ∧ (bif decide (pE L = 2) then bif decide (wHi (pV L) = 0) && (decide (wLo (pV L) = 0) && true) then ret (vB true) else none else none) = some ⟨vB true, []⟩ := fun hI => by
        obtain ⟨p1, p2⟩ := parse_out f1 hI
        rw [p1, p2]; exact ⟨rfl, rfl⟩
      by_cases h2 : n % 300 = 38
      · refine condT (by omega) ?_
        by_cases hI : isI (numL L)
        · obtain ⟨g1, g2⟩ := good hI
          exact condF (by rw [g1]; omega) g2
        · obtain ⟨p1, p2⟩ := parse_out f1 hI
          rw [p1, p2]
          exact condT rfl (condB rfl rfl)
      · have hI : ¬ isI (numL L) := by
          have e : (10 : Int) ^ 39 ≤ 10 ^ (n % 300) := by
            have := Nat.pow_le_pow_right (n := 10) (by omega) (show 39 ≤ n % 300 by omega)
            have e1 : ∀ j : Nat, (10 : Int) ^ j = ((10 ^ j : Nat) : Int) := fun j => by rw [Int.natCast_pow]; rfl
            rw [e1, e1]; exact Int.ofNat_le.2 this
          rw [f2]
          unfold isI sgn
          cases b <;> simp <;> omega
        obtain ⟨p1, p2⟩ := parse_out f1 hI
        rw [p1, p2]
        exact condF (by omega) (condT rfl (condT rfl (condB rfl rfl)))
  | succ k ih =>
    intro i hi
    rw [FnD.H_succ, ldlong_l0]
    dsimp only
    rw [w9]
    have w1 : IntKind.i64.wrap (((n % 300 : Nat) : Int) + 1) = ((n % 300 + 1 : Nat) : Int) := by rw [IntWalk.i64_in _ (by omega)]; omega
    have w2 : IntKind.i64.wrap ((i : Int) + 1) = ((i + 1 : Nat) : Int) := by rw [IntWalk.i64_in _ (by omega)]; omega
    rw [w0, w00, w1, w2]
    have hl : (((if b then [(45 : UInt8)] else []) ++ List.replicate i c).map fun c : UInt8 => (c.toNat : Int)).length ≤ 1000 := by
      rw [List.length_map, List.length_append, List.length_replicate]; cases b <;> simp <;> omega
    refine condT (by omega) (condB (by unfold roomB; simp only [Bool.and_eq_true, decide_eq_true_eq]; omega) (condT (by simp) ?_))
    rw [List.take_length]
    have e : (((if b then [(45 : UInt8)] else []) ++ List.replicate i c).map fun c : UInt8 => (c.toNat : Int)) ++ [(c.toNat : Int)] = ((if b then [(45 : UInt8)] else []) ++ List.replicate (i + 1) c).map fun c : UInt8 => (c.toNat : Int) := by
      rw [List.replicate_succ', ← List.append_assoc, List.map_append (l₂ := [c])]; rfl
    rw [e]
    exact ih (i + 1) (by omega)
theorem ldlong_run (n : Int) (d : Int) (b : Bool) (hp : 0 ≤ n ∧ n < 65536 ∧ 0 ≤ d ∧ d < 256) : ∃ fu, ldlong_f.run ldlong_e [] fu [c1 (.int .u16 n), c1 (.int .u8 d), vB b] [] = some ⟨vB true, []⟩ := by
  obtain ⟨n, rfl⟩ := Int.eq_ofNat_of_zero_le hp.1
  obtain ⟨d, rfl⟩ := Int.eq_ofNat_of_zero_le hp.2.2.1
  refine ⟨n % 300 + 1 + 1, ?_⟩
  rw [FnD.run, ldlong_ent]
  have := ldlong_loop n d (by omega) (by omega) b (n % 300 + 1) 0 (by omega)
  cases b with
  | true => exact this
  | false => exact this
theorem ldlong_ok (n : Int) (d : Int) (b : Bool) (hp : 0 ≤ n ∧ n < 65536 ∧ 0 ≤ d ∧ d < 256) : FnOk cfg 10 ([c1 (.int .u16 n), c1 (.int .u8 d), vB b].map SV.den) (vB true : SV).den := by
  obtain ⟨nn, h⟩ := ldlong_run n d b hp
  exact FnD.ok ldlong_g ldlong_f mixed Tryd.func10 rfl rfl rfl rfl rfl rfl h
noncomputable def c_ldlong : SpecF := fun args _ K => match args with
  | [.one (.c (.int .u16 n)), .one (.c (.int .u8 d)), .one (.c (.bool b))] => bif decide (0 ≤ n ∧ n < 65536 ∧ 0 ≤ d ∧ d < 256) then K (vB true) [] else none
  | _ => none
theorem c_ldlong_ok : SpecOk cfg 10 c_ldlong := by
  intro args bx K out h
  unfold c_ldlong at h
  split at h
  · obtain ⟨hp, h⟩ := bif_some h
    exact ⟨_, _, h, .inl (ldlong_ok _ _ _ (of_decide_eq_true hp) _), by simp [isTupS]⟩
  · cases h
end Go.Proofs.YtldofkogmkfpjaaDoor
