/-
  The contracts of numbers' texts to the base 16.
-/
import Derived.Test.YtldofkogmkfpjaaGreatDoorWLzSyShelf
import Derived.Test.YtldofkogmkfpjaaGreatDoorWPHex
namespace Go.Proofs.YtldofkogmkfpjaaGreatDoor
open Go Go.Ev Go.Sy
set_option linter.unusedSimpArgs false
set_option linter.unusedVariables false
set_option maxRecDepth 10000
set_option maxHeartbeats 4000000
/-! ### internal/strconv.isPowerOfTwo -/
noncomputable def ipot_e : Ev' := ⟨Tryz.prog, glob, Γof []⟩
theorem ipot_g : Gd cfg ipot_e := gd (env_nil _)
noncomputable def ipot_f : FnD := ⟨227, Tryz.f227, noSh, Tryz.f227.resultTypes.toList, 0⟩
theorem ipot_ent (h : Hd)  : ipot_f.ent ipot_e [] h [vI 16] [] = ret (vB true) := by kernel_rfl
theorem ipot_run  : ∃ fu, ipot_f.run ipot_e [] fu [vI 16] [] = some ⟨vB true, []⟩ := by
  refine ⟨0, ?_⟩
  rw [FnD.run, ipot_ent]
theorem ipot_ok  : FnOk cfg 227 ([vI 16].map SV.den) (vB true : SV).den := by
  obtain ⟨nn, h⟩ := ipot_run 
  exact FnD.ok ipot_g ipot_f mixed Tryz.func227 rfl rfl rfl rfl rfl rfl h
noncomputable def c_ipot : SpecF := fun args _ K => match args with
  | [.one (.c (.int .i64 16))] => K (vB true) []
  | _ => none
theorem c_ipot_ok : SpecOk cfg 227 c_ipot := by
  intro args bx K out h
  unfold c_ipot at h
  split at h
  · exact ⟨_, _, h, .inl (ipot_ok  _), by simp [isTupS]⟩
  · cases h
/-! ### math/bits.TrailingZeros64 -/
noncomputable def tzb_e : Ev' := ⟨Tryz.prog, glob, Γof []⟩
theorem tzb_g : Gd cfg tzb_e := gd (env_nil _)
noncomputable def tzb_f : FnD := ⟨250, Tryz.f250, noSh, Tryz.f250.resultTypes.toList, 0⟩
theorem tzb_ent (h : Hd)  : tzb_f.ent tzb_e [] h [c1 (.int .u64 16)] [] = ret   (vI     (IntKind.i64.wrap       ((have y : List Int :=             have y : List Int :=               have y : List Int :=                 have y : List Int := [(13 : Int), (8 : Int), (7 : Int), (6 : Int)];                 (25 : Int) :: (14 : Int) :: (19 : Int) :: (9 : Int) :: y;               have y : List Int := (34 : Int) :: (20 : Int) :: (31 : Int) :: (10 : Int) :: y;               (54 : Int) :: (26 : Int) :: (40 : Int) :: (15 : Int) :: y;             have y : List Int :=               have y : List Int := (52 : Int) :: (32 : Int) :: (23 : Int) :: (11 : Int) :: y;               (46 : Int) :: (35 : Int) :: (44 : Int) :: (21 : Int) :: y;             have y : List Int := (60 : Int) :: (41 : Int) :: (37 : Int) :: (16 : Int) :: y;             (63 : Int) :: (55 : Int) :: (48 : Int) :: (27 : Int) :: y;           have y : List Int :=             have y : List Int :=               have y : List Int := (24 : Int) :: (18 : Int) :: (12 : Int) :: (5 : Int) :: y;               (53 : Int) :: (39 : Int) :: (33 : Int) :: (30 : Int) :: y;             have y : List Int := (45 : Int) :: (43 : Int) :: (51 : Int) :: (22 : Int) :: y;             (62 : Int) :: (47 : Int) :: (59 : Int) :: (36 : Int) :: y;           have y : List Int :=             have y : List Int := (38 : Int) :: (29 : Int) :: (17 : Int) :: (4 : Int) :: y;             (61 : Int) :: (58 : Int) :: (42 : Int) :: (50 : Int) :: y;           have y : List Int := (57 : Int) :: (49 : Int) :: (28 : Int) :: (3 : Int) :: y;           (0 : Int) :: (1 : Int) :: (56 : Int) :: (2 : Int) :: y).getD         (15 : Nat) (0 : Int)))) := by kernel_rfl
theorem tzb_run  : ∃ fu, tzb_f.run tzb_e [] fu [c1 (.int .u64 16)] [] = some ⟨vI 4, []⟩ := by
  refine ⟨0, ?_⟩
  rw [FnD.run, tzb_ent]
  rfl
theorem tzb_ok  : FnOk cfg 250 ([c1 (.int .u64 16)].map SV.den) (vI 4 : SV).den := by
  obtain ⟨nn, h⟩ := tzb_run 
  exact FnD.ok tzb_g tzb_f mixed Tryz.func250 rfl rfl rfl rfl rfl rfl h
noncomputable def c_tzb : SpecF := fun args _ K => match args with
  | [.one (.c (.int .u64 16))] => K (vI 4) []
  | _ => none
theorem c_tzb_ok : SpecOk cfg 250 c_tzb := by
  intro args bx K out h
  unfold c_tzb at h
  split at h
  · exact ⟨_, _, h, .inl (tzb_ok  _), by simp [isTupS]⟩
  · cases h
/-! ### math/bits.TrailingZeros -/
noncomputable def tz_e : Ev' := ⟨Tryz.prog, glob, Γof [(250, c_tzb)]⟩
theorem tz_g : Gd cfg tz_e := gd (env_cons c_tzb_ok (env_nil _))
noncomputable def tz_f : FnD := ⟨228, Tryz.f228, noSh, Tryz.f228.resultTypes.toList, 0⟩
theorem tz_ent (h : Hd)  : tz_f.ent tz_e [] h [c1 (.int .u64 16)] [] = ret (vI (4 : Int)) := by kernel_rfl
theorem tz_run  : ∃ fu, tz_f.run tz_e [] fu [c1 (.int .u64 16)] [] = some ⟨vI 4, []⟩ := by
  refine ⟨0, ?_⟩
  rw [FnD.run, tz_ent]
theorem tz_ok  : FnOk cfg 228 ([c1 (.int .u64 16)].map SV.den) (vI 4 : SV).den := by
  obtain ⟨nn, h⟩ := tz_run 
  exact FnD.ok tz_g tz_f mixed Tryz.func228 rfl rfl rfl rfl rfl rfl h
noncomputable def c_tz : SpecF := fun args _ K => match args with
  | [.one (.c (.int .u64 16))] => K (vI 4) []
  | _ => none
theorem c_tz_ok : SpecOk cfg 228 c_tz := by
  intro args bx K out h
  unfold c_tz at h
  split at h
  · exact ⟨_, _, h, .inl (tz_ok  _), by simp [isTupS]⟩
  · cases h
/-! ### internal/strconv.formatBits -/
noncomputable def fmb_e : Ev' := ⟨Tryz.prog, glob, Γof [(227, c_ipot), (228, c_tz)]⟩
theorem fmb_g : Gd cfg fmb_e := gd (env_cons c_ipot_ok (env_cons c_tz_ok (env_nil _)))
noncomputable def fmb_f : FnD := ⟨199, Tryz.f199, shOf [(0, ⟨102, [], [(12, [.arr .u8 65])], [(1, .c (.int .u64)), (3, .c (.bool)), (4, .c (.bool)), (10, .c (.nils)), (11, .c (.str)), (12, .c (.ptr 12 0)), (13, .c (.int .i64)), (14, .c (.int .u64)), (15, .c (.int .u64)), (16, .c (.int .u64))]⟩)], Tryz.f199.resultTypes.toList, 0⟩
theorem fmb_ent (h : Hd) (n : Int) : fmb_f.ent fmb_e [] h [c1 (.ints .u8 []), c1 (.int .u64 n), vI 16, vB false, vB false] [] = h (0 : Nat) [Lf.l [(0 : Int), (0 : Int), (0 : Int), (0 : Int), (0 : Int), (0 : Int), (0 : Int), (0 : Int), (0 : Int), (0 : Int), (0 : Int), (0 : Int), (0 : Int), (0 : Int), (0 : Int), (0 : Int), (0 : Int), (0 : Int), (0 : Int), (0 : Int), (0 : Int), (0 : Int), (0 : Int), (0 : Int), (0 : Int), (0 : Int), (0 : Int), (0 : Int), (0 : Int), (0 : Int), (0 : Int), (0 : Int), (0 : Int), (0 : Int), (0 : Int), (0 : Int), (0 : Int), (0 : Int), (0 : Int), (0 : Int), (0 : Int), (0 : Int), (0 : Int), (0 : Int), (0 : Int), (0 : Int), (0 : Int), (0 : Int), (0 : Int), (0 : Int), (0 : Int), (0 : Int), (0 : Int), (0 : Int), (0 : Int), (0 : Int), (0 : Int), (0 : Int), (0 : Int), (0 : Int), (0 : Int), (0 : Int), (0 : Int), (0 : Int), (0 : Int)], Lf.i n, Lf.b false, Lf.b false, Lf.s (tx []), Lf.i (65 : Int), Lf.i (IntKind.u64.wrap (4 : Int)), Lf.i (IntKind.u64.wrap (16 : Int)), Lf.i (IntKind.u64.wrap (IntKind.u64.wrap (16 : Int) - (1 : Int)))] := by kernel_rfl
theorem fmb_l0 (h : Hd) (l : List Int) (u : Int) (ng : Bool) (ap : Bool) (q : ByteArray) (i : Int) (k : Int) (b : Int) (m : Int) : fmb_f.seg fmb_e [] h 0 [.l l, .i u, .b ng, .b ap, .s q, .i i, .i k, .i b, .i m] = let v1 : Int := IntKind.i64.wrap (IntKind.i64.wrap (i - (1 : Int)) - (1 : Int)); let v2 : Nat := v1.toNat; let v3 : List Int := setD (65 : Nat) l (IntKind.i64.wrap (i - (1 : Int))).toNat ((bytesI (tx [(48 : UInt8), (49 : UInt8), (50 : UInt8), (51 : UInt8), (52 : UInt8), (53 : UInt8), (54 : UInt8), (55 : UInt8), (56 : UInt8), (57 : UInt8), (97 : UInt8), (98 : UInt8), (99 : UInt8), (100 : UInt8), (101 : UInt8), (102 : UInt8), (103 : UInt8), (104 : UInt8), (105 : UInt8), (106 : UInt8), (107 : UInt8), (108 : UInt8), (109 : UInt8), (110 : UInt8), (111 : UInt8), (112 : UInt8), (113 : UInt8), (114 : UInt8), (115 : UInt8), (116 : UInt8), (117 : UInt8), (118 : UInt8), (119 : UInt8), (120 : UInt8), (121 : UInt8), (122 : UInt8)])).getD u.toNat (0 : Int)); bif decide (b ≤ u) then bif inB (andI IntKind.u64 u m) (36 : Nat) then bif inB (IntKind.i64.wrap (i - (1 : Int))) (65 : Nat) then bif decide ((IntKind.i64.wrap (i - (1 : Int))).toNat < (65 : Nat)) then bif decide ((0 : Int) ≤ k) then h (0 : Nat) [Lf.l (setD (65 : Nat) l (IntKind.i64.wrap (i - (1 : Int))).toNat ((bytesI (tx [(48 : UInt8), (49 : UInt8), (50 : UInt8), (51 : UInt8), (52 : UInt8), (53 : UInt8), (54 : UInt8), (55 : UInt8), (56 : UInt8), (57 : UInt8), (97 : UInt8), (98 : UInt8), (99 : UInt8), (100 : UInt8), (101 : UInt8), (102 : UInt8), (103 : UInt8), (104 : UInt8), (105 : UInt8), (106 : UInt8), (107 : UInt8), (108 : UInt8), (109 : UInt8), (110 : UInt8), (111 : UInt8), (112 : UInt8), (113 : UInt8), (114 : UInt8), (115 : UInt8), (116 : UInt8), (117 : UInt8), (118 : UInt8), (119 : UInt8), (120 : UInt8), (121 : UInt8), (122 : UInt8)])).getD (andI IntKind.u64 u m).toNat (0 : Int))), Lf.i (shrI IntKind.u64 u k), Lf.b ng, Lf.b ap, Lf.s q, Lf.i (IntKind.i64.wrap (i - (1 : Int))), Lf.i k, Lf.i b, Lf.i m] else none else none else none else none else bif inB u (36 : Nat) then bif inB (IntKind.i64.wrap (i - (1 : Int))) (65 : Nat) then bif decide ((IntKind.i64.wrap (i - (1 : Int))).toNat < (65 : Nat)) then bif ng then bif inB v1 (65 : Nat) then bif decide (v2 < (65 : Nat)) then bif ap then bif slB v1 (↑(65 : Nat) : Int) (65 : Nat) then none else none else bif slB v1 (↑(65 : Nat) : Int) (65 : Nat) then ret (SV.tup [S1.c (Cl.ints IntKind.u8 []), S1.c (Cl.str (textOf (piece (nrm (65 : Nat) (setD (65 : Nat) v3 v2 (45 : Int))) v1 (↑(65 : Nat) : Int))))]) else none else none else none else bif ap then bif slB (IntKind.i64.wrap (i - (1 : Int))) (↑(65 : Nat) : Int) (65 : Nat) then none else none else bif slB (IntKind.i64.wrap (i - (1 : Int))) (↑(65 : Nat) : Int) (65 : Nat) then ret (SV.tup [S1.c (Cl.ints IntKind.u8 []), S1.c (Cl.str (textOf (piece (nrm (65 : Nat) v3) (IntKind.i64.wrap (i - (1 : Int))) (↑(65 : Nat) : Int))))]) else none else none else none else none := by kernel_rfl

theorem bytesI_cons (c : UInt8) (r : List UInt8) : bytesI (tx (c :: r)) = (c.toNat : Int) :: bytesI (tx r) := by simp [bytesI, tx]
theorem textOf_bytesI (r : List UInt8) : textOf (bytesI (tx r)) = tx r := by
  unfold textOf bytesI
  rw [List.map_map, tx_toList]
  show ByteArray.mk (r.map fun x : UInt8 => UInt8.ofNat (Int.toNat (x.toNat : Int))).toArray = _
  have : (r.map fun x : UInt8 => UInt8.ofNat (Int.toNat (x.toNat : Int))) = r := by
    conv => rhs; rw [← List.map_id r]
    apply List.map_congr_left
    intro x _
    rw [Int.toNat_natCast]
    exact UInt8.ofNat_toNat
  rw [this]; rfl
def bufOk (l : List Int) (i : Nat) (r : List UInt8) : Prop := l.length = 65 ∧ l.drop i = bytesI (tx r)
theorem buf_store {l : List Int} {j : Nat} {r : List UInt8} (h : bufOk l (j + 1) r) (hj : j < 65) (c : UInt8) : bufOk (setD 65 l j (c.toNat : Int)) j (c :: r) := by
  obtain ⟨h1, h2⟩ := h
  rw [setD_eq h1]
  refine ⟨by simp [h1], ?_⟩
  rw [List.drop_eq_getElem_cons (by simp [h1]; exact hj), List.getElem_set_self, List.drop_set_of_lt (Nat.lt_succ_self j), h2, bytesI_cons]
theorem buf_text {l : List Int} {j : Nat} {r : List UInt8} (h : bufOk l j r) (hj : j ≤ 65) : textOf (piece (nrm 65 l) (j : Int) ((65 : Nat) : Int)) = tx r := by
  obtain ⟨h1, h2⟩ := h
  rw [nrm_eq h1]
  unfold piece
  rw [Int.toNat_natCast, Int.toNat_natCast, List.take_of_length_le (by rw [List.length_drop]; omega), h2, textOf_bytesI]
theorem fmb_loop (q : ByteArray) : ∀ (k u i : Nat) (l : List Int) (r : List UInt8), u < 16 ^ (k + 1) → u < 4294967296 → k < i → i ≤ 65 → bufOk l i r →
    fmb_f.H fmb_e [] (k + 1) 0 [.l l, .i (u : Int), .b false, .b false, .s q, .i (i : Int), .i 4, .i 16, .i 15] = some ⟨.tup [.c (.ints .u8 []), tS (tx (hexD u ++ r))], []⟩ := by
  intro k
  induction k with
  | zero =>
    intro u i l r h1 h2 h3 h4 hb
    obtain ⟨j, rfl⟩ : ∃ j, i = j + 1 := ⟨i - 1, by omega⟩
    have ej : IntKind.i64.wrap (((j + 1 : Nat) : Int) - 1) = (j : Int) := by rw [IntWalk.i64_in _ (by omega)]; omega
    have g : u < 16 := by simpa using h1
    rw [FnD.H_succ, fmb_l0]
    dsimp only
    rw [ej, Int.toNat_natCast, Int.toNat_natCast]
    refine condF (by omega) (condB ((inB_iff _ _).2 (by omega)) (condB ((inB_iff _ _).2 (by omega)) (condT (by omega) (condN rfl (condN rfl (condB (by unfold slB; simp; omega) ?_))))))
    rw [dig_tab u g, buf_text (buf_store hb (by omega) _) (by omega), hexD_small g]; rfl
  | succ k ih =>
    intro u i l r h1 h2 h3 h4 hb
    obtain ⟨j, rfl⟩ : ∃ j, i = j + 1 := ⟨i - 1, by omega⟩
    have ej : IntKind.i64.wrap (((j + 1 : Nat) : Int) - 1) = (j : Int) := by rw [IntWalk.i64_in _ (by omega)]; omega
    rw [FnD.H_succ, fmb_l0]
    dsimp only
    rw [ej, Int.toNat_natCast, Int.toNat_natCast]
    by_cases g : u < 16
    · refine condF (by omega) (condB ((inB_iff _ _).2 (by omega)) (condB ((inB_iff _ _).2 (by omega)) (condT (by omega) (condN rfl (condN rfl (condB (by unfold slB; simp; omega) ?_))))))
      rw [dig_tab u g, buf_text (buf_store hb (by omega) _) (by omega), hexD_small g]; rfl
    · have ea : andI .u64 (u : Int) 15 = ((u % 16 : Nat) : Int) := by
        have := andI_u (k := .u64) rfl (a := u) (b := 15) (by show u < 2 ^ 64; omega) (by decide)
        rw [show (15 : Int) = ((15 : Nat) : Int) from rfl, this, show (15 : Nat) = 2 ^ 4 - 1 from rfl, Nat.and_two_pow_sub_one_eq_mod]
      have es : shrI .u64 (u : Int) 4 = ((u / 16 : Nat) : Int) := shrI_u .u64 u 4 (by decide)
      have hd : u % 16 < 16 := Nat.mod_lt _ (by decide)
      rw [ea, es, Int.toNat_natCast, dig_tab _ hd]
      refine condT (by omega) (condB ((inB_iff _ _).2 (by omega)) (condB ((inB_iff _ _).2 (by omega)) (condT (by omega) (condT (by decide) ?_))))
      have := ih (u / 16) j _ _ (by rw [Nat.div_lt_iff_lt_mul (by decide)]; rw [Nat.pow_succ] at h1; exact h1) (by omega) (by omega) (by omega) (buf_store hb (by omega) (hexc (u % 16)))
      rw [hexD_big g, List.append_assoc]
      exact this
theorem fmb_run (n : Int) (hp : 0 ≤ n ∧ n < 4294967296) : ∃ fu, fmb_f.run fmb_e [] fu [c1 (.ints .u8 []), c1 (.int .u64 n), vI 16, vB false, vB false] [] = some ⟨.tup [.c (.ints .u8 []), tS (tx (hexD n.toNat))], []⟩ := by
  obtain ⟨w, rfl⟩ := Int.eq_ofNat_of_zero_le hp.1
  have hw : w < 4294967296 := by omega
  refine ⟨8, ?_⟩
  rw [FnD.run, fmb_ent, Int.toNat_natCast]
  have := fmb_loop (tx []) 7 w 65 (List.replicate 65 0) [] (by omega) hw (by decide) (by decide) ⟨by decide, by decide⟩
  rw [List.append_nil] at this
  exact this
theorem fmb_ok (n : Int) (hp : 0 ≤ n ∧ n < 4294967296) : FnOk cfg 199 ([c1 (.ints .u8 []), c1 (.int .u64 n), vI 16, vB false, vB false].map SV.den) (.tup [.c (.ints .u8 []), tS (tx (hexD n.toNat))] : SV).den := by
  obtain ⟨nn, h⟩ := fmb_run n hp
  exact FnD.ok fmb_g fmb_f mixed Tryz.func199 rfl rfl rfl rfl rfl rfl h
noncomputable def c_fmb : SpecF := fun args _ K => match args with
  | [.one (.c (.ints .u8 [])), .one (.c (.int .u64 n)), .one (.c (.int .i64 16)), .one (.c (.bool false)), .one (.c (.bool false))] => bif decide (0 ≤ n ∧ n < 4294967296) then K (.tup [.c (.ints .u8 []), tS (tx (hexD n.toNat))]) [] else none
  | _ => none
theorem c_fmb_ok : SpecOk cfg 199 c_fmb := by
  intro args bx K out h
  unfold c_fmb at h
  split at h
  · obtain ⟨hp, h⟩ := bif_some h
    exact ⟨_, _, h, .inl (fmb_ok _ (of_decide_eq_true hp) _), by simp [isTupS]⟩
  · cases h
/-! ### internal/strconv.FormatUint -/
noncomputable def fui_e : Ev' := ⟨Tryz.prog, glob, Γof [(199, c_fmb)]⟩
theorem fui_g : Gd cfg fui_e := gd (env_cons c_fmb_ok (env_nil _))
noncomputable def fui_f : FnD := ⟨157, Tryz.f157, noSh, Tryz.f157.resultTypes.toList, 0⟩
theorem fui_ent (h : Hd) (n : Int) : fui_f.ent fui_e [] h [c1 (.int .u64 n), vI 16] [] = bif decide ((0 : Int) ≤ n ∧ n < (4294967296 : Int)) then ret (vS (tx (hexD n.toNat))) else none := by kernel_rfl
theorem fui_run (n : Int) (hp : 0 ≤ n ∧ n < 4294967296) : ∃ fu, fui_f.run fui_e [] fu [c1 (.int .u64 n), vI 16] [] = some ⟨vS (tx (hexD n.toNat)), []⟩ := by
  refine ⟨0, ?_⟩
  rw [FnD.run, fui_ent]
  exact condT hp rfl
theorem fui_ok (n : Int) (hp : 0 ≤ n ∧ n < 4294967296) : FnOk cfg 157 ([c1 (.int .u64 n), vI 16].map SV.den) (vS (tx (hexD n.toNat)) : SV).den := by
  obtain ⟨nn, h⟩ := fui_run n hp
  exact FnD.ok fui_g fui_f mixed Tryz.func157 rfl rfl rfl rfl rfl rfl h
noncomputable def c_fui : SpecF := fun args _ K => match args with
  | [.one (.c (.int .u64 n)), .one (.c (.int .i64 16))] => bif decide (0 ≤ n ∧ n < 4294967296) then K (vS (tx (hexD n.toNat))) [] else none
  | _ => none
theorem c_fui_ok : SpecOk cfg 157 c_fui := by
  intro args bx K out h
  unfold c_fui at h
  split at h
  · obtain ⟨hp, h⟩ := bif_some h
    exact ⟨_, _, h, .inl (fui_ok _ (of_decide_eq_true hp) _), by simp [isTupS]⟩
  · cases h
/-! ### strconv.FormatUint -/
noncomputable def fus_e : Ev' := ⟨Tryz.prog, glob, Γof [(157, c_fui)]⟩
theorem fus_g : Gd cfg fus_e := gd (env_cons c_fui_ok (env_nil _))
noncomputable def fus_f : FnD := ⟨111, Tryz.f111, noSh, Tryz.f111.resultTypes.toList, 0⟩
theorem fus_ent (h : Hd) (n : Int) : fus_f.ent fus_e [] h [c1 (.int .u64 n), vI 16] [] = bif decide ((0 : Int) ≤ n ∧ n < (4294967296 : Int)) then ret (vS (tx (hexD n.toNat))) else none := by kernel_rfl
theorem fus_run (n : Int) (hp : 0 ≤ n ∧ n < 4294967296) : ∃ fu, fus_f.run fus_e [] fu [c1 (.int .u64 n), vI 16] [] = some ⟨vS (tx (hexD n.toNat)), []⟩ := by
  refine ⟨0, ?_⟩
  rw [FnD.run, fus_ent]
  exact condT hp rfl
theorem fus_ok (n : Int) (hp : 0 ≤ n ∧ n < 4294967296) : FnOk cfg 111 ([c1 (.int .u64 n), vI 16].map SV.den) (vS (tx (hexD n.toNat)) : SV).den := by
  obtain ⟨nn, h⟩ := fus_run n hp
  exact FnD.ok fus_g fus_f mixed Tryz.func111 rfl rfl rfl rfl rfl rfl h
noncomputable def c_fus : SpecF := fun args _ K => match args with
  | [.one (.c (.int .u64 n)), .one (.c (.int .i64 16))] => bif decide (0 ≤ n ∧ n < 4294967296) then K (vS (tx (hexD n.toNat))) [] else none
  | _ => none
theorem c_fus_ok : SpecOk cfg 111 c_fus := by
  intro args bx K out h
  unfold c_fus at h
  split at h
  · obtain ⟨hp, h⟩ := bif_some h
    exact ⟨_, _, h, .inl (fus_ok _ (of_decide_eq_true hp) _), by simp [isTupS]⟩
  · cases h
/-! ### list.word -/
noncomputable def lwd_e : Ev' := ⟨Tryz.prog, glob, Γof [(111, c_fus), (97, c_rept)]⟩
theorem lwd_g : Gd cfg lwd_e := gd (env_cons c_fus_ok (env_cons c_rept_ok (env_nil _)))
noncomputable def lwd_f : FnD := ⟨75, Tryz.f75, noSh, Tryz.f75.resultTypes.toList, 0⟩
theorem lwd_ent (h : Hd) (n : Int) : lwd_f.ent lwd_e [] h [c1 (.int .u32 n)] [] = let v1 : Nat := (IntKind.i64.wrap ((8 : Int) - (↑(tx (hexD (IntKind.u64.wrap n).toNat)).size : Int))).toNat; let v2 : Nat := (1 : Nat) * v1; let v3 : ByteArray := tx (Lib.repeatL (tx [(48 : UInt8)]).data.toList v1); let v4 : Nat := v3.size + (tx (hexD (IntKind.u64.wrap n).toNat)).size; bif decide ((0 : Int) ≤ IntKind.u64.wrap n ∧ IntKind.u64.wrap n < (4294967296 : Int)) then bif decide ((0 : Int) ≤ IntKind.i64.wrap ((8 : Int) - (↑(tx (hexD (IntKind.u64.wrap n).toNat)).size : Int)) ∧ IntKind.i64.wrap ((8 : Int) - (↑(tx (hexD (IntKind.u64.wrap n).toNat)).size : Int)) ≤ (1000000 : Int) ∧ v2 ≤ (140737488355328 : Nat)) then bif decide (v4 ≤ (9223372036854775807 : Nat)) then ret (vS (v3 ++ tx (hexD (IntKind.u64.wrap n).toNat))) else none else none else none := by kernel_rfl

theorem tx_app2 (a b : List UInt8) : tx a ++ tx b = tx (a ++ b) := by apply ByteArray.ext; simp [tx]
theorem rep_one (c : Nat) : Lib.repeatL [48] c = List.replicate c 48 := by
  induction c with
  | zero => rfl
  | succ c ih => rw [Lib.repeatL, ih]; rfl
theorem lwd_run (n : Int) (hp : 0 ≤ n ∧ n < 4294967296) : ∃ fu, lwd_f.run lwd_e [] fu [c1 (.int .u32 n)] [] = some ⟨vS (tx (hex8 n.toNat)), []⟩ := by
  refine ⟨0, ?_⟩
  rw [FnD.run, lwd_ent]
  obtain ⟨w, rfl⟩ := Int.eq_ofNat_of_zero_le hp.1
  have hw : w < 4294967296 := by omega
  have e1 : IntKind.u64.wrap (w : Int) = (w : Int) := by rw [wrap_u64, Nat.mod_eq_of_lt (by omega)]
  have hl := hexD_len (k := 7) (n := w) (by omega)
  dsimp only
  rw [e1, Int.toNat_natCast]
  simp only [tx_size, tx_toList]
  have e2 : IntKind.i64.wrap (8 - ((hexD w).length : Int)) = ((8 - (hexD w).length : Nat) : Int) := by rw [IntWalk.i64_in _ (by omega)]; omega
  rw [e2, Int.toNat_natCast, rep_one]
  refine condT hp (condT ⟨by omega, by omega, by omega⟩ (condT (by rw [List.length_replicate]; omega) ?_))
  rw [← hex8_pad hw]
  show some (⟨vS (tx _ ++ tx _), []⟩ : Out) = _
  rw [tx_app2]
theorem lwd_ok (n : Int) (hp : 0 ≤ n ∧ n < 4294967296) : FnOk cfg 75 ([c1 (.int .u32 n)].map SV.den) (vS (tx (hex8 n.toNat)) : SV).den := by
  obtain ⟨nn, h⟩ := lwd_run n hp
  exact FnD.ok lwd_g lwd_f mixed Tryz.func75 rfl rfl rfl rfl rfl rfl h
noncomputable def c_lwd : SpecF := fun args _ K => match args with
  | [.one (.c (.int .u32 n))] => bif decide (0 ≤ n ∧ n < 4294967296) then K (vS (tx (hex8 n.toNat))) [] else none
  | _ => none
theorem c_lwd_ok : SpecOk cfg 75 c_lwd := by
  intro args bx K out h
  unfold c_lwd at h
  split at h
  · obtain ⟨hp, h⟩ := bif_some h
    exact ⟨_, _, h, .inl (lwd_ok _ (of_decide_eq_true hp) _), by simp [isTupS]⟩
  · cases h
end Go.Proofs.YtldofkogmkfpjaaGreatDoor
