/-
  The contracts of layer 9 (sha).
-/
import Derived.Test.YtldofkogmkfpjaaGreatDoorWLzSyShelf
import Derived.Test.YtldofkogmkfpjaaGreatDoorWPSha
namespace Go.Proofs.YtldofkogmkfpjaaGreatDoor
open Go Go.Ev Go.Sy
set_option linter.unusedSimpArgs false
set_option linter.unusedVariables false
set_option maxRecDepth 10000
set_option maxHeartbeats 4000000
open Go.Sy.Sh

theorem retS {v w : SV} (h : v = w) : (ret v) = some ⟨w, []⟩ := by rw [h]
theorem nat_of {x : Int} {n : Int} (h : 0 ≤ x ∧ x < n) : ∃ m : Nat, x = m ∧ x.toNat = m ∧ (m : Int) < n := ⟨x.toNat, by omega, rfl, by omega⟩
theorem nthN_32 {l : List Nat} (h : ∀ x ∈ l, x < 4294967296) (i : Nat) : nthN l i < 4294967296 := nthN_all (p := fun x => x < 4294967296) h (by decide) i
theorem nthN_8 {l : List Nat} (h : ∀ x ∈ l, x < 256) (i : Nat) : nthN l i < 256 := nthN_all (p := fun x => x < 256) h (by decide) i
def rotI (x k : Int) : Int := orI .u32 (shlI .u32 x k) (shrI .u32 x (32 - k))
theorem rotI_nat {n m : Nat} (hn : n < 4294967296) (hm : m < 32) : rotI (n : Int) (m : Int) = ((rotN n m : Nat) : Int) := by
  unfold rotI
  rw [show (32 : Int) - (m : Nat) = ((32 - m : Nat) : Int) by omega]
  rw [shlI_u (k := .u32) rfl n m (by show m ≤ 32; omega), shrI_u .u32 n (32 - m) (by show 32 - m ≤ 32; omega)]
  have e : (2 : Nat) ^ IntKind.bits .u32 = 4294967296 := rfl
  rw [e]
  have h1 : n / 2 ^ (32 - m) < 4294967296 := Nat.lt_of_le_of_lt (Nat.div_le_self _ _) hn
  rw [orI_u (k := .u32) rfl (by rw [e]; exact Nat.mod_lt _ (by decide)) (by rw [e]; exact h1), rot_or hn (by omega)]
def wordsOk (l : List Int) : Prop := l.length = 5 ∧ (l.all fun x => decide (0 ≤ x) && decide (x < 4294967296)) = true
instance (l : List Int) : Decidable (wordsOk l) := by unfold wordsOk; exact inferInstance
theorem words_nat {l : List Int} (h : wordsOk l) : ∃ m : List Nat, l = castL m ∧ natL l = m ∧ m.length = 5 ∧ ∀ x ∈ m, x < 4294967296 := by
  obtain ⟨h0, h⟩ := h
  rw [List.all_eq_true] at h
  have h' : ∀ x ∈ l, 0 ≤ x ∧ x < 4294967296 := fun x hx => by
    have := h x hx
    rw [Bool.and_eq_true, decide_eq_true_eq, decide_eq_true_eq] at this; exact this
  refine ⟨natL l, (castL_natL fun x hx => (h' x hx).1).symm, rfl, by simpa [natL] using h0, fun x hx => ?_⟩
  unfold natL at hx
  obtain ⟨y, hy, rfl⟩ := List.mem_map.1 hx
  have := h' y hy
  omega
/-! ### sha.begin -/
noncomputable def shbeg_e : Ev' := ⟨Tryz.prog, glob, Γof []⟩
theorem shbeg_g : Gd cfg shbeg_e := gd (env_nil _)
noncomputable def shbeg_f : FnD := ⟨154, Tryz.f154, noSh, Tryz.f154.resultTypes.toList, 0⟩
theorem shbeg_ent (h : Hd)  : shbeg_f.ent shbeg_e [] h [] [] = ret (agg [Sg.arr IntKind.u32 (5 : Nat) (setD (5 : Nat) (setD (5 : Nat) (setD (5 : Nat) (setD (5 : Nat) (setD (5 : Nat) [(0 : Int), (0 : Int), (0 : Int), (0 : Int), (0 : Int)] (0 : Nat) (1732584193 : Int)) (1 : Nat) (4023233417 : Int)) (2 : Nat) (2562383102 : Int)) (3 : Nat) (271733878 : Int)) (4 : Nat) (3285377520 : Int))]) := by kernel_rfl
theorem shbeg_run  : ∃ fu, shbeg_f.run shbeg_e [] fu [] [] = some ⟨agg [.arr .u32 5 [1732584193, 4023233417, 2562383102, 271733878, 3285377520]], []⟩ := by
  refine ⟨0, ?_⟩
  rw [FnD.run, shbeg_ent]
  rfl
theorem shbeg_ok  : FnOk cfg 154 ([].map SV.den) (agg [.arr .u32 5 [1732584193, 4023233417, 2562383102, 271733878, 3285377520]] : SV).den := by
  obtain ⟨nn, h⟩ := shbeg_run 
  exact FnD.ok shbeg_g shbeg_f mixed Tryz.func154 rfl rfl rfl rfl rfl rfl h
noncomputable def c_shbeg : SpecF := fun args _ K => match args with
  | [] => K (agg [.arr .u32 5 [1732584193, 4023233417, 2562383102, 271733878, 3285377520]]) []
  | _ => none
theorem c_shbeg_ok : SpecOk cfg 154 c_shbeg := by
  intro args bx K out h
  unfold c_shbeg at h
  split at h
  · exact ⟨_, _, h, .inl (shbeg_ok  _), by simp [isTupS]⟩
  · cases h
/-! ### math/bits.RotateLeft32 -/
noncomputable def rot_e : Ev' := ⟨Tryz.prog, glob, Γof []⟩
theorem rot_g : Gd cfg rot_e := gd (env_nil _)
noncomputable def rot_f : FnD := ⟨193, Tryz.f193, noSh, Tryz.f193.resultTypes.toList, 0⟩
theorem rot_ent (h : Hd) (x : Int) (k : Int) : rot_f.ent rot_e [] h [c1 (.int .u32 x), vI k] [] = bif decide ((0 : Int) ≤ IntKind.u64.wrap ((32 : Int) - andI IntKind.u64 (IntKind.u64.wrap k) (31 : Int))) then ret (c1 (Cl.int IntKind.u32 (orI IntKind.u32 (shlI IntKind.u32 x (andI IntKind.u64 (IntKind.u64.wrap k) (31 : Int))) (shrI IntKind.u32 x (IntKind.u64.wrap ((32 : Int) - andI IntKind.u64 (IntKind.u64.wrap k) (31 : Int))))))) else none := by kernel_rfl
theorem rot_run (x : Int) (k : Int) (hp : 0 ≤ k ∧ k < 32) : ∃ fu, rot_f.run rot_e [] fu [c1 (.int .u32 x), vI k] [] = some ⟨c1 (.int .u32 (rotI x k)), []⟩ := by
  refine ⟨0, ?_⟩
  rw [FnD.run, rot_ent]
  obtain ⟨m, rfl, em, hm⟩ := nat_of hp
  have hm : m < 32 := by omega
  have w1 : IntKind.u64.wrap (m : Int) = ((m : Nat) : Int) := by rw [wrap_u64, Nat.mod_eq_of_lt (by omega)]
  have a1 : andI .u64 ((m : Nat) : Int) 31 = ((m : Nat) : Int) := by
    have := andI_u (k := .u64) rfl (a := m) (b := 31) (by show m < 2 ^ 64; omega) (by decide)
    rw [show ((31 : Nat) : Int) = 31 from rfl] at this
    rw [this, Nat.and_two_pow_sub_one_eq_mod m 5, Nat.mod_eq_of_lt hm]
  rw [w1, a1, show IntKind.u64.wrap ((32 : Int) - (m : Nat)) = (32 : Int) - (m : Nat) by rw [show (32 : Int) - (m : Nat) = ((32 - m : Nat) : Int) by omega, wrap_u64, Nat.mod_eq_of_lt (by omega)]]
  exact condT (by omega) rfl
theorem rot_ok (x : Int) (k : Int) (hp : 0 ≤ k ∧ k < 32) : FnOk cfg 193 ([c1 (.int .u32 x), vI k].map SV.den) (c1 (.int .u32 (rotI x k)) : SV).den := by
  obtain ⟨nn, h⟩ := rot_run x k hp
  exact FnD.ok rot_g rot_f mixed Tryz.func193 rfl rfl rfl rfl rfl rfl h
noncomputable def c_rot : SpecF := fun args _ K => match args with
  | [.one (.c (.int .u32 x)), .one (.c (.int .i64 k))] => bif decide (0 ≤ k ∧ k < 32) then K (c1 (.int .u32 (rotI x k))) [] else none
  | _ => none
theorem c_rot_ok : SpecOk cfg 193 c_rot := by
  intro args bx K out h
  unfold c_rot at h
  split at h
  · obtain ⟨hp, h⟩ := bif_some h
    exact ⟨_, _, h, .inl (rot_ok _ _ (of_decide_eq_true hp) _), by simp [isTupS]⟩
  · cases h
/-! ### sha.mix -/
noncomputable def shmix_e : Ev' := ⟨Tryz.prog, glob, Γof []⟩
theorem shmix_g : Gd cfg shmix_e := gd (env_nil _)
noncomputable def shmix_f : FnD := ⟨194, Tryz.f194, noSh, Tryz.f194.resultTypes.toList, 0⟩
theorem shmix_ent (h : Hd) (t : Int) (b : Int) (c : Int) (d : Int) : shmix_f.ent shmix_e [] h [vI t, c1 (.int .u32 b), c1 (.int .u32 c), c1 (.int .u32 d)] [] = bif decide (IntKind.i64.wrap (t.tdiv (20 : Int)) = (0 : Int)) then ret (c1 (Cl.int IntKind.u32 (orI IntKind.u32 (andI IntKind.u32 b c) (andI IntKind.u32 (notI IntKind.u32 b) d)))) else bif decide (IntKind.i64.wrap (t.tdiv (20 : Int)) = (2 : Int)) then ret (c1 (Cl.int IntKind.u32 (orI IntKind.u32 (orI IntKind.u32 (andI IntKind.u32 b c) (andI IntKind.u32 b d)) (andI IntKind.u32 c d)))) else ret (c1 (Cl.int IntKind.u32 (xorI IntKind.u32 (xorI IntKind.u32 b c) d))) := by kernel_rfl
theorem shmix_run (t : Int) (b : Int) (c : Int) (d : Int) (hp : (0 ≤ t ∧ t < 80) ∧ (0 ≤ b ∧ b < 4294967296) ∧ (0 ≤ c ∧ c < 4294967296) ∧ (0 ≤ d ∧ d < 4294967296)) : ∃ fu, shmix_f.run shmix_e [] fu [vI t, c1 (.int .u32 b), c1 (.int .u32 c), c1 (.int .u32 d)] [] = some ⟨c1 (.int .u32 ((fN t.toNat b.toNat c.toNat d.toNat : Nat) : Int)), []⟩ := by
  refine ⟨0, ?_⟩
  rw [FnD.run, shmix_ent]
  obtain ⟨ht, hb, hc, hd⟩ := hp
  obtain ⟨t, rfl, et, ht⟩ := nat_of ht
  obtain ⟨b, rfl, eb, hb⟩ := nat_of hb
  obtain ⟨c, rfl, ec, hc⟩ := nat_of hc
  obtain ⟨d, rfl, ed, hd⟩ := nat_of hd
  rw [et, eb, ec, ed]
  have hb : b < 2 ^ IntKind.bits .u32 := by show b < 4294967296; omega
  have hc : c < 2 ^ IntKind.bits .u32 := by show c < 4294967296; omega
  have hd : d < 2 ^ IntKind.bits .u32 := by show d < 4294967296; omega
  have w : IntKind.i64.wrap (((t : Nat) : Int).tdiv 20) = ((t / 20 : Nat) : Int) := by rw [show ((t : Nat) : Int).tdiv 20 = ((t / 20 : Nat) : Int) from rfl]; exact IntWalk.i64_in _ (by omega)
  rw [w]
  unfold fN
  rw [notI_u rfl hb, andI_u rfl hb hc, andI_u rfl hb hd, andI_u rfl hc hd, andI_u rfl (show 2 ^ IntKind.bits .u32 - 1 - b < 2 ^ IntKind.bits .u32 by show 4294967295 - b < 4294967296; omega) hd, xorI_u rfl hb hc]
  rw [orI_u rfl (and_lt hb) (and_lt hb), orI_u rfl (or_lt (and_lt hb) (and_lt hb)) (and_lt hc), xorI_u rfl (xor_lt hb hc) hd]
  rw [orI_u rfl (and_lt hb) (Nat.lt_of_le_of_lt Nat.and_le_right hd)]
  by_cases h0 : t / 20 = 0
  · exact condT (by omega) (retS (by rw [if_pos h0]; rfl))
  refine condF (by omega) ?_
  rw [if_neg h0]
  by_cases h2 : t / 20 = 2
  · exact condT (by omega) (retS (by rw [if_pos h2]))
  · exact condF (by omega) (retS (by rw [if_neg h2]))
theorem shmix_ok (t : Int) (b : Int) (c : Int) (d : Int) (hp : (0 ≤ t ∧ t < 80) ∧ (0 ≤ b ∧ b < 4294967296) ∧ (0 ≤ c ∧ c < 4294967296) ∧ (0 ≤ d ∧ d < 4294967296)) : FnOk cfg 194 ([vI t, c1 (.int .u32 b), c1 (.int .u32 c), c1 (.int .u32 d)].map SV.den) (c1 (.int .u32 ((fN t.toNat b.toNat c.toNat d.toNat : Nat) : Int)) : SV).den := by
  obtain ⟨nn, h⟩ := shmix_run t b c d hp
  exact FnD.ok shmix_g shmix_f mixed Tryz.func194 rfl rfl rfl rfl rfl rfl h
noncomputable def c_shmix : SpecF := fun args _ K => match args with
  | [.one (.c (.int .i64 t)), .one (.c (.int .u32 b)), .one (.c (.int .u32 c)), .one (.c (.int .u32 d))] => bif decide ((0 ≤ t ∧ t < 80) ∧ (0 ≤ b ∧ b < 4294967296) ∧ (0 ≤ c ∧ c < 4294967296) ∧ (0 ≤ d ∧ d < 4294967296)) then K (c1 (.int .u32 ((fN t.toNat b.toNat c.toNat d.toNat : Nat) : Int))) [] else none
  | _ => none
theorem c_shmix_ok : SpecOk cfg 194 c_shmix := by
  intro args bx K out h
  unfold c_shmix at h
  split at h
  · obtain ⟨hp, h⟩ := bif_some h
    exact ⟨_, _, h, .inl (shmix_ok _ _ _ _ (of_decide_eq_true hp) _), by simp [isTupS]⟩
  · cases h
/-! ### sha.constant -/
noncomputable def shcon_e : Ev' := ⟨Tryz.prog, glob, Γof []⟩
theorem shcon_g : Gd cfg shcon_e := gd (env_nil _)
noncomputable def shcon_f : FnD := ⟨195, Tryz.f195, noSh, Tryz.f195.resultTypes.toList, 0⟩
theorem shcon_ent (h : Hd) (t : Int) : shcon_f.ent shcon_e [] h [vI t] [] = bif decide (IntKind.i64.wrap (t.tdiv (20 : Int)) = (0 : Int)) then ret (c1 (Cl.int IntKind.u32 (1518500249 : Int))) else bif decide (IntKind.i64.wrap (t.tdiv (20 : Int)) = (1 : Int)) then ret (c1 (Cl.int IntKind.u32 (1859775393 : Int))) else bif decide (IntKind.i64.wrap (t.tdiv (20 : Int)) = (2 : Int)) then ret (c1 (Cl.int IntKind.u32 (2400959708 : Int))) else ret (c1 (Cl.int IntKind.u32 (3395469782 : Int))) := by kernel_rfl
theorem shcon_run (t : Int) (hp : 0 ≤ t ∧ t < 80) : ∃ fu, shcon_f.run shcon_e [] fu [vI t] [] = some ⟨c1 (.int .u32 ((kN t.toNat : Nat) : Int)), []⟩ := by
  refine ⟨0, ?_⟩
  rw [FnD.run, shcon_ent]
  obtain ⟨t, rfl, et, ht⟩ := nat_of hp
  rw [et]
  have w : IntKind.i64.wrap (((t : Nat) : Int).tdiv 20) = ((t / 20 : Nat) : Int) := by rw [show ((t : Nat) : Int).tdiv 20 = ((t / 20 : Nat) : Int) from rfl]; exact IntWalk.i64_in _ (by omega)
  rw [w]
  unfold kN
  by_cases h0 : t / 20 = 0
  · exact condT (by omega) (retS (by rw [if_pos h0]; rfl))
  refine condF (by omega) ?_
  rw [if_neg h0]
  by_cases h1 : t / 20 = 1
  · exact condT (by omega) (retS (by rw [if_pos h1]; rfl))
  refine condF (by omega) ?_
  rw [if_neg h1]
  by_cases h2 : t / 20 = 2
  · exact condT (by omega) (retS (by rw [if_pos h2]; rfl))
  · exact condF (by omega) (retS (by rw [if_neg h2]; rfl))
theorem shcon_ok (t : Int) (hp : 0 ≤ t ∧ t < 80) : FnOk cfg 195 ([vI t].map SV.den) (c1 (.int .u32 ((kN t.toNat : Nat) : Int)) : SV).den := by
  obtain ⟨nn, h⟩ := shcon_run t hp
  exact FnD.ok shcon_g shcon_f mixed Tryz.func195 rfl rfl rfl rfl rfl rfl h
noncomputable def c_shcon : SpecF := fun args _ K => match args with
  | [.one (.c (.int .i64 t))] => bif decide (0 ≤ t ∧ t < 80) then K (c1 (.int .u32 ((kN t.toNat : Nat) : Int))) [] else none
  | _ => none
theorem c_shcon_ok : SpecOk cfg 195 c_shcon := by
  intro args bx K out h
  unfold c_shcon at h
  split at h
  · obtain ⟨hp, h⟩ := bif_some h
    exact ⟨_, _, h, .inl (shcon_ok _ (of_decide_eq_true hp) _), by simp [isTupS]⟩
  · cases h
/-! ### sha.spread -/
noncomputable def shspr_e : Ev' := ⟨Tryz.prog, glob, Γof [(193, c_rot)]⟩
theorem shspr_g : Gd cfg shspr_e := gd (env_cons c_rot_ok (env_nil _))
noncomputable def shspr_f : FnD := ⟨192, Tryz.f192, shOf [(0, ⟨69, [], [(2, [.arr .u32 80]), (3, [.arr .u32 80])], [(0, .c (.ints .u8)), (2, .c (.ptr 2 0)), (3, .c (.ptr 3 0)), (5, .c (.int .i64))]⟩)], Tryz.f192.resultTypes.toList, 0⟩
theorem shspr_ent (h : Hd) (l : List Int) : shspr_f.ent shspr_e [] h [c1 (.ints .u8 l)] [] = h (0 : Nat) [Lf.l [(0 : Int), (0 : Int), (0 : Int), (0 : Int), (0 : Int), (0 : Int), (0 : Int), (0 : Int), (0 : Int), (0 : Int), (0 : Int), (0 : Int), (0 : Int), (0 : Int), (0 : Int), (0 : Int), (0 : Int), (0 : Int), (0 : Int), (0 : Int), (0 : Int), (0 : Int), (0 : Int), (0 : Int), (0 : Int), (0 : Int), (0 : Int), (0 : Int), (0 : Int), (0 : Int), (0 : Int), (0 : Int), (0 : Int), (0 : Int), (0 : Int), (0 : Int), (0 : Int), (0 : Int), (0 : Int), (0 : Int), (0 : Int), (0 : Int), (0 : Int), (0 : Int), (0 : Int), (0 : Int), (0 : Int), (0 : Int), (0 : Int), (0 : Int), (0 : Int), (0 : Int), (0 : Int), (0 : Int), (0 : Int), (0 : Int), (0 : Int), (0 : Int), (0 : Int), (0 : Int), (0 : Int), (0 : Int), (0 : Int), (0 : Int), (0 : Int), (0 : Int), (0 : Int), (0 : Int), (0 : Int), (0 : Int), (0 : Int), (0 : Int), (0 : Int), (0 : Int), (0 : Int), (0 : Int), (0 : Int), (0 : Int), (0 : Int), (0 : Int)], Lf.l [(0 : Int), (0 : Int), (0 : Int), (0 : Int), (0 : Int), (0 : Int), (0 : Int), (0 : Int), (0 : Int), (0 : Int), (0 : Int), (0 : Int), (0 : Int), (0 : Int), (0 : Int), (0 : Int), (0 : Int), (0 : Int), (0 : Int), (0 : Int), (0 : Int), (0 : Int), (0 : Int), (0 : Int), (0 : Int), (0 : Int), (0 : Int), (0 : Int), (0 : Int), (0 : Int), (0 : Int), (0 : Int), (0 : Int), (0 : Int), (0 : Int), (0 : Int), (0 : Int), (0 : Int), (0 : Int), (0 : Int), (0 : Int), (0 : Int), (0 : Int), (0 : Int), (0 : Int), (0 : Int), (0 : Int), (0 : Int), (0 : Int), (0 : Int), (0 : Int), (0 : Int), (0 : Int), (0 : Int), (0 : Int), (0 : Int), (0 : Int), (0 : Int), (0 : Int), (0 : Int), (0 : Int), (0 : Int), (0 : Int), (0 : Int), (0 : Int), (0 : Int), (0 : Int), (0 : Int), (0 : Int), (0 : Int), (0 : Int), (0 : Int), (0 : Int), (0 : Int), (0 : Int), (0 : Int), (0 : Int), (0 : Int), (0 : Int), (0 : Int)], Lf.l l, Lf.i (0 : Int)] := by kernel_rfl
theorem shspr_l0 (h : Hd) (j : List Int) (w : List Int) (l : List Int) (t : Int) : shspr_f.seg shspr_e [] h 0 [.l j, .l w, .l l, .i t] = let v1 : Int := IntKind.i64.wrap (IntKind.i64.wrap ((4 : Int) * t) + (1 : Int)); let v2 : Int := IntKind.i64.wrap (IntKind.i64.wrap ((4 : Int) * t) + (2 : Int)); let v3 : Int := IntKind.i64.wrap (IntKind.i64.wrap ((4 : Int) * t) + (3 : Int)); bif decide (t < (80 : Int)) then bif decide (t < (16 : Int)) then bif inB (IntKind.i64.wrap ((4 : Int) * t)) l.length then bif inB v1 l.length then bif inB v2 l.length then bif inB v3 l.length then bif inB t (80 : Nat) then bif decide (t.toNat < (80 : Nat)) then h (0 : Nat) [Lf.l j, Lf.l (setD (80 : Nat) w t.toNat (orI IntKind.u32 (orI IntKind.u32 (orI IntKind.u32 (shlI IntKind.u32 (IntKind.u32.wrap (l.getD (IntKind.i64.wrap ((4 : Int) * t)).toNat (0 : Int))) (24 : Int)) (shlI IntKind.u32 (IntKind.u32.wrap (l.getD v1.toNat (0 : Int))) (16 : Int))) (shlI IntKind.u32 (IntKind.u32.wrap (l.getD v2.toNat (0 : Int))) (8 : Int))) (IntKind.u32.wrap (l.getD v3.toNat (0 : Int))))), Lf.l l, Lf.i (IntKind.i64.wrap (t + (1 : Int)))] else none else none else none else none else none else none else bif inB (IntKind.i64.wrap (t - (3 : Int))) (80 : Nat) then bif decide ((IntKind.i64.wrap (t - (3 : Int))).toNat < (80 : Nat)) then bif inB (IntKind.i64.wrap (t - (8 : Int))) (80 : Nat) then bif decide ((IntKind.i64.wrap (t - (8 : Int))).toNat < (80 : Nat)) then bif inB (IntKind.i64.wrap (t - (14 : Int))) (80 : Nat) then bif decide ((IntKind.i64.wrap (t - (14 : Int))).toNat < (80 : Nat)) then bif inB (IntKind.i64.wrap (t - (16 : Int))) (80 : Nat) then bif decide ((IntKind.i64.wrap (t - (16 : Int))).toNat < (80 : Nat)) then bif inB t (80 : Nat) then bif decide (t.toNat < (80 : Nat)) then h (0 : Nat) [Lf.l j, Lf.l (setD (80 : Nat) w t.toNat (rotI (xorI IntKind.u32 (xorI IntKind.u32 (xorI IntKind.u32 (w.getD (IntKind.i64.wrap (t - (3 : Int))).toNat (0 : Int)) (w.getD (IntKind.i64.wrap (t - (8 : Int))).toNat (0 : Int))) (w.getD (IntKind.i64.wrap (t - (14 : Int))).toNat (0 : Int))) (w.getD (IntKind.i64.wrap (t - (16 : Int))).toNat (0 : Int))) (1 : Int))), Lf.l l, Lf.i (IntKind.i64.wrap (t + (1 : Int)))] else none else none else none else none else none else none else none else none else none else none else ret (agg [Sg.arr IntKind.u32 (80 : Nat) w]) := by kernel_rfl

theorem or4 {a b c d : Nat} (hb : b < 256) (hc : c < 256) (hd : d < 256) : ((a * 16777216 ||| b * 65536) ||| c * 256) ||| d = a * 16777216 + b * 65536 + c * 256 + d := by
  have h1 := Nat.two_pow_add_eq_or_of_lt (i := 24) (b := b * 65536) (by omega) a
  have h2 := Nat.two_pow_add_eq_or_of_lt (i := 16) (b := c * 256) (by omega) (a * 256 + b)
  have h3 := Nat.two_pow_add_eq_or_of_lt (i := 8) (b := d) (by omega) (a * 65536 + b * 256 + c)
  rw [show a * 16777216 = 2 ^ 24 * a by omega, ← h1, show 2 ^ 24 * a + b * 65536 = 2 ^ 16 * (a * 256 + b) by omega, ← h2, show 2 ^ 16 * (a * 256 + b) + c * 256 = 2 ^ 8 * (a * 65536 + b * 256 + c) by omega, ← h3]
theorem setRow {b : List Nat} {t : Nat} (ht : t < 80) : setD 80 (castL (rowN b t)) t ((nthN (w80 b) t : Nat) : Int) = castL (rowN b (t + 1)) := by
  rw [setD_eq (by rw [castL_length, rowN_len (by omega)]), set_castL, rowN_next ht]
theorem w8 {n : Nat} (h : n < 256) : IntKind.u32.wrap (n : Int) = (n : Int) := by rw [wrap_u32, Nat.mod_eq_of_lt (by omega)]
theorem sh8 {n : Nat} (h : n < 256) (k : Nat) (hk : k ≤ 24) : shlI .u32 (n : Int) (k : Int) = ((n * 2 ^ k : Nat) : Int) := by
  rw [shlI_u (k := .u32) rfl n k (by show k ≤ 32; omega)]
  have : n * 2 ^ k < 4294967296 := by
    have h1 : 2 ^ k ≤ 2 ^ 24 := Nat.pow_le_pow_right (by decide) hk
    have h2 : n * 2 ^ k ≤ 255 * 2 ^ 24 := Nat.mul_le_mul (by omega) h1
    omega
  rw [show (2 : Nat) ^ IntKind.bits .u32 = 4294967296 from rfl, Nat.mod_eq_of_lt this]
theorem m8 {n k : Nat} (h : n < 256) (hk : 255 * k < 4294967296) : n * k < 4294967296 := Nat.lt_of_le_of_lt (Nat.mul_le_mul_right k (Nat.le_of_lt_succ h)) hk
theorem word4 {b : List Nat} (hb : ∀ x ∈ b, x < 256) (i : Nat) : orI .u32 (orI .u32 (orI .u32 (shlI .u32 ((nthN b i : Nat) : Int) 24) (shlI .u32 ((nthN b (i + 1) : Nat) : Int) 16)) (shlI .u32 ((nthN b (i + 2) : Nat) : Int) 8)) ((nthN b (i + 3) : Nat) : Int) = ((wordN b i : Nat) : Int) := by
  have g := fun j => nthN_8 hb j
  have g0 := g i
  have g1 := g (i + 1)
  have g2 := g (i + 2)
  have g3 := g (i + 3)
  have l0 := m8 (k := 2 ^ 24) g0 (by decide)
  have l1 := m8 (k := 2 ^ 16) g1 (by decide)
  have l2 := m8 (k := 2 ^ 8) g2 (by decide)
  have l3 := Nat.lt_trans g3 (show 256 < 4294967296 by decide)
  have s24 := sh8 g0 24 (by decide)
  have s16 := sh8 g1 16 (by decide)
  have s8 := sh8 g2 8 (by decide)
  rw [show ((24 : Nat) : Int) = 24 from rfl] at s24
  rw [show ((16 : Nat) : Int) = 16 from rfl] at s16
  rw [show ((8 : Nat) : Int) = 8 from rfl] at s8
  rw [s24, s16, s8]
  have e : (2 : Nat) ^ IntKind.bits .u32 = 4294967296 := rfl
  have e32 : (4294967296 : Nat) = 2 ^ 32 := by decide
  have o1 : nthN b i * 2 ^ 24 ||| nthN b (i + 1) * 2 ^ 16 < 4294967296 := by rw [e32] at *; exact or_lt l0 l1
  have o2 : nthN b i * 2 ^ 24 ||| nthN b (i + 1) * 2 ^ 16 ||| nthN b (i + 2) * 2 ^ 8 < 4294967296 := by rw [e32] at *; exact or_lt o1 l2
  rw [orI_u (k := .u32) rfl (by rw [e]; exact l0) (by rw [e]; exact l1), orI_u (k := .u32) rfl (by rw [e]; exact o1) (by rw [e]; exact l2), orI_u (k := .u32) rfl (by rw [e]; exact o2) (by rw [e]; exact l3)]
  unfold wordN
  rw [show (2 : Nat) ^ 24 = 16777216 from rfl, show (2 : Nat) ^ 16 = 65536 from rfl, show (2 : Nat) ^ 8 = 256 from rfl, or4 g1 g2 g3]
theorem xor4 {a b c d : Nat} (ha : a < 4294967296) (hb : b < 4294967296) (hc : c < 4294967296) (hd : d < 4294967296) : rotI (xorI .u32 (xorI .u32 (xorI .u32 (a : Int) (b : Int)) (c : Int)) (d : Int)) 1 = ((rotN (a ^^^ b ^^^ c ^^^ d) 1 : Nat) : Int) := by
  have e : (2 : Nat) ^ IntKind.bits .u32 = 4294967296 := rfl
  have e32 : (4294967296 : Nat) = 2 ^ 32 := by decide
  have o1 : a ^^^ b < 4294967296 := by rw [e32] at *; exact xor_lt ha hb
  have o2 : a ^^^ b ^^^ c < 4294967296 := by rw [e32] at *; exact xor_lt o1 hc
  have o3 : a ^^^ b ^^^ c ^^^ d < 4294967296 := by rw [e32] at *; exact xor_lt o2 hd
  rw [xorI_u (k := .u32) rfl (by rw [e]; exact ha) (by rw [e]; exact hb), xorI_u (k := .u32) rfl (by rw [e]; exact o1) (by rw [e]; exact hc), xorI_u (k := .u32) rfl (by rw [e]; exact o2) (by rw [e]; exact hd)]
  exact rotI_nat (m := 1) o3 (by decide)
theorem shspr_loop (b : List Nat) (hb : ∀ x ∈ b, x < 256) (hl : b.length = 64) (j0 : List Int) : ∀ k t, t ≤ 80 → 80 - t < k →
    shspr_f.H shspr_e [] k 0 [.l j0, .l (castL (rowN b t)), .l (castL b), .i (t : Int)] = some ⟨agg [.arr .u32 80 (castL (w80 b))], []⟩ := by
  intro k
  induction k with
  | zero => intro t _ h; omega
  | succ k ih =>
    intro t ht hk
    rw [FnD.H_succ, shspr_l0]
    have wr : ∀ n : Nat, n < 1000 → IntKind.i64.wrap (n : Int) = (n : Int) := fun n hn => IntWalk.i64_in _ (by omega)
    have e4 : IntKind.i64.wrap (4 * (t : Int)) = ((4 * t : Nat) : Int) := by rw [show (4 : Int) * t = ((4 * t : Nat) : Int) by omega]; exact wr _ (by omega)
    have e1 : IntKind.i64.wrap (((4 * t : Nat) : Int) + 1) = ((4 * t + 1 : Nat) : Int) := by rw [show ((4 * t : Nat) : Int) + 1 = ((4 * t + 1 : Nat) : Int) by omega]; exact wr _ (by omega)
    have e2 : IntKind.i64.wrap (((4 * t : Nat) : Int) + 2) = ((4 * t + 2 : Nat) : Int) := by rw [show ((4 * t : Nat) : Int) + 2 = ((4 * t + 2 : Nat) : Int) by omega]; exact wr _ (by omega)
    have e3 : IntKind.i64.wrap (((4 * t : Nat) : Int) + 3) = ((4 * t + 3 : Nat) : Int) := by rw [show ((4 * t : Nat) : Int) + 3 = ((4 * t + 3 : Nat) : Int) by omega]; exact wr _ (by omega)
    have et : IntKind.i64.wrap ((t : Int) + 1) = ((t + 1 : Nat) : Int) := by rw [show (t : Int) + 1 = ((t + 1 : Nat) : Int) by omega]; exact wr _ (by omega)
    dsimp only
    rw [e4, e1, e2, e3, et, castL_length, hl]
    simp only [Int.toNat_natCast, nth_castL]
    by_cases h : t < 80
    · refine condT (by omega) ?_
      have st := setRow (b := b) h
      have nx := ih (t + 1) (by omega) (by omega)
      rw [← st] at nx
      by_cases h16 : t < 16
      · refine condT (by omega) (condB ((inB_iff _ _).2 (by omega)) (condB ((inB_iff _ _).2 (by omega)) (condB ((inB_iff _ _).2 (by omega)) (condB ((inB_iff _ _).2 (by omega)) (condB ((inB_iff _ _).2 (by omega)) (condT (by omega) ?_))))))
        rw [w8 (nthN_8 hb _), w8 (nthN_8 hb _), w8 (nthN_8 hb _), w8 (nthN_8 hb _), word4 hb (4 * t), ← w80_lo h16]
        exact nx
      · have s : ∀ c : Nat, c ≤ 16 → IntKind.i64.wrap ((t : Int) - (c : Int)) = ((t - c : Nat) : Int) := fun c hc => by rw [show (t : Int) - (c : Int) = ((t - c : Nat) : Int) by omega]; exact wr _ (by omega)
        have s3 := s 3 (by decide)
        have s8 := s 8 (by decide)
        have s14 := s 14 (by decide)
        have s16 := s 16 (by decide)
        rw [show ((3 : Nat) : Int) = 3 from rfl] at s3
        rw [show ((8 : Nat) : Int) = 8 from rfl] at s8
        rw [show ((14 : Nat) : Int) = 14 from rfl] at s14
        rw [show ((16 : Nat) : Int) = 16 from rfl] at s16
        rw [s3, s8, s14, s16]
        simp only [Int.toNat_natCast]
        refine condF (by omega) (condB ((inB_iff _ _).2 (by omega)) (condT (by omega) (condB ((inB_iff _ _).2 (by omega)) (condT (by omega) (condB ((inB_iff _ _).2 (by omega)) (condT (by omega) (condB ((inB_iff _ _).2 (by omega)) (condT (by omega) (condB ((inB_iff _ _).2 (by omega)) (condT (by omega) ?_))))))))))
        have g := fun j => nthN_32 (w80_lt hb) j
        rw [rowN_lo (by omega) (by omega), rowN_lo (by omega) (by omega), rowN_lo (by omega) (by omega), rowN_lo (by omega) (by omega), xor4 (g _) (g _) (g _) (g _), ← w80_hi (by omega) h]
        exact nx
    · have e : t = 80 := by omega
      subst e
      exact condF (by omega) (retS (by rw [rowN_80]))
theorem shspr_run (l : List Int) (hp : bytesOk l ∧ l.length = 64) : ∃ fu, shspr_f.run shspr_e [] fu [c1 (.ints .u8 l)] [] = some ⟨agg [.arr .u32 80 (castL (w80 (natL l)))], []⟩ := by
  obtain ⟨hb, hl⟩ := hp
  obtain ⟨b, rfl, e, hb⟩ := bytes_nat hb
  rw [e]
  refine ⟨81, ?_⟩
  rw [FnD.run, shspr_ent]
  have := shspr_loop b hb (by simpa [castL] using hl) (castL (rowN b 0)) 81 0 (by omega) (by omega)
  exact this
theorem shspr_ok (l : List Int) (hp : bytesOk l ∧ l.length = 64) : FnOk cfg 192 ([c1 (.ints .u8 l)].map SV.den) (agg [.arr .u32 80 (castL (w80 (natL l)))] : SV).den := by
  obtain ⟨nn, h⟩ := shspr_run l hp
  exact FnD.ok shspr_g shspr_f mixed Tryz.func192 rfl rfl rfl rfl rfl rfl h
noncomputable def c_shspr : SpecF := fun args _ K => match args with
  | [.one (.c (.ints .u8 l))] => bif decide (bytesOk l ∧ l.length = 64) then K (agg [.arr .u32 80 (castL (w80 (natL l)))]) [] else none
  | _ => none
theorem c_shspr_ok : SpecOk cfg 192 c_shspr := by
  intro args bx K out h
  unfold c_shspr at h
  split at h
  · obtain ⟨hp, h⟩ := bif_some h
    exact ⟨_, _, h, .inl (shspr_ok _ (of_decide_eq_true hp) _), by simp [isTupS]⟩
  · cases h
/-! ### (*sha.state).add -/
noncomputable def shadd_e : Ev' := ⟨Tryz.prog, glob, Γof [(192, c_shspr), (193, c_rot), (194, c_shmix), (195, c_shcon)]⟩
theorem shadd_g : Gd cfg shadd_e := gd (env_cons c_shspr_ok (env_cons c_rot_ok (env_cons c_shmix_ok (env_cons c_shcon_ok (env_nil _)))))
noncomputable def shadd_f : FnD := ⟨156, Tryz.f156, shOf [(0, ⟨67, [], [(67, [.arr .u32 5]), (5, [.arr .u32 5])], [(0, .c (.ptr 67 0)), (5, .c (.ptr 5 0)), (15, .agg [.arr .u32 80]), (16, .c (.int .i64))]⟩), (1, ⟨67, [], [(67, [.arr .u32 5]), (5, [.arr .u32 5])], [(0, .c (.ptr 67 0)), (5, .c (.ptr 5 0)), (52, .c (.int .i64))]⟩)], Tryz.f156.resultTypes.toList, 0⟩
theorem shadd_ent (h : Hd) (s : List Int) (l : List Int) : shadd_f.ent shadd_e [67] h [c1 (.ptr 67 0), c1 (.ints .u8 l)] [⟨.sg [.arr .u32 5 s], 0, false⟩] = bif decide (bytesOk l ∧ l.length = (64 : Nat)) then h (0 : Nat) [Lf.l s, Lf.l s, Lf.l (castL (w80 (natL l))), Lf.i (0 : Int)] else none := by kernel_rfl
theorem shadd_l0 (h : Hd) (s : List Int) (x : List Int) (w : List Int) (t : Int) : shadd_f.seg shadd_e [67] h 0 [.l s, .l x, .l w, .i t] = bif decide (t < (80 : Int)) then bif inB t (80 : Nat) && decide (t.toNat < (80 : Nat)) then bif decide (((0 : Int) ≤ t ∧ t < (80 : Int)) ∧ ((0 : Int) ≤ x.getD (1 : Nat) (0 : Int) ∧ x.getD (1 : Nat) (0 : Int) < (4294967296 : Int)) ∧ ((0 : Int) ≤ x.getD (2 : Nat) (0 : Int) ∧ x.getD (2 : Nat) (0 : Int) < (4294967296 : Int)) ∧ (0 : Int) ≤ x.getD (3 : Nat) (0 : Int) ∧ x.getD (3 : Nat) (0 : Int) < (4294967296 : Int)) then bif decide ((0 : Int) ≤ t ∧ t < (80 : Int)) then h (0 : Nat) [Lf.l s, Lf.l (setD (5 : Nat) (setD (5 : Nat) (setD (5 : Nat) (setD (5 : Nat) (setD (5 : Nat) [(0 : Int), (0 : Int), (0 : Int), (0 : Int), (0 : Int)] (0 : Nat) (IntKind.u32.wrap (IntKind.u32.wrap (IntKind.u32.wrap (IntKind.u32.wrap (rotI (x.getD (0 : Nat) (0 : Int)) (5 : Int) + (↑(fN t.toNat (x.getD (1 : Nat) (0 : Int)).toNat (x.getD (2 : Nat) (0 : Int)).toNat (x.getD (3 : Nat) (0 : Int)).toNat) : Int)) + x.getD (4 : Nat) (0 : Int)) + (↑(kN t.toNat) : Int)) + w.getD t.toNat (0 : Int)))) (1 : Nat) (x.getD (0 : Nat) (0 : Int))) (2 : Nat) (rotI (x.getD (1 : Nat) (0 : Int)) (30 : Int))) (3 : Nat) (x.getD (2 : Nat) (0 : Int))) (4 : Nat) (x.getD (3 : Nat) (0 : Int))), Lf.l w, Lf.i (IntKind.i64.wrap (t + (1 : Int)))] else none else none else none else h (1 : Nat) [Lf.l s, Lf.l x, Lf.i (0 : Int)] := by kernel_rfl
theorem shadd_l1 (h : Hd) (s : List Int) (x : List Int) (i : Int) : shadd_f.seg shadd_e [67] h 1 [.l s, .l x, .i i] = bif decide (i < (5 : Int)) then bif inB i (5 : Nat) then bif decide (i.toNat < (5 : Nat)) then bif inB i (5 : Nat) then bif decide (i.toNat < (5 : Nat)) then bif inB i (5 : Nat) then bif decide (i.toNat < (5 : Nat)) then h (1 : Nat) [Lf.l (setD (5 : Nat) s i.toNat (IntKind.u32.wrap (s.getD i.toNat (0 : Int) + x.getD i.toNat (0 : Int)))), Lf.l x, Lf.i (IntKind.i64.wrap (i + (1 : Int)))] else none else none else none else none else none else none else some { r := SV.tup [], bs := [{ ct := Ct.sg [Sg.arr IntKind.u32 (5 : Nat) s], pub := (0 : Nat), nl := false }] } := by kernel_rfl

theorem set5 (a b c d e : Int) : setD 5 (setD 5 (setD 5 (setD 5 (setD 5 [0, 0, 0, 0, 0] 0 a) 1 b) 2 c) 3 d) 4 e = [a, b, c, d, e] := rfl
theorem shadd_step (s x : List Int) (i : Nat) (hi : i < 5) (k : Nat) : shadd_f.H shadd_e [67] (k + 1) 1 [.l s, .l x, .i (i : Int)] = shadd_f.H shadd_e [67] k 1 [.l (setD 5 s i (IntKind.u32.wrap (s.getD i 0 + x.getD i 0))), .l x, .i ((i + 1 : Nat) : Int)] := by
  rw [FnD.H_succ, shadd_l1]
  rw [Int.toNat_natCast, show IntKind.i64.wrap ((i : Int) + 1) = ((i + 1 : Nat) : Int) by rw [show (i : Int) + 1 = ((i + 1 : Nat) : Int) by omega]; exact IntWalk.i64_in _ (by omega)]
  have hb : inB (i : Int) 5 = true := (inB_iff _ _).2 (by omega)
  exact condT (by omega) (condB hb (condT hi (condB hb (condT hi (condB hb (condT hi rfl))))))
theorem wadd (a b : Nat) : IntKind.u32.wrap ((a : Int) + (b : Int)) = (((a + b) % 4294967296 : Nat) : Int) := by rw [← Int.natCast_add, wrap_u32]
theorem shadd_end (a b c d e p q r u v : Nat) (k : Nat) : shadd_f.H shadd_e [67] (k + 6) 1 [.l (castL [a, b, c, d, e]), .l (castL [p, q, r, u, v]), .i 0] =
    some ⟨.tup [], [⟨.sg [.arr .u32 5 (castL [(a + p) % 4294967296, (b + q) % 4294967296, (c + r) % 4294967296, (d + u) % 4294967296, (e + v) % 4294967296])], 0, false⟩]⟩ := by
  rw [show (0 : Int) = ((0 : Nat) : Int) from rfl, shadd_step _ _ 0 (by decide), shadd_step _ _ 1 (by decide), shadd_step _ _ 2 (by decide), shadd_step _ _ 3 (by decide), shadd_step _ _ 4 (by decide), FnD.H_succ, shadd_l1]
  refine condF (by decide) ?_
  have e : castL [(a + p) % 4294967296, (b + q) % 4294967296, (c + r) % 4294967296, (d + u) % 4294967296, (e + v) % 4294967296] = [IntKind.u32.wrap ((a : Int) + (p : Int)), IntKind.u32.wrap ((b : Int) + (q : Int)), IntKind.u32.wrap ((c : Int) + (r : Int)), IntKind.u32.wrap ((d : Int) + (u : Int)), IntKind.u32.wrap ((e : Int) + (v : Int))] := by
    rw [wadd, wadd, wadd, wadd, wadd]; rfl
  rw [e]
  rfl
theorem rot_at {l : List Nat} (h : ∀ x ∈ l, x < 4294967296) (i k : Nat) (hk : k < 32) : rotI ((nthN l i : Nat) : Int) (k : Int) = ((rotN (nthN l i) k : Nat) : Int) := rotI_nat (nthN_32 h i) hk
theorem shadd_loop (s b : List Nat) (hs : s.length = 5) (hs2 : ∀ x ∈ s, x < 4294967296) (hb : ∀ x ∈ b, x < 256) : ∀ k t, t ≤ 80 → 80 - t < k →
    shadd_f.H shadd_e [67] (k + 6) 0 [.l (castL s), .l (castL (xs s (w80 b) t)), .l (castL (w80 b)), .i (t : Int)] = some ⟨.tup [], [⟨.sg [.arr .u32 5 (castL (compN s b))], 0, false⟩]⟩ := by
  intro k
  induction k with
  | zero => intro t _ h; omega
  | succ k ih =>
    intro t ht hk
    rw [show k + 1 + 6 = (k + 6) + 1 by omega, FnD.H_succ, shadd_l0]
    have hx := xs_lt (w := w80 b) hs2 t
    have g := fun j => nthN_32 hx j
    have gz : ∀ j, (0 : Int) ≤ ((nthN (xs s (w80 b) t) j : Nat) : Int) ∧ ((nthN (xs s (w80 b) t) j : Nat) : Int) < 4294967296 := fun j => ⟨by omega, by have := g j; omega⟩
    simp only [Int.toNat_natCast, nth_castL]
    by_cases h : t < 80
    · have hb2 : inB (t : Int) 80 = true := (inB_iff _ _).2 (by omega)
      have ht2 : (0 : Int) ≤ (t : Int) ∧ (t : Int) < 80 := by omega
      refine condT (by omega) (condB (by rw [hb2, decide_eq_true h]; rfl) (condT ⟨ht2, gz 1, gz 2, gz 3⟩ (condT ht2 ?_)))
      have r5 := rot_at hx 0 5 (by decide)
      have r30 := rot_at hx 1 30 (by decide)
      rw [show ((5 : Nat) : Int) = 5 from rfl] at r5
      rw [show ((30 : Nat) : Int) = 30 from rfl] at r30
      rw [r5, r30, wadd, wadd, wadd, wadd, set5]
      have nx := ih (t + 1) (by omega) (by omega)
      rw [xs, stepN] at nx
      rw [show IntKind.i64.wrap ((t : Int) + 1) = ((t + 1 : Nat) : Int) by rw [show (t : Int) + 1 = ((t + 1 : Nat) : Int) by omega]; exact IntWalk.i64_in _ (by omega)]
      generalize rotN (nthN (xs s (w80 b) t) 0) 5 = A at nx ⊢
      generalize fN t (nthN (xs s (w80 b) t) 1) (nthN (xs s (w80 b) t) 2) (nthN (xs s (w80 b) t) 3) = B at nx ⊢
      generalize nthN (xs s (w80 b) t) 4 = E at nx ⊢
      generalize kN t = F at nx ⊢
      generalize nthN (w80 b) t = G at nx ⊢
      rw [show ((((A + B) % 4294967296 + E) % 4294967296 + F) % 4294967296 + G) % 4294967296 = (A + B + E + F + G) % 4294967296 by omega]
      exact nx
    · have e : t = 80 := by omega
      subst e
      refine condF (by omega) ?_
      have hxl := xs_len (s := s) (w := w80 b) hs 80
      have hc : compN s b = [(nthN s 0 + nthN (xs s (w80 b) 80) 0) % 4294967296, (nthN s 1 + nthN (xs s (w80 b) 80) 1) % 4294967296, (nthN s 2 + nthN (xs s (w80 b) 80) 2) % 4294967296, (nthN s 3 + nthN (xs s (w80 b) 80) 3) % 4294967296, (nthN s 4 + nthN (xs s (w80 b) 80) 4) % 4294967296] := by
        unfold compN; rw [x80_eq]
      rw [hc]
      clear hc ih g gz hx hs2
      generalize xs s (w80 b) 80 = x at hxl ⊢
      match s, hs, x, hxl with
      | [a, b, c, d, e], _, [p, q, r, u, v], _ => exact shadd_end a b c d e p q r u v k
theorem shadd_run (s : List Int) (l : List Int) (hp : wordsOk s ∧ bytesOk l ∧ l.length = 64) : ∃ fu, shadd_f.run shadd_e [67] fu [c1 (.ptr 67 0), c1 (.ints .u8 l)] [⟨.sg [.arr .u32 5 s], 0, false⟩] = some ⟨.tup [], [⟨.sg [.arr .u32 5 (castL (compN (natL s) (natL l)))], 0, false⟩]⟩ := by
  obtain ⟨h1, h2, h3⟩ := hp
  have h4 := h2
  obtain ⟨s, rfl, e1, hs, hs2⟩ := words_nat h1
  obtain ⟨b, rfl, e2, hb⟩ := bytes_nat h2
  rw [e1, e2]
  refine ⟨81 + 6, ?_⟩
  rw [FnD.run, shadd_ent]
  refine condT ⟨h4, h3⟩ ?_
  rw [e2]
  exact shadd_loop s b hs hs2 hb 81 0 (by omega) (by omega)
theorem shadd_ok (s : List Int) (l : List Int) (hp : wordsOk s ∧ bytesOk l ∧ l.length = 64) (q : Nat) (pre : Nat → Option Box) (hpre : pre q = some (⟨.sg [.arr .u32 5 s], 0, false⟩ : SB).den) : FnOkB cfg 156 ([c1 (.ptr q 0), c1 (.ints .u8 l)].map SV.den) pre (.tup [] : SV).den [(q, some (⟨.sg [.arr .u32 5 (castL (compN (natL s) (natL l)))], 0, false⟩ : SB).den)] := by
  obtain ⟨nn, h⟩ := shadd_run s l hp
  exact FnD.ok1 shadd_g shadd_f mixed Tryz.func156 rfl rfl rfl rfl rfl rfl rfl rfl rfl h q pre hpre
noncomputable def c_shadd : SpecF := fun args bx K => match args with
  | [.one (.c (.ptr q 0)), .one (.c (.ints .u8 l))] => match bx q with
    | some ⟨.sg [.arr .u32 5 s], 0, false⟩ => bif decide (wordsOk s ∧ bytesOk l ∧ l.length = 64) then K (.tup []) [(q, some ⟨.sg [.arr .u32 5 (castL (compN (natL s) (natL l)))], 0, false⟩)] else none
    | _ => none
  | _ => none
theorem c_shadd_ok : SpecOk cfg 156 c_shadd := by
  intro args bx K out h
  unfold c_shadd at h
  split at h
  · split at h
    · rename_i hb
      obtain ⟨hp, h⟩ := bif_some h
      exact ⟨_, _, h, .inl (shadd_ok _ _ (of_decide_eq_true hp) _ _ (by simp [denB, hb])), by simp [isTupS]⟩
    · cases h
  · cases h
end Go.Proofs.YtldofkogmkfpjaaGreatDoor
