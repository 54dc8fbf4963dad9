/-
  The contracts of the calendar's functions.
-/
import Derived.Test.YtldofkogmkfpjaaGreatDoorIzSyTy
import Derived.Test.YtldofkogmkfpjaaGreatDoorPGreg
import Derived.Test.YtldofkogmkfpjaaGreatDoorPLimb
namespace Go.Proofs.YtldofkogmkfpjaaGreatDoor
open Go Go.Ev Go.Sy
set_option linter.unusedSimpArgs false
set_option linter.unusedVariables false
set_option maxRecDepth 10000
set_option maxHeartbeats 4000000
theorem retI {a b : Int} (h : a = b) : (ret (vI a)) = some ⟨vI b, []⟩ := by rw [h]
theorem retB {a b : Bool} (h : a = b) : (ret (vB a)) = some ⟨vB b, []⟩ := by rw [h]
theorem retII {a b c d : Int} (h : a = b) (h' : c = d) : (ret (.tup [.c (.int .i64 a), .c (.int .i64 c)])) = some ⟨.tup [.c (.int .i64 b), .c (.int .i64 d)], []⟩ := by rw [h, h']
theorem inB_i {i : Int} {n : Nat} (h : 0 ≤ i ∧ i < n) : inB i n = true := (inB_iff i n).2 h
theorem getM {m : Int} (h : 1 ≤ m ∧ m ≤ 12) (h2 : ¬ m = 2) (y : Int) : ([31, 28, 31, 30, 31, 30, 31, 31, 30, 31, 30, 31] : List Int).getD (m - 1).toNat 0 = lenM y m := by
  have hm : m = 1 ∨ m = 3 ∨ m = 4 ∨ m = 5 ∨ m = 6 ∨ m = 7 ∨ m = 8 ∨ m = 9 ∨ m = 10 ∨ m = 11 ∨ m = 12 := by omega
  rcases hm with rfl | rfl | rfl | rfl | rfl | rfl | rfl | rfl | rfl | rfl | rfl <;> simp [lenM]
theorem get2 {m : Int} (h : m = 2) {y : Int} (hl : longY y = false) : ([31, 28, 31, 30, 31, 30, 31, 31, 30, 31, 30, 31] : List Int).getD (m - 1).toNat 0 = lenM y m := by subst h; simp [lenM, hl]
/-! ### greg.Leap -/
noncomputable def leap_e : Ev' := ⟨Tryz.prog, glob, Γof []⟩
theorem leap_g : Gd cfg leap_e := gd (env_nil _)
noncomputable def leap_f : FnD := ⟨152, Tryz.f152, noSh, Tryz.f152.resultTypes.toList⟩
theorem leap_ent (h : Hd) (y : Int) : leap_f.ent leap_e [] h [vI y] [] = bif decide (y.tmod (4 : Int) = (0 : Int)) then bif !decide (y.tmod (100 : Int) = (0 : Int)) then ret (vB true) else ret (vB (decide (y.tmod (400 : Int) = (0 : Int)))) else ret (vB false) := by kernel_rfl
theorem leap_run (y : Int) : ∃ fu, leap_f.run leap_e [] fu [vI y] [] = some ⟨vB (longY y), []⟩ := by
  refine ⟨0, ?_⟩
  rw [FnD.run, leap_ent]
  simp only [Bool.cond_eq_ite, Bool.not_eq_true', Bool.not_eq_false', Bool.and_eq_true, Bool.and_eq_false_iff, decide_eq_true_eq, decide_eq_false_iff_not, Bool.or_eq_true, Bool.or_eq_false_iff, Bool.not_true, Bool.not_false, Bool.false_eq_true, false_iff, true_iff, bne_iff_ne, beq_iff_eq, ne_eq, iff_true, iff_false, not_and, not_or]
  repeat' split
  all_goals first
    | rfl
    | (refine congrArg (fun x : Bool => (some ⟨vB x, []⟩ : Option Out)) ?_; rw [Bool.eq_iff_iff]; simp only [longY, inR, dateOk, tmod_z, Bool.not_eq_true', Bool.not_eq_false', Bool.and_eq_true, Bool.and_eq_false_iff, decide_eq_true_eq, decide_eq_false_iff_not, Bool.or_eq_true, Bool.or_eq_false_iff, Bool.not_true, Bool.not_false, Bool.false_eq_true, false_iff, true_iff, bne_iff_ne, beq_iff_eq, ne_eq, iff_true, iff_false, not_and, not_or] at *; omega)
theorem leap_ok (y : Int) : FnOk cfg 152 ([vI y].map SV.den) (vB (longY y) : SV).den := by
  obtain ⟨nn, h⟩ := leap_run y
  exact FnD.ok leap_g leap_f mixed Tryz.func152 rfl rfl rfl rfl rfl rfl h
noncomputable def c_leap : SpecF := fun args _ K => match args with
  | [.one (.c (.int .i64 y))] => K (vB (longY y)) []
  | _ => none
theorem c_leap_ok : SpecOk cfg 152 c_leap := by
  intro args bx K out h
  unfold c_leap at h
  split at h
  · exact ⟨_, _, h, .inl (leap_ok _ _), by simp [isTupS]⟩
  · cases h
/-! ### epactref05.Long -/
noncomputable def long_e : Ev' := ⟨Tryz.prog, glob, Γof []⟩
theorem long_g : Gd cfg long_e := gd (env_nil _)
noncomputable def long_f : FnD := ⟨108, Tryz.f108, noSh, Tryz.f108.resultTypes.toList⟩
theorem long_ent (h : Hd) (y : Int) : long_f.ent long_e [] h [vI y] [] = bif decide (y.tmod (400 : Int) = (0 : Int)) then ret (vB true) else bif decide (y.tmod (4 : Int) = (0 : Int)) then ret (vB !decide (y.tmod (100 : Int) = (0 : Int))) else ret (vB false) := by kernel_rfl
theorem long_run (y : Int) : ∃ fu, long_f.run long_e [] fu [vI y] [] = some ⟨vB (longY y), []⟩ := by
  refine ⟨0, ?_⟩
  rw [FnD.run, long_ent]
  simp only [Bool.cond_eq_ite, Bool.not_eq_true', Bool.not_eq_false', Bool.and_eq_true, Bool.and_eq_false_iff, decide_eq_true_eq, decide_eq_false_iff_not, Bool.or_eq_true, Bool.or_eq_false_iff, Bool.not_true, Bool.not_false, Bool.false_eq_true, false_iff, true_iff, bne_iff_ne, beq_iff_eq, ne_eq, iff_true, iff_false, not_and, not_or]
  repeat' split
  all_goals first
    | rfl
    | (refine congrArg (fun x : Bool => (some ⟨vB x, []⟩ : Option Out)) ?_; rw [Bool.eq_iff_iff]; simp only [longY, inR, dateOk, tmod_z, Bool.not_eq_true', Bool.not_eq_false', Bool.and_eq_true, Bool.and_eq_false_iff, decide_eq_true_eq, decide_eq_false_iff_not, Bool.or_eq_true, Bool.or_eq_false_iff, Bool.not_true, Bool.not_false, Bool.false_eq_true, false_iff, true_iff, bne_iff_ne, beq_iff_eq, ne_eq, iff_true, iff_false, not_and, not_or] at *; omega)
theorem long_ok (y : Int) : FnOk cfg 108 ([vI y].map SV.den) (vB (longY y) : SV).den := by
  obtain ⟨nn, h⟩ := long_run y
  exact FnD.ok long_g long_f mixed Tryz.func108 rfl rfl rfl rfl rfl rfl h
noncomputable def c_long : SpecF := fun args _ K => match args with
  | [.one (.c (.int .i64 y))] => K (vB (longY y)) []
  | _ => none
theorem c_long_ok : SpecOk cfg 108 c_long := by
  intro args bx K out h
  unfold c_long at h
  split at h
  · exact ⟨_, _, h, .inl (long_ok _ _), by simp [isTupS]⟩
  · cases h
/-! ### greg.Length -/
noncomputable def glen_e : Ev' := ⟨Tryz.prog, glob, Γof [(152, c_leap)]⟩
theorem glen_g : Gd cfg glen_e := gd (env_cons c_leap_ok (env_nil _))
noncomputable def glen_f : FnD := ⟨105, Tryz.f105, noSh, Tryz.f105.resultTypes.toList⟩
theorem glen_ent (h : Hd) (y : Int) (m : Int) : glen_f.ent glen_e [] h [vI y, vI m] [] = let v1 : Int := [(31 : Int), (28 : Int), (31 : Int), (30 : Int), (31 : Int), (30 : Int), (31 : Int), (31 : Int), (30 : Int), (31 : Int), (30 : Int), (31 : Int)].getD (IntKind.i64.wrap (m - (1 : Int))).toNat (0 : Int); bif decide (m < (1 : Int)) then ret (vI (0 : Int)) else bif decide ((12 : Int) < m) then ret (vI (0 : Int)) else bif decide (m = (2 : Int)) then bif longY y then ret (vI (29 : Int)) else bif inB (IntKind.i64.wrap (m - (1 : Int))) (12 : Nat) then ret (vI v1) else none else bif inB (IntKind.i64.wrap (m - (1 : Int))) (12 : Nat) then ret (vI v1) else none := by kernel_rfl
theorem glen_run (y : Int) (m : Int) : ∃ fu, glen_f.run glen_e [] fu [vI y, vI m] [] = some ⟨vI (lenM y m), []⟩ := by
  refine ⟨0, ?_⟩
  rw [FnD.run, glen_ent]
  by_cases h : m < 1 ∨ 12 < m
  · have e : lenM y m = 0 := by simp [lenM, h]
    rw [e]
    rcases h with h | h
    · simp [h]
    · by_cases h1 : m < 1 <;> simp [h, h1]
  · have w : IntKind.i64.wrap (m - 1) = m - 1 := i64_in' _ (by omega)
    have hi : inB (m - 1) 12 = true := inB_i (by omega)
    have hb : (m - 1).toNat < 12 := by omega
    have h1 : ¬ m < 1 := by omega
    have h2 : ¬ 12 < m := by omega
    try dsimp only
    rw [w, hi]
    simp only [h1, h2, decide_false, cond_false, cond_true]
    try rw [decide_eq_true hb]
    try simp only [cond_true]
    by_cases h3 : m = 2
    · simp only [h3, decide_true, cond_true]
      cases hl : longY y with
      | true => simp [lenM, hl]
      | false => simp [lenM, hl]
    · simp only [h3, decide_false, cond_false]
      exact retI (getM (by omega) h3 y)
theorem glen_ok (y : Int) (m : Int) : FnOk cfg 105 ([vI y, vI m].map SV.den) (vI (lenM y m) : SV).den := by
  obtain ⟨nn, h⟩ := glen_run y m
  exact FnD.ok glen_g glen_f mixed Tryz.func105 rfl rfl rfl rfl rfl rfl h
noncomputable def c_glen : SpecF := fun args _ K => match args with
  | [.one (.c (.int .i64 y)), .one (.c (.int .i64 m))] => K (vI (lenM y m)) []
  | _ => none
theorem c_glen_ok : SpecOk cfg 105 c_glen := by
  intro args bx K out h
  unfold c_glen at h
  split at h
  · exact ⟨_, _, h, .inl (glen_ok _ _ _), by simp [isTupS]⟩
  · cases h
/-! ### epactref05.Length -/
noncomputable def rlen_e : Ev' := ⟨Tryz.prog, glob, Γof [(108, c_long)]⟩
theorem rlen_g : Gd cfg rlen_e := gd (env_cons c_long_ok (env_nil _))
noncomputable def rlen_f : FnD := ⟨66, Tryz.f66, noSh, Tryz.f66.resultTypes.toList⟩
theorem rlen_ent (h : Hd) (y : Int) (m : Int) : rlen_f.ent rlen_e [] h [vI y, vI m] [] = let v1 : Int := [(31 : Int), (28 : Int), (31 : Int), (30 : Int), (31 : Int), (30 : Int), (31 : Int), (31 : Int), (30 : Int), (31 : Int), (30 : Int), (31 : Int)].getD (IntKind.i64.wrap (m - (1 : Int))).toNat (0 : Int); bif decide (m < (1 : Int)) then ret (vI (0 : Int)) else bif decide ((12 : Int) < m) then ret (vI (0 : Int)) else bif decide (m = (2 : Int)) then bif longY y then ret (vI (29 : Int)) else bif inB (IntKind.i64.wrap (m - (1 : Int))) (12 : Nat) then bif decide ((IntKind.i64.wrap (m - (1 : Int))).toNat < (12 : Nat)) then ret (vI v1) else none else none else bif inB (IntKind.i64.wrap (m - (1 : Int))) (12 : Nat) then bif decide ((IntKind.i64.wrap (m - (1 : Int))).toNat < (12 : Nat)) then ret (vI v1) else none else none := by kernel_rfl
theorem rlen_run (y : Int) (m : Int) : ∃ fu, rlen_f.run rlen_e [] fu [vI y, vI m] [] = some ⟨vI (lenM y m), []⟩ := by
  refine ⟨0, ?_⟩
  rw [FnD.run, rlen_ent]
  by_cases h : m < 1 ∨ 12 < m
  · have e : lenM y m = 0 := by simp [lenM, h]
    rw [e]
    rcases h with h | h
    · simp [h]
    · by_cases h1 : m < 1 <;> simp [h, h1]
  · have w : IntKind.i64.wrap (m - 1) = m - 1 := i64_in' _ (by omega)
    have hi : inB (m - 1) 12 = true := inB_i (by omega)
    have hb : (m - 1).toNat < 12 := by omega
    have h1 : ¬ m < 1 := by omega
    have h2 : ¬ 12 < m := by omega
    try dsimp only
    rw [w, hi]
    simp only [h1, h2, decide_false, cond_false, cond_true]
    try rw [decide_eq_true hb]
    try simp only [cond_true]
    by_cases h3 : m = 2
    · simp only [h3, decide_true, cond_true]
      cases hl : longY y with
      | true => simp [lenM, hl]
      | false => simp [lenM, hl]
    · simp only [h3, decide_false, cond_false]
      exact retI (getM (by omega) h3 y)
theorem rlen_ok (y : Int) (m : Int) : FnOk cfg 66 ([vI y, vI m].map SV.den) (vI (lenM y m) : SV).den := by
  obtain ⟨nn, h⟩ := rlen_run y m
  exact FnD.ok rlen_g rlen_f mixed Tryz.func66 rfl rfl rfl rfl rfl rfl h
noncomputable def c_rlen : SpecF := fun args _ K => match args with
  | [.one (.c (.int .i64 y)), .one (.c (.int .i64 m))] => K (vI (lenM y m)) []
  | _ => none
theorem c_rlen_ok : SpecOk cfg 66 c_rlen := by
  intro args bx K out h
  unfold c_rlen at h
  split at h
  · exact ⟨_, _, h, .inl (rlen_ok _ _ _), by simp [isTupS]⟩
  · cases h
/-! ### greg.Valid -/
noncomputable def gvalid_e : Ev' := ⟨Tryz.prog, glob, Γof [(105, c_glen)]⟩
theorem gvalid_g : Gd cfg gvalid_e := gd (env_cons c_glen_ok (env_nil _))
noncomputable def gvalid_f : FnD := ⟨54, Tryz.f54, noSh, Tryz.f54.resultTypes.toList⟩
theorem gvalid_ent (h : Hd) (y : Int) (m : Int) (d : Int) : gvalid_f.ent gvalid_e [] h [agg [.c (.int .i64 y), .c (.int .i64 m), .c (.int .i64 d)]] [] = bif decide ((1 : Int) ≤ d) then ret (vB (decide (d ≤ lenM y m))) else ret (vB false) := by kernel_rfl
theorem gvalid_run (y : Int) (m : Int) (d : Int) : ∃ fu, gvalid_f.run gvalid_e [] fu [agg [.c (.int .i64 y), .c (.int .i64 m), .c (.int .i64 d)]] [] = some ⟨vB (dateOk y m d), []⟩ := by
  refine ⟨0, ?_⟩
  rw [FnD.run, gvalid_ent]
  simp only [Bool.cond_eq_ite, Bool.not_eq_true', Bool.not_eq_false', Bool.and_eq_true, Bool.and_eq_false_iff, decide_eq_true_eq, decide_eq_false_iff_not, Bool.or_eq_true, Bool.or_eq_false_iff, Bool.not_true, Bool.not_false, Bool.false_eq_true, false_iff, true_iff, bne_iff_ne, beq_iff_eq, ne_eq, iff_true, iff_false, not_and, not_or]
  repeat' split
  all_goals first
    | rfl
    | (refine congrArg (fun x : Bool => (some ⟨vB x, []⟩ : Option Out)) ?_; rw [Bool.eq_iff_iff]; simp only [longY, inR, dateOk, tmod_z, Bool.not_eq_true', Bool.not_eq_false', Bool.and_eq_true, Bool.and_eq_false_iff, decide_eq_true_eq, decide_eq_false_iff_not, Bool.or_eq_true, Bool.or_eq_false_iff, Bool.not_true, Bool.not_false, Bool.false_eq_true, false_iff, true_iff, bne_iff_ne, beq_iff_eq, ne_eq, iff_true, iff_false, not_and, not_or] at *; omega)
theorem gvalid_ok (y : Int) (m : Int) (d : Int) : FnOk cfg 54 ([agg [.c (.int .i64 y), .c (.int .i64 m), .c (.int .i64 d)]].map SV.den) (vB (dateOk y m d) : SV).den := by
  obtain ⟨nn, h⟩ := gvalid_run y m d
  exact FnD.ok gvalid_g gvalid_f mixed Tryz.func54 rfl rfl rfl rfl rfl rfl h
noncomputable def c_gvalid : SpecF := fun args _ K => match args with
  | [.one (.agg [.c (.int .i64 y), .c (.int .i64 m), .c (.int .i64 d)])] => K (vB (dateOk y m d)) []
  | _ => none
theorem c_gvalid_ok : SpecOk cfg 54 c_gvalid := by
  intro args bx K out h
  unfold c_gvalid at h
  split at h
  · exact ⟨_, _, h, .inl (gvalid_ok _ _ _ _), by simp [isTupS]⟩
  · cases h
/-! ### greg.floor -/
noncomputable def floor_e : Ev' := ⟨Tryz.prog, glob, Γof []⟩
theorem floor_g : Gd cfg floor_e := gd (env_nil _)
noncomputable def floor_f : FnD := ⟨95, Tryz.f95, noSh, Tryz.f95.resultTypes.toList⟩
theorem floor_ent (h : Hd) (a : Int) (b : Int) : floor_f.ent floor_e [] h [vI a, vI b] [] = bif !decide (b = (0 : Int)) then bif !decide (b = (0 : Int)) then bif decide (a.tmod b < (0 : Int)) then ret (vI (IntKind.i64.wrap (IntKind.i64.wrap (a.tdiv b) - (1 : Int)))) else ret (vI (IntKind.i64.wrap (a.tdiv b))) else none else none := by kernel_rfl
theorem floor_run (a : Int) (b : Int) (hp : ¬ b = 0) : ∃ fu, floor_f.run floor_e [] fu [vI a, vI b] [] = some ⟨vI (floorW a b), []⟩ := by
  refine ⟨0, ?_⟩
  rw [FnD.run, floor_ent]
  simp only [Bool.cond_eq_ite, Bool.not_eq_true', Bool.not_eq_false', Bool.and_eq_true, Bool.and_eq_false_iff, decide_eq_true_eq, decide_eq_false_iff_not, Bool.or_eq_true, Bool.or_eq_false_iff, Bool.not_true, Bool.not_false, Bool.false_eq_true, false_iff, true_iff, bne_iff_ne, beq_iff_eq, ne_eq, iff_true, iff_false, not_and, not_or]
  repeat' split
  all_goals first | (exact absurd (by assumption) hp) | (refine retI ?_; simp only [floorW]; split <;> first | rfl | omega)
theorem floor_ok (a : Int) (b : Int) (hp : ¬ b = 0) : FnOk cfg 95 ([vI a, vI b].map SV.den) (vI (floorW a b) : SV).den := by
  obtain ⟨nn, h⟩ := floor_run a b hp
  exact FnD.ok floor_g floor_f mixed Tryz.func95 rfl rfl rfl rfl rfl rfl h
noncomputable def c_floor : SpecF := fun args _ K => match args with
  | [.one (.c (.int .i64 a)), .one (.c (.int .i64 b))] => bif decide (¬ b = 0) then K (vI (floorW a b)) [] else none
  | _ => none
theorem c_floor_ok : SpecOk cfg 95 c_floor := by
  intro args bx K out h
  unfold c_floor at h
  split at h
  · obtain ⟨hp, h⟩ := bif_some h
    exact ⟨_, _, h, .inl (floor_ok _ _ (of_decide_eq_true hp) _), by simp [isTupS]⟩
  · cases h
/-! ### epactref05.Floor -/
noncomputable def rfloor_e : Ev' := ⟨Tryz.prog, glob, Γof []⟩
theorem rfloor_g : Gd cfg rfloor_e := gd (env_nil _)
noncomputable def rfloor_f : FnD := ⟨64, Tryz.f64, noSh, Tryz.f64.resultTypes.toList⟩
theorem rfloor_ent (h : Hd) (a : Int) (b : Int) : rfloor_f.ent rfloor_e [] h [vI a, vI b] [] = bif !decide (b = (0 : Int)) then bif decide (a < IntKind.i64.wrap (IntKind.i64.wrap (a.tdiv b) * b)) then ret (vI (IntKind.i64.wrap (IntKind.i64.wrap (a.tdiv b) - (1 : Int)))) else ret (vI (IntKind.i64.wrap (a.tdiv b))) else none := by kernel_rfl
theorem rfloor_run (a : Int) (b : Int) (hp : ¬ b = 0) : ∃ fu, rfloor_f.run rfloor_e [] fu [vI a, vI b] [] = some ⟨vI (rfW a b), []⟩ := by
  refine ⟨0, ?_⟩
  rw [FnD.run, rfloor_ent]
  simp only [Bool.cond_eq_ite, Bool.not_eq_true', Bool.not_eq_false', Bool.and_eq_true, Bool.and_eq_false_iff, decide_eq_true_eq, decide_eq_false_iff_not, Bool.or_eq_true, Bool.or_eq_false_iff, Bool.not_true, Bool.not_false, Bool.false_eq_true, false_iff, true_iff, bne_iff_ne, beq_iff_eq, ne_eq, iff_true, iff_false, not_and, not_or]
  repeat' split
  all_goals first | (exact absurd (by assumption) hp) | (refine retI ?_; simp only [rfW]; split <;> first | rfl | omega)
theorem rfloor_ok (a : Int) (b : Int) (hp : ¬ b = 0) : FnOk cfg 64 ([vI a, vI b].map SV.den) (vI (rfW a b) : SV).den := by
  obtain ⟨nn, h⟩ := rfloor_run a b hp
  exact FnD.ok rfloor_g rfloor_f mixed Tryz.func64 rfl rfl rfl rfl rfl rfl h
noncomputable def c_rfloor : SpecF := fun args _ K => match args with
  | [.one (.c (.int .i64 a)), .one (.c (.int .i64 b))] => bif decide (¬ b = 0) then K (vI (rfW a b)) [] else none
  | _ => none
theorem c_rfloor_ok : SpecOk cfg 64 c_rfloor := by
  intro args bx K out h
  unfold c_rfloor at h
  split at h
  · obtain ⟨hp, h⟩ := bif_some h
    exact ⟨_, _, h, .inl (rfloor_ok _ _ (of_decide_eq_true hp) _), by simp [isTupS]⟩
  · cases h
/-! ### greg.in -/
noncomputable def gin_e : Ev' := ⟨Tryz.prog, glob, Γof []⟩
theorem gin_g : Gd cfg gin_e := gd (env_nil _)
noncomputable def gin_f : FnD := ⟨94, Tryz.f94, noSh, Tryz.f94.resultTypes.toList⟩
theorem gin_ent (h : Hd) (n : Int) : gin_f.ent gin_e [] h [vI n] [] = bif decide ((-1099511627776 : Int) ≤ n) then ret (vB (decide (n ≤ (1099511627776 : Int)))) else ret (vB false) := by kernel_rfl
theorem gin_run (n : Int) : ∃ fu, gin_f.run gin_e [] fu [vI n] [] = some ⟨vB (inR n), []⟩ := by
  refine ⟨0, ?_⟩
  rw [FnD.run, gin_ent]
  simp only [Bool.cond_eq_ite, Bool.not_eq_true', Bool.not_eq_false', Bool.and_eq_true, Bool.and_eq_false_iff, decide_eq_true_eq, decide_eq_false_iff_not, Bool.or_eq_true, Bool.or_eq_false_iff, Bool.not_true, Bool.not_false, Bool.false_eq_true, false_iff, true_iff, bne_iff_ne, beq_iff_eq, ne_eq, iff_true, iff_false, not_and, not_or]
  repeat' split
  all_goals first
    | rfl
    | (refine congrArg (fun x : Bool => (some ⟨vB x, []⟩ : Option Out)) ?_; rw [Bool.eq_iff_iff]; simp only [longY, inR, dateOk, tmod_z, Bool.not_eq_true', Bool.not_eq_false', Bool.and_eq_true, Bool.and_eq_false_iff, decide_eq_true_eq, decide_eq_false_iff_not, Bool.or_eq_true, Bool.or_eq_false_iff, Bool.not_true, Bool.not_false, Bool.false_eq_true, false_iff, true_iff, bne_iff_ne, beq_iff_eq, ne_eq, iff_true, iff_false, not_and, not_or] at *; omega)
theorem gin_ok (n : Int) : FnOk cfg 94 ([vI n].map SV.den) (vB (inR n) : SV).den := by
  obtain ⟨nn, h⟩ := gin_run n
  exact FnD.ok gin_g gin_f mixed Tryz.func94 rfl rfl rfl rfl rfl rfl h
noncomputable def c_gin : SpecF := fun args _ K => match args with
  | [.one (.c (.int .i64 n))] => K (vB (inR n)) []
  | _ => none
theorem c_gin_ok : SpecOk cfg 94 c_gin := by
  intro args bx K out h
  unfold c_gin at h
  split at h
  · exact ⟨_, _, h, .inl (gin_ok _ _), by simp [isTupS]⟩
  · cases h
/-! ### epactref05.In -/
noncomputable def rin_e : Ev' := ⟨Tryz.prog, glob, Γof []⟩
theorem rin_g : Gd cfg rin_e := gd (env_nil _)
noncomputable def rin_f : FnD := ⟨49, Tryz.f49, noSh, Tryz.f49.resultTypes.toList⟩
theorem rin_ent (h : Hd) (n : Int) : rin_f.ent rin_e [] h [vI n] [] = bif decide ((-1099511627776 : Int) ≤ n) then ret (vB (decide (n ≤ (1099511627776 : Int)))) else ret (vB false) := by kernel_rfl
theorem rin_run (n : Int) : ∃ fu, rin_f.run rin_e [] fu [vI n] [] = some ⟨vB (inR n), []⟩ := by
  refine ⟨0, ?_⟩
  rw [FnD.run, rin_ent]
  simp only [Bool.cond_eq_ite, Bool.not_eq_true', Bool.not_eq_false', Bool.and_eq_true, Bool.and_eq_false_iff, decide_eq_true_eq, decide_eq_false_iff_not, Bool.or_eq_true, Bool.or_eq_false_iff, Bool.not_true, Bool.not_false, Bool.false_eq_true, false_iff, true_iff, bne_iff_ne, beq_iff_eq, ne_eq, iff_true, iff_false, not_and, not_or]
  repeat' split
  all_goals first
    | rfl
    | (refine congrArg (fun x : Bool => (some ⟨vB x, []⟩ : Option Out)) ?_; rw [Bool.eq_iff_iff]; simp only [longY, inR, dateOk, tmod_z, Bool.not_eq_true', Bool.not_eq_false', Bool.and_eq_true, Bool.and_eq_false_iff, decide_eq_true_eq, decide_eq_false_iff_not, Bool.or_eq_true, Bool.or_eq_false_iff, Bool.not_true, Bool.not_false, Bool.false_eq_true, false_iff, true_iff, bne_iff_ne, beq_iff_eq, ne_eq, iff_true, iff_false, not_and, not_or] at *; omega)
theorem rin_ok (n : Int) : FnOk cfg 49 ([vI n].map SV.den) (vB (inR n) : SV).den := by
  obtain ⟨nn, h⟩ := rin_run n
  exact FnD.ok rin_g rin_f mixed Tryz.func49 rfl rfl rfl rfl rfl rfl h
noncomputable def c_rin : SpecF := fun args _ K => match args with
  | [.one (.c (.int .i64 n))] => K (vB (inR n)) []
  | _ => none
theorem c_rin_ok : SpecOk cfg 49 c_rin := by
  intro args bx K out h
  unfold c_rin at h
  split at h
  · exact ⟨_, _, h, .inl (rin_ok _ _), by simp [isTupS]⟩
  · cases h
/-! ### epactref05.First -/
noncomputable def first_e : Ev' := ⟨Tryz.prog, glob, Γof [(64, c_rfloor)]⟩
theorem first_g : Gd cfg first_e := gd (env_cons c_rfloor_ok (env_nil _))
noncomputable def first_f : FnD := ⟨65, Tryz.f65, noSh, Tryz.f65.resultTypes.toList⟩
theorem first_ent (h : Hd) (y : Int) : first_f.ent first_e [] h [vI y] [] = ret (vI (IntKind.i64.wrap (IntKind.i64.wrap (IntKind.i64.wrap (IntKind.i64.wrap (IntKind.i64.wrap ((365 : Int) * y) + rfW (IntKind.i64.wrap (y + (3 : Int))) (4 : Int)) - rfW (IntKind.i64.wrap (y + (99 : Int))) (100 : Int)) + rfW (IntKind.i64.wrap (y + (399 : Int))) (400 : Int)) - (678941 : Int)))) := by kernel_rfl
theorem first_run (y : Int) : ∃ fu, first_f.run first_e [] fu [vI y] [] = some ⟨vI (firstW y), []⟩ := by
  refine ⟨0, ?_⟩
  rw [FnD.run, first_ent]
  rfl
theorem first_ok (y : Int) : FnOk cfg 65 ([vI y].map SV.den) (vI (firstW y) : SV).den := by
  obtain ⟨nn, h⟩ := first_run y
  exact FnD.ok first_g first_f mixed Tryz.func65 rfl rfl rfl rfl rfl rfl h
noncomputable def c_first : SpecF := fun args _ K => match args with
  | [.one (.c (.int .i64 y))] => K (vI (firstW y)) []
  | _ => none
theorem c_first_ok : SpecOk cfg 65 c_first := by
  intro args bx K out h
  unfold c_first at h
  split at h
  · exact ⟨_, _, h, .inl (first_ok _ _), by simp [isTupS]⟩
  · cases h
/-! ### greg.Day -/
noncomputable def gday_e : Ev' := ⟨Tryz.prog, glob, Γof [(54, c_gvalid), (95, c_floor), (94, c_gin)]⟩
theorem gday_g : Gd cfg gday_e := gd (env_cons c_gvalid_ok (env_cons c_floor_ok (env_cons c_gin_ok (env_nil _))))
noncomputable def gday_f : FnD := ⟨56, Tryz.f56, noSh, Tryz.f56.resultTypes.toList⟩
theorem gday_ent (h : Hd) (y : Int) (m : Int) (d : Int) : gday_f.ent gday_e [] h [agg [.c (.int .i64 y), .c (.int .i64 m), .c (.int .i64 d)]] [] = let v1 : Int := IntKind.i64.wrap (IntKind.i64.wrap (y - (1 : Int)) - IntKind.i64.wrap (floorW (IntKind.i64.wrap (y - (1 : Int))) (400 : Int) * (400 : Int))); let v2 : Int := IntKind.i64.wrap (IntKind.i64.wrap (IntKind.i64.wrap (IntKind.i64.wrap (IntKind.i64.wrap (IntKind.i64.wrap (IntKind.i64.wrap (IntKind.i64.wrap (floorW (IntKind.i64.wrap (y - (1 : Int))) (400 : Int) * (146097 : Int)) + IntKind.i64.wrap (v1 * (365 : Int))) + IntKind.i64.wrap (v1.tdiv (4 : Int))) - IntKind.i64.wrap (v1.tdiv (100 : Int))) + IntKind.i64.wrap ((IntKind.i64.wrap (IntKind.i64.wrap ((153 : Int) * IntKind.i64.wrap (IntKind.i64.wrap (m - (3 : Int)) + (12 : Int))) + (2 : Int))).tdiv (5 : Int))) + d) - (1 : Int)) - (678881 : Int)); let v3 : Int := IntKind.i64.wrap (y - IntKind.i64.wrap (floorW y (400 : Int) * (400 : Int))); let v4 : Int := IntKind.i64.wrap (IntKind.i64.wrap (IntKind.i64.wrap (IntKind.i64.wrap (IntKind.i64.wrap (IntKind.i64.wrap (IntKind.i64.wrap (IntKind.i64.wrap (floorW y (400 : Int) * (146097 : Int)) + IntKind.i64.wrap (v3 * (365 : Int))) + IntKind.i64.wrap (v3.tdiv (4 : Int))) - IntKind.i64.wrap (v3.tdiv (100 : Int))) + IntKind.i64.wrap ((IntKind.i64.wrap (IntKind.i64.wrap ((153 : Int) * IntKind.i64.wrap (m - (3 : Int))) + (2 : Int))).tdiv (5 : Int))) + d) - (1 : Int)) - (678881 : Int)); bif !dateOk y m d then ret (SV.tup [tI (0 : Int), tI (5 : Int)]) else bif decide (y < (-4000000000 : Int)) then ret (SV.tup [tI (0 : Int), tI (2 : Int)]) else bif decide ((4000000000 : Int) < y) then ret (SV.tup [tI (0 : Int), tI (2 : Int)]) else bif decide (IntKind.i64.wrap (m - (3 : Int)) < (0 : Int)) then bif !inR v2 then ret (SV.tup [tI (0 : Int), tI (2 : Int)]) else ret (SV.tup [tI v2, tI (0 : Int)]) else bif !inR v4 then ret (SV.tup [tI (0 : Int), tI (2 : Int)]) else ret (SV.tup [tI v4, tI (0 : Int)]) := by kernel_rfl
theorem gday_run (y : Int) (m : Int) (d : Int) : ∃ fu, gday_f.run gday_e [] fu [agg [.c (.int .i64 y), .c (.int .i64 m), .c (.int .i64 d)]] [] = some ⟨.tup [tI (dayN y m d), tI (dayE y m d)], []⟩ := by
  refine ⟨0, ?_⟩
  rw [FnD.run, gday_ent]
  dsimp only
  simp only [Bool.cond_eq_ite, Bool.not_eq_true', Bool.not_eq_false', Bool.and_eq_true, Bool.and_eq_false_iff, decide_eq_true_eq, decide_eq_false_iff_not, Bool.or_eq_true, Bool.or_eq_false_iff, Bool.not_true, Bool.not_false, Bool.false_eq_true, false_iff, true_iff, bne_iff_ne, beq_iff_eq, ne_eq, iff_true, iff_false, not_and, not_or]
  repeat' split
  all_goals refine retII ?_ ?_
  all_goals (try simp only [Bool.not_eq_false] at *)
  all_goals first
    | (simp [dayE, dayN, *]; done)
    | (have hm := dateOk_m (y := y) (m := m) (d := d) (by assumption)
       have hw : IntKind.i64.wrap (m - 3) = m - 3 := i64_in' _ (by omega)
       simp (disch := omega) only [hw, i64_in', floorW_eq, tdiv_nn] at *
       by_cases h3 : m < 3
       · first | (exfalso; omega) | (simp [dayE, dayN, dayM, dayX, *]; done) | (simp [dayE, dayN, dayM, dayX, *]; omega)
       · first | (exfalso; omega) | (simp [dayE, dayN, dayM, dayX, *]; done) | (simp [dayE, dayN, dayM, dayX, *]; omega))
theorem gday_ok (y : Int) (m : Int) (d : Int) : FnOk cfg 56 ([agg [.c (.int .i64 y), .c (.int .i64 m), .c (.int .i64 d)]].map SV.den) (.tup [tI (dayN y m d), tI (dayE y m d)] : SV).den := by
  obtain ⟨nn, h⟩ := gday_run y m d
  exact FnD.ok gday_g gday_f mixed Tryz.func56 rfl rfl rfl rfl rfl rfl h
noncomputable def c_gday : SpecF := fun args _ K => match args with
  | [.one (.agg [.c (.int .i64 y), .c (.int .i64 m), .c (.int .i64 d)])] => K (.tup [tI (dayN y m d), tI (dayE y m d)]) []
  | _ => none
theorem c_gday_ok : SpecOk cfg 56 c_gday := by
  intro args bx K out h
  unfold c_gday at h
  split at h
  · exact ⟨_, _, h, .inl (gday_ok _ _ _ _), by simp [isTupS]⟩
  · cases h
/-! ### greg.Date -/
noncomputable def gdate_e : Ev' := ⟨Tryz.prog, glob, Γof [(94, c_gin), (95, c_floor)]⟩
theorem gdate_g : Gd cfg gdate_e := gd (env_cons c_gin_ok (env_cons c_floor_ok (env_nil _)))
noncomputable def gdate_f : FnD := ⟨44, Tryz.f44, noSh, Tryz.f44.resultTypes.toList⟩
theorem gdate_ent (h : Hd) (n : Int) : gdate_f.ent gdate_e [] h [vI n] [] = let v1 : Int := IntKind.i64.wrap (IntKind.i64.wrap (n + (678881 : Int)) - IntKind.i64.wrap (floorW (IntKind.i64.wrap (n + (678881 : Int))) (146097 : Int) * (146097 : Int))); let v2 : Int := IntKind.i64.wrap ((IntKind.i64.wrap (IntKind.i64.wrap (IntKind.i64.wrap (v1 - IntKind.i64.wrap (v1.tdiv (1460 : Int))) + IntKind.i64.wrap (v1.tdiv (36524 : Int))) - IntKind.i64.wrap (v1.tdiv (146096 : Int)))).tdiv (365 : Int)); let v3 : Int := IntKind.i64.wrap (v1 - IntKind.i64.wrap (IntKind.i64.wrap (IntKind.i64.wrap ((365 : Int) * v2) + IntKind.i64.wrap (v2.tdiv (4 : Int))) - IntKind.i64.wrap (v2.tdiv (100 : Int)))); let v4 : Int := IntKind.i64.wrap ((IntKind.i64.wrap (IntKind.i64.wrap ((5 : Int) * v3) + (2 : Int))).tdiv (153 : Int)); let v5 : Int := IntKind.i64.wrap (v4 + (3 : Int)); let v6 : Int := IntKind.i64.wrap (v2 + IntKind.i64.wrap (floorW (IntKind.i64.wrap (n + (678881 : Int))) (146097 : Int) * (400 : Int))); let v7 : Int := IntKind.i64.wrap (IntKind.i64.wrap (v3 - IntKind.i64.wrap ((IntKind.i64.wrap (IntKind.i64.wrap ((153 : Int) * v4) + (2 : Int))).tdiv (5 : Int))) + (1 : Int)); bif !inR n then ret (SV.tup [S1.agg [gI (0 : Int), gI (0 : Int), gI (0 : Int)], tI (2 : Int)]) else bif decide ((12 : Int) < v5) then ret (SV.tup [S1.agg [gI (IntKind.i64.wrap (v6 + (1 : Int))), gI (IntKind.i64.wrap (v5 - (12 : Int))), gI v7], tI (0 : Int)]) else ret (SV.tup [S1.agg [gI v6, gI v5, gI v7], tI (0 : Int)]) := by kernel_rfl
theorem gdate_run (n : Int) : ∃ fu, gdate_f.run gdate_e [] fu [vI n] [] = some ⟨.tup [.agg [gI (dtY n), gI (dtM n), gI (dtD n)], tI (dtE n)], []⟩ := by
  refine ⟨0, ?_⟩
  rw [FnD.run, gdate_ent]
  dsimp only
  cases hr : inR n with
  | false => simp [dtY, dtM, dtD, dtE, hr]
  | true =>
    have hn : -1099511627776 ≤ n ∧ n ≤ 1099511627776 := by simpa [inR] using hr
    have hE : -7600000 ≤ dEra n ∧ dEra n ≤ 7600000 := by unfold dEra; omega
    obtain ⟨ho1, ho2⟩ := of_facts n
    obtain ⟨hy1, hy2, hd1, hd2, _⟩ := yr_facts n
    obtain ⟨hm1, hm2, hm3, hg1, hg3, _⟩ := mo_facts n
    have hg2 : gD n ≤ 40 := by have h1 := date_in n; have h2 := lenM_in (gY n) (gM n); omega
    have hoE : n + 678881 - dEra n * 146097 = dOf n := rfl
    have hyE : (dOf n - dOf n / 1460 + dOf n / 36524 - dOf n / 146096) / 365 = dYr n := rfl
    have hdE : dOf n - (365 * dYr n + dYr n / 4 - dYr n / 100) = dDy n := rfl
    have hmE : (5 * dDy n + 2) / 153 = dMo n := rfl
    have hgE : dDy n - (153 * dMo n + 2) / 5 + 1 = gD n := rfl
    have e1 : IntKind.i64.wrap (n + 678881) = n + 678881 := i64_in' _ (by omega)
    have e2 : floorW (n + 678881) 146097 = dEra n := floorW_eq _ _ (by omega)
    have e3 : IntKind.i64.wrap (n + 678881 - IntKind.i64.wrap (dEra n * 146097)) = dOf n := by rw [i64_in' (dEra n * 146097) (by omega), hoE]; exact i64_in' _ (by omega)
    have t : ∀ (a b : Int), 0 ≤ a ∧ a ≤ 10000000 → 0 < b → IntKind.i64.wrap (a.tdiv b) = a / b := fun a b h hb => by
      rw [tdiv_nn _ _ h.1]
      have h1 : 0 ≤ a / b := Int.ediv_nonneg h.1 (by omega)
      have h2 : a / b ≤ a := Int.ediv_le_self _ h.1
      exact i64_in' _ (by omega)
    have e4 : IntKind.i64.wrap (IntKind.i64.wrap (IntKind.i64.wrap (dOf n - dOf n / 1460) + dOf n / 36524) - dOf n / 146096) = dOf n - dOf n / 1460 + dOf n / 36524 - dOf n / 146096 := by
      simp (disch := omega) only [i64_in']
    have e5 : IntKind.i64.wrap (IntKind.i64.wrap (IntKind.i64.wrap (365 * dYr n) + dYr n / 4) - dYr n / 100) = 365 * dYr n + dYr n / 4 - dYr n / 100 := by
      simp (disch := omega) only [i64_in']
    rw [e1, e2, e3, t (dOf n) 1460 (by omega) (by omega), t (dOf n) 36524 (by omega) (by omega), t (dOf n) 146096 (by omega) (by omega), e4, t (dOf n - dOf n / 1460 + dOf n / 36524 - dOf n / 146096) 365 (by omega) (by omega), hyE,
      t (dYr n) 4 (by omega) (by omega), t (dYr n) 100 (by omega) (by omega), e5, hdE, i64_in' (dDy n) (by omega), i64_in' (5 * dDy n) (by omega), i64_in' (5 * dDy n + 2) (by omega), t (5 * dDy n + 2) 153 (by omega) (by omega), hmE,
      i64_in' (dMo n + 3) (by omega), i64_in' (dEra n * 400) (by omega), i64_in' (dYr n + dEra n * 400) (by omega), i64_in' (153 * dMo n) (by omega), i64_in' (153 * dMo n + 2) (by omega), t (153 * dMo n + 2) 5 (by omega) (by omega),
      i64_in' (dDy n - (153 * dMo n + 2) / 5) (by omega), hgE, i64_in' (gD n) (by omega), i64_in' (dYr n + dEra n * 400 + 1) (by omega), i64_in' (dMo n + 3 - 12) (by omega)]
    by_cases h : 12 < dMo n + 3 <;> simp [dtY, dtM, dtD, dtE, gY, gM, h, hr]
theorem gdate_ok (n : Int) : FnOk cfg 44 ([vI n].map SV.den) (.tup [.agg [gI (dtY n), gI (dtM n), gI (dtD n)], tI (dtE n)] : SV).den := by
  obtain ⟨nn, h⟩ := gdate_run n
  exact FnD.ok gdate_g gdate_f mixed Tryz.func44 rfl rfl rfl rfl rfl rfl h
noncomputable def c_gdate : SpecF := fun args _ K => match args with
  | [.one (.c (.int .i64 n))] => K (.tup [.agg [gI (dtY n), gI (dtM n), gI (dtD n)], tI (dtE n)]) []
  | _ => none
theorem c_gdate_ok : SpecOk cfg 44 c_gdate := by
  intro args bx K out h
  unfold c_gdate at h
  split at h
  · exact ⟨_, _, h, .inl (gdate_ok _ _), by simp [isTupS]⟩
  · cases h
/-! ### epactref05.Date -/
noncomputable def rdate_e : Ev' := ⟨Tryz.prog, glob, Γof [(64, c_rfloor), (65, c_first), (66, c_rlen)]⟩
theorem rdate_g : Gd cfg rdate_e := gd (env_cons c_rfloor_ok (env_cons c_first_ok (env_cons c_rlen_ok (env_nil _))))
noncomputable def rdate_f : FnD := ⟨22, Tryz.f22, shOf [(0, ⟨38, [], [(2, [.c (.int .i64), .c (.int .i64), .c (.int .i64)])], [(0, .c (.int .i64)), (2, .c (.ptr 2 0)), (3, .c (.int .i64))]⟩), (1, ⟨38, [], [(2, [.c (.int .i64), .c (.int .i64), .c (.int .i64)])], [(0, .c (.int .i64)), (2, .c (.ptr 2 0)), (3, .c (.int .i64)), (4, .c (.int .i64))]⟩)], Tryz.f22.resultTypes.toList⟩
theorem rdate_ent (h : Hd) (n : Int) : rdate_f.ent rdate_e [] h [vI n] [] = h (0 : Nat) [Lf.i (0 : Int), Lf.i (0 : Int), Lf.i (0 : Int), Lf.i n, Lf.i (IntKind.i64.wrap (rfW (IntKind.i64.wrap (IntKind.i64.wrap (n + (678941 : Int)) * (400 : Int))) (146097 : Int) - (1 : Int)))] := by kernel_rfl
theorem rdate_l0 (h : Hd) (a : Int) (b : Int) (c : Int) (n : Int) (y : Int) : rdate_f.seg rdate_e [] h 0 [.i a, .i b, .i c, .i n, .i y] = bif decide (firstW (IntKind.i64.wrap (y + (1 : Int))) ≤ n) then h (0 : Nat) [Lf.i a, Lf.i b, Lf.i c, Lf.i n, Lf.i (IntKind.i64.wrap (y + (1 : Int)))] else h (1 : Nat) [Lf.i a, Lf.i b, Lf.i c, Lf.i (IntKind.i64.wrap (n - firstW y)), Lf.i y, Lf.i (1 : Int)] := by kernel_rfl
theorem rdate_l1 (h : Hd) (a : Int) (b : Int) (c : Int) (r : Int) (y : Int) (m : Int) : rdate_f.seg rdate_e [] h 1 [.i a, .i b, .i c, .i r, .i y, .i m] = bif decide (lenM y m ≤ r) then h (1 : Nat) [Lf.i a, Lf.i b, Lf.i c, Lf.i (IntKind.i64.wrap (r - lenM y m)), Lf.i y, Lf.i (IntKind.i64.wrap (m + (1 : Int)))] else ret (agg [gI y, gI m, gI (IntKind.i64.wrap (r + (1 : Int)))]) := by kernel_rfl

theorem rdate_m {n : Int} (hp : inR n = true) (a b c : Int) : ∀ (k : Nat) (m : Int), 1 ≤ m ∧ m ≤ gM n → (gM n - m).toNat < k →
    rdate_f.H rdate_e [] k 1 [.i a, .i b, .i c, .i (gD n - 1 + sumL (gY n) (gM n) - sumL (gY n) m), .i (gY n), .i m] = some ⟨agg [gI (gY n), gI (gM n), gI (gD n)], []⟩ := by
  intro k
  induction k with
  | zero => intro m _ h; omega
  | succ k ih =>
    intro m hm hk
    rw [FnD.H_succ, rdate_l1]
    try dsimp only
    have hlm := loop_m (n := n) hm
    have hs2 := sumL_in (gY n) m
    have hs3 := sumL_in (gY n) (gM n)
    have hl2 := lenM_in (gY n) m
    have hi := date_in n
    by_cases h : m < gM n
    · rw [decide_eq_true (hlm.2 h), cond_true, i64_in' (m + 1) (by omega)]
      have := ih (m + 1) (by omega) (by omega)
      have e := sumL_next (gY n) m (by omega)
      rw [e] at this
      rw [i64_in' _ (by have := lenM_in (gY n) (gM n); omega), show gD n - 1 + sumL (gY n) (gM n) - sumL (gY n) m - lenM (gY n) m = gD n - 1 + sumL (gY n) (gM n) - (sumL (gY n) m + lenM (gY n) m) by omega]
      exact this
    · obtain rfl : m = gM n := by omega
      rw [decide_eq_false (fun h' => h (hlm.1 h')), cond_false, show gD n - 1 + sumL (gY n) (gM n) - sumL (gY n) (gM n) + 1 = gD n by omega, i64_in' (gD n) (by have := lenM_in (gY n) (gM n); omega)]
theorem rdate_y {n : Int} (hp : inR n = true) (a b c : Int) : ∀ (k : Nat) (y : Int), -10000000000 ≤ y ∧ y ≤ gY n → (gY n - y).toNat + 13 < k →
    rdate_f.H rdate_e [] k 0 [.i a, .i b, .i c, .i n, .i y] = some ⟨agg [gI (gY n), gI (gM n), gI (gD n)], []⟩ := by
  intro k
  induction k with
  | zero => intro m _ h; omega
  | succ k ih =>
    intro y hy hk
    rw [FnD.H_succ, rdate_l0]
    try dsimp only
    obtain ⟨h1, h2⟩ := loop_y hp hy
    have hn : -1099511627776 ≤ n ∧ n ≤ 1099511627776 := by simpa [inR] using hp
    have hgY := gY_in hp
    have hi := date_in n
    by_cases h : y < gY n
    · rw [decide_eq_true (h1.2 h), cond_true, h2]
      exact ih (y + 1) (by omega) (by omega)
    · obtain rfl : y = gY n := by omega
      rw [decide_eq_false (fun h' => h (h1.1 h')), cond_false]
      have hf := firstY_in (y := gY n) (by omega)
      rw [firstW_eq _ (by omega), i64_in' (n - firstY (gY n)) (by omega)]
      have := rdate_m hp a b c k 1 (by omega) (by omega)
      rw [sumL_one, show gD n - 1 + sumL (gY n) (gM n) - 0 = n - firstY (gY n) by omega] at this
      exact this
theorem rdate_run (n : Int) (hp : inR n = true) : ∃ fu, rdate_f.run rdate_e [] fu [vI n] [] = some ⟨agg [gI (gY n), gI (gM n), gI (gD n)], []⟩ := by
  have hn : -1099511627776 ≤ n ∧ n ≤ 1099511627776 := by simpa [inR] using hp
  have hi := date_in n
  have h0 : IntKind.i64.wrap (rfW (IntKind.i64.wrap (IntKind.i64.wrap (n + 678941) * 400)) 146097 - 1) = (n + 678941) * 400 / 146097 - 1 := by
    simp (disch := omega) only [i64_in', rfW_eq]
  have hy0 : -10000000000 ≤ (n + 678941) * 400 / 146097 - 1 ∧ (n + 678941) * 400 / 146097 - 1 ≤ gY n := by have := hi.2.2.2.2.2.2; unfold firstY at this; omega
  refine ⟨(gY n - ((n + 678941) * 400 / 146097 - 1)).toNat + 14, ?_⟩
  rw [FnD.run, rdate_ent, h0]
  exact rdate_y hp 0 0 0 _ _ hy0 (by omega)
theorem rdate_ok (n : Int) (hp : inR n = true) : FnOk cfg 22 ([vI n].map SV.den) (agg [gI (gY n), gI (gM n), gI (gD n)] : SV).den := by
  obtain ⟨nn, h⟩ := rdate_run n hp
  exact FnD.ok rdate_g rdate_f mixed Tryz.func22 rfl rfl rfl rfl rfl rfl h
noncomputable def c_rdate : SpecF := fun args _ K => match args with
  | [.one (.c (.int .i64 n))] => bif decide (inR n = true) then K (agg [gI (gY n), gI (gM n), gI (gD n)]) [] else none
  | _ => none
theorem c_rdate_ok : SpecOk cfg 22 c_rdate := by
  intro args bx K out h
  unfold c_rdate at h
  split at h
  · obtain ⟨hp, h⟩ := bif_some h
    exact ⟨_, _, h, .inl (rdate_ok _ (of_decide_eq_true hp) _), by simp [isTupS]⟩
  · cases h
/-! ### epactref05.Valid -/
noncomputable def rvalid_e : Ev' := ⟨Tryz.prog, glob, Γof [(66, c_rlen)]⟩
theorem rvalid_g : Gd cfg rvalid_e := gd (env_cons c_rlen_ok (env_nil _))
noncomputable def rvalid_f : FnD := ⟨61, Tryz.f61, noSh, Tryz.f61.resultTypes.toList⟩
theorem rvalid_ent (h : Hd) (y : Int) (m : Int) (d : Int) : rvalid_f.ent rvalid_e [] h [agg [.c (.int .i64 y), .c (.int .i64 m), .c (.int .i64 d)]] [] = bif decide ((1 : Int) ≤ d) then ret (vB (decide (d ≤ lenM y m))) else ret (vB false) := by kernel_rfl
theorem rvalid_run (y : Int) (m : Int) (d : Int) : ∃ fu, rvalid_f.run rvalid_e [] fu [agg [.c (.int .i64 y), .c (.int .i64 m), .c (.int .i64 d)]] [] = some ⟨vB (dateOk y m d), []⟩ := by
  refine ⟨0, ?_⟩
  rw [FnD.run, rvalid_ent]
  simp only [Bool.cond_eq_ite, Bool.not_eq_true', Bool.not_eq_false', Bool.and_eq_true, Bool.and_eq_false_iff, decide_eq_true_eq, decide_eq_false_iff_not, Bool.or_eq_true, Bool.or_eq_false_iff, Bool.not_true, Bool.not_false, Bool.false_eq_true, false_iff, true_iff, bne_iff_ne, beq_iff_eq, ne_eq, iff_true, iff_false, not_and, not_or]
  repeat' split
  all_goals first
    | rfl
    | (refine congrArg (fun x : Bool => (some ⟨vB x, []⟩ : Option Out)) ?_; rw [Bool.eq_iff_iff]; simp only [longY, inR, dateOk, tmod_z, Bool.not_eq_true', Bool.not_eq_false', Bool.and_eq_true, Bool.and_eq_false_iff, decide_eq_true_eq, decide_eq_false_iff_not, Bool.or_eq_true, Bool.or_eq_false_iff, Bool.not_true, Bool.not_false, Bool.false_eq_true, false_iff, true_iff, bne_iff_ne, beq_iff_eq, ne_eq, iff_true, iff_false, not_and, not_or] at *; omega)
theorem rvalid_ok (y : Int) (m : Int) (d : Int) : FnOk cfg 61 ([agg [.c (.int .i64 y), .c (.int .i64 m), .c (.int .i64 d)]].map SV.den) (vB (dateOk y m d) : SV).den := by
  obtain ⟨nn, h⟩ := rvalid_run y m d
  exact FnD.ok rvalid_g rvalid_f mixed Tryz.func61 rfl rfl rfl rfl rfl rfl h
noncomputable def c_rvalid : SpecF := fun args _ K => match args with
  | [.one (.agg [.c (.int .i64 y), .c (.int .i64 m), .c (.int .i64 d)])] => K (vB (dateOk y m d)) []
  | _ => none
theorem c_rvalid_ok : SpecOk cfg 61 c_rvalid := by
  intro args bx K out h
  unfold c_rvalid at h
  split at h
  · exact ⟨_, _, h, .inl (rvalid_ok _ _ _ _), by simp [isTupS]⟩
  · cases h
/-! ### epactref05.Day -/
noncomputable def rday_e : Ev' := ⟨Tryz.prog, glob, Γof [(61, c_rvalid), (65, c_first), (66, c_rlen), (49, c_rin)]⟩
theorem rday_g : Gd cfg rday_e := gd (env_cons c_rvalid_ok (env_cons c_first_ok (env_cons c_rlen_ok (env_cons c_rin_ok (env_nil _)))))
noncomputable def rday_f : FnD := ⟨63, Tryz.f63, shOf [(0, ⟨40, [], [(1, [.c (.int .i64), .c (.int .i64), .c (.int .i64)])], [(1, .c (.ptr 1 0)), (4, .c (.int .i64)), (5, .c (.int .i64))]⟩)], Tryz.f63.resultTypes.toList⟩
theorem rday_ent (h : Hd) (y : Int) (m : Int) (d : Int) : rday_f.ent rday_e [] h [agg [.c (.int .i64 y), .c (.int .i64 m), .c (.int .i64 d)]] [] = bif !dateOk y m d then ret (SV.tup [tI (0 : Int), tI (5 : Int)]) else bif decide (y < (-8589934592 : Int)) then ret (SV.tup [tI (0 : Int), tI (2 : Int)]) else bif decide ((8589934592 : Int) < y) then ret (SV.tup [tI (0 : Int), tI (2 : Int)]) else h (0 : Nat) [Lf.i y, Lf.i m, Lf.i d, Lf.i (IntKind.i64.wrap (IntKind.i64.wrap (firstW y + d) - (1 : Int))), Lf.i (1 : Int)] := by kernel_rfl
theorem rday_l0 (h : Hd) (y : Int) (m : Int) (d : Int) (n : Int) (k : Int) : rday_f.seg rday_e [] h 0 [.i y, .i m, .i d, .i n, .i k] = bif decide (k < m) then h (0 : Nat) [Lf.i y, Lf.i m, Lf.i d, Lf.i (IntKind.i64.wrap (n + lenM y k)), Lf.i (IntKind.i64.wrap (k + (1 : Int)))] else bif !inR n then ret (SV.tup [tI (0 : Int), tI (2 : Int)]) else ret (SV.tup [tI n, tI (0 : Int)]) := by kernel_rfl

theorem rday_loop {y m d : Int} (ok : dateOk y m d = true) (hy : ¬ (y < -8589934592 ∨ 8589934592 < y)) : ∀ (k : Nat) (i : Int), 1 ≤ i ∧ i ≤ m → (m - i).toNat < k →
    rday_f.H rday_e [] k 0 [.i y, .i m, .i d, .i (firstY y + d - 1 + sumL y i), .i i] = some ⟨.tup [tI (dayN y m d), tI (dayE y m d)], []⟩ := by
  have hm := dateOk_m ok
  have hf := firstY_in (y := y) (by omega)
  intro k
  induction k with
  | zero => intro i _ h; omega
  | succ k ih =>
    intro i hi hk
    rw [FnD.H_succ, rday_l0]
    have hs := sumL_in y i
    have hl := lenM_in y i
    by_cases h : i < m
    · refine condT h ?_
      rw [i64_in' (i + 1) (by omega), i64_in' _ (by omega), show firstY y + d - 1 + sumL y i + lenM y i = firstY y + d - 1 + (sumL y i + lenM y i) by omega, ← sumL_next y i (by omega)]
      exact ih (i + 1) (by omega) (by omega)
    · obtain rfl : i = m := by omega
      refine condF h ?_
      rw [dayE_s, dayN_s]
      have e : firstY y + d - 1 + sumL y i = rdayM y i d := rfl
      rw [e]
      cases hr : inR (rdayM y i d) with
      | false =>
        have hE : rdayE y i d = 2 := by unfold rdayE; rw [if_neg (by rw [ok]; decide), if_neg hy, if_pos hr]
        have hN : rdayN y i d = 0 := by unfold rdayN; rw [hE]; rfl
        rw [hE, hN]; rfl
      | true =>
        have hE : rdayE y i d = 0 := by unfold rdayE; rw [if_neg (by rw [ok]; decide), if_neg hy, if_neg (by rw [hr]; decide)]
        have hN : rdayN y i d = rdayM y i d := by unfold rdayN; rw [hE]; rfl
        rw [hE, hN]; rfl
theorem rday_run (y : Int) (m : Int) (d : Int) : ∃ fu, rday_f.run rday_e [] fu [agg [.c (.int .i64 y), .c (.int .i64 m), .c (.int .i64 d)]] [] = some ⟨.tup [tI (dayN y m d), tI (dayE y m d)], []⟩ := by
  cases ok : dateOk y m d with
  | false =>
    refine ⟨0, ?_⟩
    rw [FnD.run, rday_ent, dayE_s, dayN_s]
    have hE : rdayE y m d = 5 := by unfold rdayE; rw [if_pos ok]
    have hN : rdayN y m d = 0 := by unfold rdayN; rw [hE]; rfl
    rw [hE, hN, ok]; rfl
  | true =>
    have hm := dateOk_m ok
    by_cases hy : y < -8589934592 ∨ 8589934592 < y
    · refine ⟨0, ?_⟩
      rw [FnD.run, rday_ent, dayE_s, dayN_s]
      have hE : rdayE y m d = 2 := by unfold rdayE; rw [if_neg (by rw [ok]; decide), if_pos hy]
      have hN : rdayN y m d = 0 := by unfold rdayN; rw [hE]; rfl
      rw [hE, hN, ok]
      refine condN rfl ?_
      by_cases h1 : y < -8589934592
      · rw [decide_eq_true h1]; rfl
      · rw [decide_eq_false h1, decide_eq_true (show 8589934592 < y by omega)]; rfl
    · have hf := firstY_in (y := y) (by omega)
      refine ⟨m.toNat + 1, ?_⟩
      rw [FnD.run, rday_ent, ok]
      refine condN rfl ?_
      rw [decide_eq_false (show ¬ y < -8589934592 by omega), decide_eq_false (show ¬ 8589934592 < y by omega), firstW_eq y (by omega), i64_in' (firstY y + d) (by omega), i64_in' (firstY y + d - 1) (by omega)]
      have := rday_loop ok hy (m.toNat + 1) 1 (by omega) (by omega)
      rw [sumL_one, Int.add_zero] at this
      exact this
theorem rday_ok (y : Int) (m : Int) (d : Int) : FnOk cfg 63 ([agg [.c (.int .i64 y), .c (.int .i64 m), .c (.int .i64 d)]].map SV.den) (.tup [tI (dayN y m d), tI (dayE y m d)] : SV).den := by
  obtain ⟨nn, h⟩ := rday_run y m d
  exact FnD.ok rday_g rday_f mixed Tryz.func63 rfl rfl rfl rfl rfl rfl h
noncomputable def c_rday : SpecF := fun args _ K => match args with
  | [.one (.agg [.c (.int .i64 y), .c (.int .i64 m), .c (.int .i64 d)])] => K (.tup [tI (dayN y m d), tI (dayE y m d)]) []
  | _ => none
theorem c_rday_ok : SpecOk cfg 63 c_rday := by
  intro args bx K out h
  unfold c_rday at h
  split at h
  · exact ⟨_, _, h, .inl (rday_ok _ _ _ _), by simp [isTupS]⟩
  · cases h
end Go.Proofs.YtldofkogmkfpjaaGreatDoor
