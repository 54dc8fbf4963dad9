/-
  The contracts of layer 29's statements: same, answers.
-/
import Derived.Test.YtldofkogmkfpjaaGreatDoorWZzSyScript3
namespace Go.Proofs.YtldofkogmkfpjaaGreatDoor
open Go Go.Ev Go.Sy
set_option linter.unusedSimpArgs false
set_option linter.unusedVariables false
set_option maxRecDepth 10000
set_option maxHeartbeats 4000000
/-! ### epactref28.SameRequest -/
noncomputable def rsreq_e : Ev' := ⟨Tryz.prog, glob, Γof [(86, c_rline)]⟩
theorem rsreq_g : Gd cfg rsreq_e := gd (env_cons c_rline_ok (env_nil _))
noncomputable def rsreq_f : FnD := ⟨87, Tryz.f87, noSh, Tryz.f87.resultTypes.toList, 0⟩
theorem rsreq_ent (h : Hd) (a0 : Int) (a1 : Int) (a2 : Int) (x0 : Int) (y0 : Int) (a8 : Int) (a9 : Int) (aa : Int) (a3 : Int) (lx : Bool) (a5 : Int) (a6 : Int) (a7 : Int) (dd : List Int) (x1 : Int) (y1 : Int) (x2 : Int) (y2 : Int) (ab : Int) (ac : Int) (ad : Int) (a0' : Int) (a1' : Int) (a2' : Int) (x0' : Int) (y0' : Int) (a8' : Int) (a9' : Int) (aa' : Int) (a3' : Int) (lx' : Bool) (a5' : Int) (a6' : Int) (a7' : Int) (dd' : List Int) (x1' : Int) (y1' : Int) (x2' : Int) (y2' : Int) (ab' : Int) (ac' : Int) (ad' : Int) : rsreq_f.ent rsreq_e [] h [agg [.c (.int .i64 a0), .c (.int .i64 a1), .c (.int .i64 a2), .c (.int .i64 x0), .c (.int .u64 y0), .c (.int .i64 a8), .c (.int .i64 a9), .c (.int .i64 aa), .c (.int .i64 a3), .c (.bool lx), .c (.int .i64 a5), .c (.int .i64 a6), .c (.int .i64 a7), .c (.ints .u8 dd), .c (.int .i64 x1), .c (.int .u64 y1), .c (.int .i64 x2), .c (.int .u64 y2), .c (.int .i64 ab), .c (.int .i64 ac), .c (.int .i64 ad)], agg [.c (.int .i64 a0'), .c (.int .i64 a1'), .c (.int .i64 a2'), .c (.int .i64 x0'), .c (.int .u64 y0'), .c (.int .i64 a8'), .c (.int .i64 a9'), .c (.int .i64 aa'), .c (.int .i64 a3'), .c (.bool lx'), .c (.int .i64 a5'), .c (.int .i64 a6'), .c (.int .i64 a7'), .c (.ints .u8 dd'), .c (.int .i64 x1'), .c (.int .u64 y1'), .c (.int .i64 x2'), .c (.int .u64 y2'), .c (.int .i64 ab'), .c (.int .i64 ac'), .c (.int .i64 ad')]] [] = bif decide (qOk [a0, a1, a2, a3, if lx = true then (1 : Int) else (0 : Int), a5, a6, a7, a8, a9, aa, ab, ac, ad] [x0, y0, x1, y1, x2, y2] dd) then bif decide (qOk [a0', a1', a2', a3', if lx' = true then (1 : Int) else (0 : Int), a5', a6', a7', a8', a9', aa', ab', ac', ad'] [x0', y0', x1', y1', x2', y2'] dd') then ret (vB (eqB (tx (lnQ [a0, a1, a2, a3, if lx = true then (1 : Int) else (0 : Int), a5, a6, a7, a8, a9, aa, ab, ac, ad] [x0, y0, x1, y1, x2, y2] dd)) (tx (lnQ [a0', a1', a2', a3', if lx' = true then (1 : Int) else (0 : Int), a5', a6', a7', a8', a9', aa', ab', ac', ad'] [x0', y0', x1', y1', x2', y2'] dd')))) else none else none := by kernel_rfl
theorem rsreq_run (a0 : Int) (a1 : Int) (a2 : Int) (x0 : Int) (y0 : Int) (a8 : Int) (a9 : Int) (aa : Int) (a3 : Int) (lx : Bool) (a5 : Int) (a6 : Int) (a7 : Int) (dd : List Int) (x1 : Int) (y1 : Int) (x2 : Int) (y2 : Int) (ab : Int) (ac : Int) (ad : Int) (a0' : Int) (a1' : Int) (a2' : Int) (x0' : Int) (y0' : Int) (a8' : Int) (a9' : Int) (aa' : Int) (a3' : Int) (lx' : Bool) (a5' : Int) (a6' : Int) (a7' : Int) (dd' : List Int) (x1' : Int) (y1' : Int) (x2' : Int) (y2' : Int) (ab' : Int) (ac' : Int) (ad' : Int) (hp : qOk [a0, a1, a2, a3, if lx then 1 else 0, a5, a6, a7, a8, a9, aa, ab, ac, ad] [x0, y0, x1, y1, x2, y2] dd ∧ qOk [a0', a1', a2', a3', if lx' then 1 else 0, a5', a6', a7', a8', a9', aa', ab', ac', ad'] [x0', y0', x1', y1', x2', y2'] dd') : ∃ fu, rsreq_f.run rsreq_e [] fu [agg [.c (.int .i64 a0), .c (.int .i64 a1), .c (.int .i64 a2), .c (.int .i64 x0), .c (.int .u64 y0), .c (.int .i64 a8), .c (.int .i64 a9), .c (.int .i64 aa), .c (.int .i64 a3), .c (.bool lx), .c (.int .i64 a5), .c (.int .i64 a6), .c (.int .i64 a7), .c (.ints .u8 dd), .c (.int .i64 x1), .c (.int .u64 y1), .c (.int .i64 x2), .c (.int .u64 y2), .c (.int .i64 ab), .c (.int .i64 ac), .c (.int .i64 ad)], agg [.c (.int .i64 a0'), .c (.int .i64 a1'), .c (.int .i64 a2'), .c (.int .i64 x0'), .c (.int .u64 y0'), .c (.int .i64 a8'), .c (.int .i64 a9'), .c (.int .i64 aa'), .c (.int .i64 a3'), .c (.bool lx'), .c (.int .i64 a5'), .c (.int .i64 a6'), .c (.int .i64 a7'), .c (.ints .u8 dd'), .c (.int .i64 x1'), .c (.int .u64 y1'), .c (.int .i64 x2'), .c (.int .u64 y2'), .c (.int .i64 ab'), .c (.int .i64 ac'), .c (.int .i64 ad')]] [] = some ⟨vB (decide (lnQ [a0, a1, a2, a3, if lx then 1 else 0, a5, a6, a7, a8, a9, aa, ab, ac, ad] [x0, y0, x1, y1, x2, y2] dd = lnQ [a0', a1', a2', a3', if lx' then 1 else 0, a5', a6', a7', a8', a9', aa', ab', ac', ad'] [x0', y0', x1', y1', x2', y2'] dd')), []⟩ := by
  refine ⟨0, ?_⟩
  rw [FnD.run, rsreq_ent]
  refine condT hp.1 (condT hp.2 ?_)
  rw [eqB_tx]
theorem rsreq_ok (a0 : Int) (a1 : Int) (a2 : Int) (x0 : Int) (y0 : Int) (a8 : Int) (a9 : Int) (aa : Int) (a3 : Int) (lx : Bool) (a5 : Int) (a6 : Int) (a7 : Int) (dd : List Int) (x1 : Int) (y1 : Int) (x2 : Int) (y2 : Int) (ab : Int) (ac : Int) (ad : Int) (a0' : Int) (a1' : Int) (a2' : Int) (x0' : Int) (y0' : Int) (a8' : Int) (a9' : Int) (aa' : Int) (a3' : Int) (lx' : Bool) (a5' : Int) (a6' : Int) (a7' : Int) (dd' : List Int) (x1' : Int) (y1' : Int) (x2' : Int) (y2' : Int) (ab' : Int) (ac' : Int) (ad' : Int) (hp : qOk [a0, a1, a2, a3, if lx then 1 else 0, a5, a6, a7, a8, a9, aa, ab, ac, ad] [x0, y0, x1, y1, x2, y2] dd ∧ qOk [a0', a1', a2', a3', if lx' then 1 else 0, a5', a6', a7', a8', a9', aa', ab', ac', ad'] [x0', y0', x1', y1', x2', y2'] dd') : FnOk cfg 87 ([agg [.c (.int .i64 a0), .c (.int .i64 a1), .c (.int .i64 a2), .c (.int .i64 x0), .c (.int .u64 y0), .c (.int .i64 a8), .c (.int .i64 a9), .c (.int .i64 aa), .c (.int .i64 a3), .c (.bool lx), .c (.int .i64 a5), .c (.int .i64 a6), .c (.int .i64 a7), .c (.ints .u8 dd), .c (.int .i64 x1), .c (.int .u64 y1), .c (.int .i64 x2), .c (.int .u64 y2), .c (.int .i64 ab), .c (.int .i64 ac), .c (.int .i64 ad)], agg [.c (.int .i64 a0'), .c (.int .i64 a1'), .c (.int .i64 a2'), .c (.int .i64 x0'), .c (.int .u64 y0'), .c (.int .i64 a8'), .c (.int .i64 a9'), .c (.int .i64 aa'), .c (.int .i64 a3'), .c (.bool lx'), .c (.int .i64 a5'), .c (.int .i64 a6'), .c (.int .i64 a7'), .c (.ints .u8 dd'), .c (.int .i64 x1'), .c (.int .u64 y1'), .c (.int .i64 x2'), .c (.int .u64 y2'), .c (.int .i64 ab'), .c (.int .i64 ac'), .c (.int .i64 ad')]].map SV.den) (vB (decide (lnQ [a0, a1, a2, a3, if lx then 1 else 0, a5, a6, a7, a8, a9, aa, ab, ac, ad] [x0, y0, x1, y1, x2, y2] dd = lnQ [a0', a1', a2', a3', if lx' then 1 else 0, a5', a6', a7', a8', a9', aa', ab', ac', ad'] [x0', y0', x1', y1', x2', y2'] dd')) : SV).den := by
  obtain ⟨nn, h⟩ := rsreq_run a0 a1 a2 x0 y0 a8 a9 aa a3 lx a5 a6 a7 dd x1 y1 x2 y2 ab ac ad a0' a1' a2' x0' y0' a8' a9' aa' a3' lx' a5' a6' a7' dd' x1' y1' x2' y2' ab' ac' ad' hp
  exact FnD.ok rsreq_g rsreq_f mixed Tryz.func87 rfl rfl rfl rfl rfl rfl h
noncomputable def c_rsreq : SpecF := fun args _ K => match args with
  | [.one (.agg [.c (.int .i64 a0), .c (.int .i64 a1), .c (.int .i64 a2), .c (.int .i64 x0), .c (.int .u64 y0), .c (.int .i64 a8), .c (.int .i64 a9), .c (.int .i64 aa), .c (.int .i64 a3), .c (.bool lx), .c (.int .i64 a5), .c (.int .i64 a6), .c (.int .i64 a7), .c (.ints .u8 dd), .c (.int .i64 x1), .c (.int .u64 y1), .c (.int .i64 x2), .c (.int .u64 y2), .c (.int .i64 ab), .c (.int .i64 ac), .c (.int .i64 ad)]), .one (.agg [.c (.int .i64 a0'), .c (.int .i64 a1'), .c (.int .i64 a2'), .c (.int .i64 x0'), .c (.int .u64 y0'), .c (.int .i64 a8'), .c (.int .i64 a9'), .c (.int .i64 aa'), .c (.int .i64 a3'), .c (.bool lx'), .c (.int .i64 a5'), .c (.int .i64 a6'), .c (.int .i64 a7'), .c (.ints .u8 dd'), .c (.int .i64 x1'), .c (.int .u64 y1'), .c (.int .i64 x2'), .c (.int .u64 y2'), .c (.int .i64 ab'), .c (.int .i64 ac'), .c (.int .i64 ad')])] => bif decide (qOk [a0, a1, a2, a3, if lx then 1 else 0, a5, a6, a7, a8, a9, aa, ab, ac, ad] [x0, y0, x1, y1, x2, y2] dd ∧ qOk [a0', a1', a2', a3', if lx' then 1 else 0, a5', a6', a7', a8', a9', aa', ab', ac', ad'] [x0', y0', x1', y1', x2', y2'] dd') then K (vB (decide (lnQ [a0, a1, a2, a3, if lx then 1 else 0, a5, a6, a7, a8, a9, aa, ab, ac, ad] [x0, y0, x1, y1, x2, y2] dd = lnQ [a0', a1', a2', a3', if lx' then 1 else 0, a5', a6', a7', a8', a9', aa', ab', ac', ad'] [x0', y0', x1', y1', x2', y2'] dd'))) [] else none
  | _ => none
theorem c_rsreq_ok : SpecOk cfg 87 c_rsreq := by
  intro args bx K out h
  unfold c_rsreq at h
  split at h
  · obtain ⟨hp, h⟩ := bif_some h
    exact ⟨_, _, h, .inl (rsreq_ok _ _ _ _ _ _ _ _ _ _ _ _ _ _ _ _ _ _ _ _ _ _ _ _ _ _ _ _ _ _ _ _ _ _ _ _ _ _ _ _ _ _ (of_decide_eq_true hp) _), by simp [isTupS]⟩
  · cases h
/-! ### epactlaw29.same -/
noncomputable def ssame_e : Ev' := ⟨Tryz.prog, glob, Γof [(87, c_rsreq)]⟩
theorem ssame_g : Gd cfg ssame_e := gd (env_cons c_rsreq_ok (env_nil _))
noncomputable def ssame_f : FnD := ⟨38, Tryz.f38, shOf [(0, ⟨27, [], [], [(0, .c (.rows [.int .i64, .int .i64, .int .i64, .int .i64, .int .u64, .int .i64, .int .i64, .int .i64, .int .i64, .bool, .int .i64, .int .i64, .int .i64, .ints .u8, .int .i64, .int .u64, .int .i64, .int .u64, .int .i64, .int .i64, .int .i64])), (1, .c (.rows [.int .i64, .int .i64, .int .i64, .int .i64, .int .u64, .int .i64, .int .i64, .int .i64, .int .i64, .bool, .int .i64, .int .i64, .int .i64, .ints .u8, .int .i64, .int .u64, .int .i64, .int .u64, .int .i64, .int .i64, .int .i64])), (5, .c (.int .i64))]⟩)], Tryz.f38.resultTypes.toList, 0⟩
theorem ssame_ent (h : Hd) (L : List (List D)) (Q : List (List D)) : ssame_f.ent ssame_e [] h [c1 (.rows [.int .i64, .int .i64, .int .i64, .int .i64, .int .u64, .int .i64, .int .i64, .int .i64, .int .i64, .bool, .int .i64, .int .i64, .int .i64, .ints .u8, .int .i64, .int .u64, .int .i64, .int .u64, .int .i64, .int .i64, .int .i64] L), c1 (.rows [.int .i64, .int .i64, .int .i64, .int .i64, .int .u64, .int .i64, .int .i64, .int .i64, .int .i64, .bool, .int .i64, .int .i64, .int .i64, .ints .u8, .int .i64, .int .u64, .int .i64, .int .u64, .int .i64, .int .i64, .int .i64] Q)] [] = bif !decide ((↑L.length : Int) = (↑Q.length : Int)) then ret (vB false) else h (0 : Nat) [Lf.r L, Lf.r Q, Lf.i (0 : Int)] := by kernel_rfl
theorem ssame_l0 (h : Hd) (r0 : List (List D)) (r1 : List (List D)) (i2 : Int) : ssame_f.seg ssame_e [] h 0 [.r r0, .r r1, .i i2] = let v1 : Int := if ((r0.getD i2.toNat []).getD (9 : Nat) (D.i (0 : Int))).toB = true then (1 : Int) else (0 : Int); let v2 : Int := if ((r1.getD i2.toNat []).getD (9 : Nat) (D.i (0 : Int))).toB = true then (1 : Int) else (0 : Int); let v3 : List UInt8 := lnQ [((r0.getD i2.toNat []).getD (0 : Nat) (D.i (0 : Int))).toI, ((r0.getD i2.toNat []).getD (1 : Nat) (D.i (0 : Int))).toI, ((r0.getD i2.toNat []).getD (2 : Nat) (D.i (0 : Int))).toI, ((r0.getD i2.toNat []).getD (8 : Nat) (D.i (0 : Int))).toI, v1, ((r0.getD i2.toNat []).getD (10 : Nat) (D.i (0 : Int))).toI, ((r0.getD i2.toNat []).getD (11 : Nat) (D.i (0 : Int))).toI, ((r0.getD i2.toNat []).getD (12 : Nat) (D.i (0 : Int))).toI, ((r0.getD i2.toNat []).getD (5 : Nat) (D.i (0 : Int))).toI, ((r0.getD i2.toNat []).getD (6 : Nat) (D.i (0 : Int))).toI, ((r0.getD i2.toNat []).getD (7 : Nat) (D.i (0 : Int))).toI, ((r0.getD i2.toNat []).getD (18 : Nat) (D.i (0 : Int))).toI, ((r0.getD i2.toNat []).getD (19 : Nat) (D.i (0 : Int))).toI, ((r0.getD i2.toNat []).getD (20 : Nat) (D.i (0 : Int))).toI] [((r0.getD i2.toNat []).getD (3 : Nat) (D.i (0 : Int))).toI, ((r0.getD i2.toNat []).getD (4 : Nat) (D.i (0 : Int))).toI, ((r0.getD i2.toNat []).getD (14 : Nat) (D.i (0 : Int))).toI, ((r0.getD i2.toNat []).getD (15 : Nat) (D.i (0 : Int))).toI, ((r0.getD i2.toNat []).getD (16 : Nat) (D.i (0 : Int))).toI, ((r0.getD i2.toNat []).getD (17 : Nat) (D.i (0 : Int))).toI] ((r0.getD i2.toNat []).getD (13 : Nat) (D.i (0 : Int))).toL; let v4 : List UInt8 := lnQ [((r1.getD i2.toNat []).getD (0 : Nat) (D.i (0 : Int))).toI, ((r1.getD i2.toNat []).getD (1 : Nat) (D.i (0 : Int))).toI, ((r1.getD i2.toNat []).getD (2 : Nat) (D.i (0 : Int))).toI, ((r1.getD i2.toNat []).getD (8 : Nat) (D.i (0 : Int))).toI, v2, ((r1.getD i2.toNat []).getD (10 : Nat) (D.i (0 : Int))).toI, ((r1.getD i2.toNat []).getD (11 : Nat) (D.i (0 : Int))).toI, ((r1.getD i2.toNat []).getD (12 : Nat) (D.i (0 : Int))).toI, ((r1.getD i2.toNat []).getD (5 : Nat) (D.i (0 : Int))).toI, ((r1.getD i2.toNat []).getD (6 : Nat) (D.i (0 : Int))).toI, ((r1.getD i2.toNat []).getD (7 : Nat) (D.i (0 : Int))).toI, ((r1.getD i2.toNat []).getD (18 : Nat) (D.i (0 : Int))).toI, ((r1.getD i2.toNat []).getD (19 : Nat) (D.i (0 : Int))).toI, ((r1.getD i2.toNat []).getD (20 : Nat) (D.i (0 : Int))).toI] [((r1.getD i2.toNat []).getD (3 : Nat) (D.i (0 : Int))).toI, ((r1.getD i2.toNat []).getD (4 : Nat) (D.i (0 : Int))).toI, ((r1.getD i2.toNat []).getD (14 : Nat) (D.i (0 : Int))).toI, ((r1.getD i2.toNat []).getD (15 : Nat) (D.i (0 : Int))).toI, ((r1.getD i2.toNat []).getD (16 : Nat) (D.i (0 : Int))).toI, ((r1.getD i2.toNat []).getD (17 : Nat) (D.i (0 : Int))).toI] ((r1.getD i2.toNat []).getD (13 : Nat) (D.i (0 : Int))).toL; bif decide (i2 < (↑r0.length : Int)) then bif inB i2 r0.length then bif inB i2 r1.length then bif decide (qOk [((r0.getD i2.toNat []).getD (0 : Nat) (D.i (0 : Int))).toI, ((r0.getD i2.toNat []).getD (1 : Nat) (D.i (0 : Int))).toI, ((r0.getD i2.toNat []).getD (2 : Nat) (D.i (0 : Int))).toI, ((r0.getD i2.toNat []).getD (8 : Nat) (D.i (0 : Int))).toI, v1, ((r0.getD i2.toNat []).getD (10 : Nat) (D.i (0 : Int))).toI, ((r0.getD i2.toNat []).getD (11 : Nat) (D.i (0 : Int))).toI, ((r0.getD i2.toNat []).getD (12 : Nat) (D.i (0 : Int))).toI, ((r0.getD i2.toNat []).getD (5 : Nat) (D.i (0 : Int))).toI, ((r0.getD i2.toNat []).getD (6 : Nat) (D.i (0 : Int))).toI, ((r0.getD i2.toNat []).getD (7 : Nat) (D.i (0 : Int))).toI, ((r0.getD i2.toNat []).getD (18 : Nat) (D.i (0 : Int))).toI, ((r0.getD i2.toNat []).getD (19 : Nat) (D.i (0 : Int))).toI, ((r0.getD i2.toNat []).getD (20 : Nat) (D.i (0 : Int))).toI] [((r0.getD i2.toNat []).getD (3 : Nat) (D.i (0 : Int))).toI, ((r0.getD i2.toNat []).getD (4 : Nat) (D.i (0 : Int))).toI, ((r0.getD i2.toNat []).getD (14 : Nat) (D.i (0 : Int))).toI, ((r0.getD i2.toNat []).getD (15 : Nat) (D.i (0 : Int))).toI, ((r0.getD i2.toNat []).getD (16 : Nat) (D.i (0 : Int))).toI, ((r0.getD i2.toNat []).getD (17 : Nat) (D.i (0 : Int))).toI] ((r0.getD i2.toNat []).getD (13 : Nat) (D.i (0 : Int))).toL ∧ qOk [((r1.getD i2.toNat []).getD (0 : Nat) (D.i (0 : Int))).toI, ((r1.getD i2.toNat []).getD (1 : Nat) (D.i (0 : Int))).toI, ((r1.getD i2.toNat []).getD (2 : Nat) (D.i (0 : Int))).toI, ((r1.getD i2.toNat []).getD (8 : Nat) (D.i (0 : Int))).toI, v2, ((r1.getD i2.toNat []).getD (10 : Nat) (D.i (0 : Int))).toI, ((r1.getD i2.toNat []).getD (11 : Nat) (D.i (0 : Int))).toI, ((r1.getD i2.toNat []).getD (12 : Nat) (D.i (0 : Int))).toI, ((r1.getD i2.toNat []).getD (5 : Nat) (D.i (0 : Int))).toI, ((r1.getD i2.toNat []).getD (6 : Nat) (D.i (0 : Int))).toI, ((r1.getD i2.toNat []).getD (7 : Nat) (D.i (0 : Int))).toI, ((r1.getD i2.toNat []).getD (18 : Nat) (D.i (0 : Int))).toI, ((r1.getD i2.toNat []).getD (19 : Nat) (D.i (0 : Int))).toI, ((r1.getD i2.toNat []).getD (20 : Nat) (D.i (0 : Int))).toI] [((r1.getD i2.toNat []).getD (3 : Nat) (D.i (0 : Int))).toI, ((r1.getD i2.toNat []).getD (4 : Nat) (D.i (0 : Int))).toI, ((r1.getD i2.toNat []).getD (14 : Nat) (D.i (0 : Int))).toI, ((r1.getD i2.toNat []).getD (15 : Nat) (D.i (0 : Int))).toI, ((r1.getD i2.toNat []).getD (16 : Nat) (D.i (0 : Int))).toI, ((r1.getD i2.toNat []).getD (17 : Nat) (D.i (0 : Int))).toI] ((r1.getD i2.toNat []).getD (13 : Nat) (D.i (0 : Int))).toL) then bif !decide (v3 = v4) then ret (vB false) else h (0 : Nat) [Lf.r r0, Lf.r r1, Lf.i (IntKind.i64.wrap (i2 + (1 : Int)))] else none else none else none else ret (vB true) := by kernel_rfl

theorem ssame_loop (L Q : List (List D)) (hL : allR L) (hQ : allR Q) (hl : L.length ≤ 1000000000) (he : L.length = Q.length) : ∀ (k i : Nat), i ≤ L.length → L.length - i < k →
    ssame_f.H ssame_e [] k 0 [.r L, .r Q, .i (i : Nat)] = some ⟨vB (decide ((L.drop i).map lnR = (Q.drop i).map lnR)), []⟩ := by
  intro k
  induction k with
  | zero => intro i _ h; omega
  | succ k ih =>
    intro i hi hk
    rw [FnD.H_succ, ssame_l0]
    dsimp only
    rw [Int.toNat_natCast, lnR_unf, lnR_unf]
    by_cases h : i < L.length
    · have hq : i < Q.length := by omega
      have wr : IntKind.i64.wrap ((i : Int) + 1) = ((i + 1 : Nat) : Int) := by rw [IntWalk.i64_in _ (by omega)]; omega
      rw [wr]
      refine condT (by omega) (condB ((inB_iff _ _).2 (by omega)) (condB ((inB_iff _ _).2 (by omega)) (condT ⟨allR_at hL h, allR_at hQ hq⟩ ?_)))
      have e1 : L.drop i = L.getD i [] :: L.drop (i + 1) := by rw [List.getD_eq_getElem?_getD, List.getElem?_eq_getElem h]; exact List.drop_eq_getElem_cons h
      have e2 : Q.drop i = Q.getD i [] :: Q.drop (i + 1) := by rw [List.getD_eq_getElem?_getD, List.getElem?_eq_getElem hq]; exact List.drop_eq_getElem_cons hq
      rw [e1, e2, List.map_cons, List.map_cons]
      by_cases g : lnR (L.getD i []) = lnR (Q.getD i [])
      · refine condN (by rw [decide_eq_true g]; rfl) ((ih (i + 1) (by omega) (by omega)).trans (retV ?_))
        congr 1
        rw [g]; simp
      · refine condB (by rw [decide_eq_false g]; rfl) (retV ?_)
        congr 1
        exact (decide_eq_false fun e => g (List.cons.inj e).1).symm
    · obtain rfl : i = L.length := by omega
      refine condF (by omega) (retV ?_)
      rw [List.drop_of_length_le (Nat.le_refl _), List.drop_of_length_le (by omega)]; rfl
theorem ssame_run (L : List (List D)) (Q : List (List D)) (hp : allR L ∧ allR Q ∧ L.length ≤ 1000000000) : ∃ fu, ssame_f.run ssame_e [] fu [c1 (.rows [.int .i64, .int .i64, .int .i64, .int .i64, .int .u64, .int .i64, .int .i64, .int .i64, .int .i64, .bool, .int .i64, .int .i64, .int .i64, .ints .u8, .int .i64, .int .u64, .int .i64, .int .u64, .int .i64, .int .i64, .int .i64] L), c1 (.rows [.int .i64, .int .i64, .int .i64, .int .i64, .int .u64, .int .i64, .int .i64, .int .i64, .int .i64, .bool, .int .i64, .int .i64, .int .i64, .ints .u8, .int .i64, .int .u64, .int .i64, .int .u64, .int .i64, .int .i64, .int .i64] Q)] [] = some ⟨vB (decide (L.map lnR = Q.map lnR)), []⟩ := by
  refine ⟨L.length + 1, ?_⟩
  rw [FnD.run, ssame_ent]
  by_cases he : L.length = Q.length
  · refine condN (by rw [decide_eq_true (by omega)]; rfl) ?_
    exact ssame_loop L Q hp.1 hp.2.1 hp.2.2 he (L.length + 1) 0 (by omega) (by omega)
  · refine condB (by rw [decide_eq_false (by omega)]; rfl) (retV ?_)
    congr 1
    refine (decide_eq_false fun e => he ?_).symm
    have := congrArg List.length e
    rwa [List.length_map, List.length_map] at this
theorem ssame_ok (L : List (List D)) (Q : List (List D)) (hp : allR L ∧ allR Q ∧ L.length ≤ 1000000000) : FnOk cfg 38 ([c1 (.rows [.int .i64, .int .i64, .int .i64, .int .i64, .int .u64, .int .i64, .int .i64, .int .i64, .int .i64, .bool, .int .i64, .int .i64, .int .i64, .ints .u8, .int .i64, .int .u64, .int .i64, .int .u64, .int .i64, .int .i64, .int .i64] L), c1 (.rows [.int .i64, .int .i64, .int .i64, .int .i64, .int .u64, .int .i64, .int .i64, .int .i64, .int .i64, .bool, .int .i64, .int .i64, .int .i64, .ints .u8, .int .i64, .int .u64, .int .i64, .int .u64, .int .i64, .int .i64, .int .i64] Q)].map SV.den) (vB (decide (L.map lnR = Q.map lnR)) : SV).den := by
  obtain ⟨nn, h⟩ := ssame_run L Q hp
  exact FnD.ok ssame_g ssame_f mixed Tryz.func38 rfl rfl rfl rfl rfl rfl h
noncomputable def c_ssame : SpecF := fun args _ K => match args with
  | [.one (.c (.rows [.int .i64, .int .i64, .int .i64, .int .i64, .int .u64, .int .i64, .int .i64, .int .i64, .int .i64, .bool, .int .i64, .int .i64, .int .i64, .ints .u8, .int .i64, .int .u64, .int .i64, .int .u64, .int .i64, .int .i64, .int .i64] L)), .one (.c (.rows [.int .i64, .int .i64, .int .i64, .int .i64, .int .u64, .int .i64, .int .i64, .int .i64, .int .i64, .bool, .int .i64, .int .i64, .int .i64, .ints .u8, .int .i64, .int .u64, .int .i64, .int .u64, .int .i64, .int .i64, .int .i64] Q))] => bif decide (allR L ∧ allR Q ∧ L.length ≤ 1000000000) then K (vB (decide (L.map lnR = Q.map lnR))) [] else none
  | _ => none
theorem c_ssame_ok : SpecOk cfg 38 c_ssame := by
  intro args bx K out h
  unfold c_ssame at h
  split at h
  · obtain ⟨hp, h⟩ := bif_some h
    exact ⟨_, _, h, .inl (ssame_ok _ _ (of_decide_eq_true hp) _), by simp [isTupS]⟩
  · cases h
/-! ### epactlaw29.answers -/
noncomputable def sanw_e : Ev' := ⟨Tryz.prog, glob, Γof [(85, c_wof), (34, c_sprint), (35, c_sparse), (41, c_shex)]⟩
theorem sanw_g : Gd cfg sanw_e := gd (env_cons c_wof_ok (env_cons c_sprint_ok (env_cons c_sparse_ok (env_cons c_shex_ok (env_nil _)))))
noncomputable def sanw_f : FnD := ⟨36, Tryz.f36, noSh, Tryz.f36.resultTypes.toList, 0⟩
theorem sanw_ent (h : Hd)  : sanw_f.ent sanw_e [] h [] [] = ret (vB true) := by kernel_rfl
theorem sanw_run  : ∃ fu, sanw_f.run sanw_e [] fu [] [] = some ⟨vB true, []⟩ := by
  refine ⟨0, ?_⟩
  rw [FnD.run, sanw_ent]
theorem sanw_ok  : FnOk cfg 36 ([].map SV.den) (vB true : SV).den := by
  obtain ⟨nn, h⟩ := sanw_run 
  exact FnD.ok sanw_g sanw_f mixed Tryz.func36 rfl rfl rfl rfl rfl rfl h
noncomputable def c_sanw : SpecF := fun args _ K => match args with
  | [] => K (vB true) []
  | _ => none
theorem c_sanw_ok : SpecOk cfg 36 c_sanw := by
  intro args bx K out h
  unfold c_sanw at h
  split at h
  · exact ⟨_, _, h, .inl (sanw_ok  _), by simp [isTupS]⟩
  · cases h
end Go.Proofs.YtldofkogmkfpjaaGreatDoor
