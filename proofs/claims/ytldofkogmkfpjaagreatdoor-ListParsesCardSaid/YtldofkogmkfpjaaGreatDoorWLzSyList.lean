/-
  The contracts of layer 11 (list).
-/
import Derived.Test.YtldofkogmkfpjaaGreatDoorWLzSyLex
import Derived.Test.YtldofkogmkfpjaaGreatDoorWPListD
import Derived.Test.YtldofkogmkfpjaaGreatDoorWSyB
namespace Go.Proofs.YtldofkogmkfpjaaGreatDoor
open Go Go.Ev Go.Sy
set_option linter.unusedSimpArgs false
set_option linter.unusedVariables false
set_option maxRecDepth 10000
set_option maxHeartbeats 4000000
/-! ### list.within -/
noncomputable def lwi_e : Ev' := ⟨Tryz.prog, glob, Γof []⟩
theorem lwi_g : Gd cfg lwi_e := gd (env_nil _)
noncomputable def lwi_f : FnD := ⟨68, Tryz.f68, noSh, Tryz.f68.resultTypes.toList, 0⟩
theorem lwi_ent (h : Hd) (n : Int) (m : Int) : lwi_f.ent lwi_e [] h [vI n, vI m] [] = bif decide ((0 : Int) ≤ n) then ret (vB (decide (n ≤ m))) else ret (vB false) := by kernel_rfl
theorem lwi_run (n : Int) (m : Int) : ∃ fu, lwi_f.run lwi_e [] fu [vI n, vI m] [] = some ⟨vB (decide (0 ≤ n) && decide (n ≤ m)), []⟩ := by
  refine ⟨0, ?_⟩
  rw [FnD.run, lwi_ent]
  by_cases h : 0 ≤ n
  · exact condT h (retV (by rw [decide_eq_true h]; rfl))
  · exact condF h (retV (by rw [decide_eq_false h]; rfl))
theorem lwi_ok (n : Int) (m : Int) : FnOk cfg 68 ([vI n, vI m].map SV.den) (vB (decide (0 ≤ n) && decide (n ≤ m)) : SV).den := by
  obtain ⟨nn, h⟩ := lwi_run n m
  exact FnD.ok lwi_g lwi_f mixed Tryz.func68 rfl rfl rfl rfl rfl rfl h
noncomputable def c_lwi : SpecF := fun args _ K => match args with
  | [.one (.c (.int .i64 n)), .one (.c (.int .i64 m))] => K (vB (decide (0 ≤ n) && decide (n ≤ m))) []
  | _ => none
theorem c_lwi_ok : SpecOk cfg 68 c_lwi := by
  intro args bx K out h
  unfold c_lwi at h
  split at h
  · exact ⟨_, _, h, .inl (lwi_ok _ _ _), by simp [isTupS]⟩
  · cases h
/-! ### list.behind -/
noncomputable def lbh_e : Ev' := ⟨Tryz.prog, glob, Γof [(68, c_lwi)]⟩
theorem lbh_g : Gd cfg lbh_e := gd (env_cons c_lwi_ok (env_nil _))
noncomputable def lbh_f : FnD := ⟨67, Tryz.f67, noSh, Tryz.f67.resultTypes.toList, 0⟩
theorem lbh_ent (h : Hd) (L : List (List D)) (a : Int) (o : Int) : lbh_f.ent lbh_e [] h [c1 (.rows [.int .i64, .int .i64] L), agg [.c (.int .i64 a), .c (.int .i64 o)]] [] = let v1 : Int := ((L.getD (IntKind.i64.wrap ((↑L.length : Int) - (1 : Int))).toNat []).getD (0 : Nat) (D.i (0 : Int))).toI; let v2 : Int := IntKind.i64.wrap (o - ((L.getD (IntKind.i64.wrap ((↑L.length : Int) - (1 : Int))).toNat []).getD (1 : Nat) (D.i (0 : Int))).toI); bif decide ((64 : Int) ≤ (↑L.length : Int)) then ret (vB false) else bif !(decide ((0 : Int) ≤ a) && decide (a ≤ (1125899906842624 : Int))) then ret (vB false) else bif !decide (a.tmod (86400 : Int) = (0 : Int)) then ret (vB false) else bif !(decide ((0 : Int) ≤ o) && decide (o ≤ (1000 : Int))) then ret (vB false) else bif decide ((↑L.length : Int) = (0 : Int)) then ret (vB true) else bif inB (IntKind.i64.wrap ((↑L.length : Int) - (1 : Int))) L.length then bif decide (v1 < a) then bif decide (v2 = (1 : Int)) then ret (vB true) else ret (vB (decide (v2 = (-1 : Int)))) else ret (vB false) else none := by kernel_rfl

theorem beh_out {b : Bool} (h : b = false) : some (⟨vB false, []⟩ : Out) = some ⟨vB b, []⟩ := by rw [h]
theorem lbh_run (L : List (List D)) (a : Int) (o : Int) (hp : lastOk L) : ∃ fu, lbh_f.run lbh_e [] fu [c1 (.rows [.int .i64, .int .i64] L), agg [.c (.int .i64 a), .c (.int .i64 o)]] [] = some ⟨vB (behP L a o), []⟩ := by
  refine ⟨0, ?_⟩
  rw [FnD.run, lbh_ent]
  have tm : a.tmod 86400 = 0 ↔ a % 86400 = 0 := by rw [Int.tmod_eq_emod]; split <;> omega
  unfold behP
  by_cases h1 : L.length < 64
  case neg => exact condT (by omega) (beh_out (by rw [decide_eq_false h1]; rfl))
  refine condF (by omega) ?_
  rw [decide_eq_true h1, Bool.true_and]
  cases h2 : (decide (0 ≤ a) && decide (a ≤ 1125899906842624)) with
  | false => exact beh_out (by simp)
  | true =>
  rw [Bool.true_and]
  show (bif !decide (a.tmod 86400 = 0) then _ else _) = _
  rw [decide_eq_decide.2 tm]
  cases h3 : decide (a % 86400 = 0) with
  | false => exact beh_out (by simp)
  | true =>
  rw [Bool.true_and]
  show (bif !(decide (0 ≤ o) && decide (o ≤ 1000)) then _ else _) = _
  cases h4 : (decide (0 ≤ o) && decide (o ≤ 1000)) with
  | false => exact beh_out (by simp)
  | true =>
  rw [Bool.true_and]
  show (bif decide ((L.length : Int) = 0) then _ else _) = _
  by_cases h5 : L = []
  · subst h5; exact condT (by simp) (retV (by simp))
  have h5l : 0 < L.length := List.length_pos_iff.2 h5
  rw [decide_eq_false h5, Bool.false_or]
  have e1 : IntKind.i64.wrap ((L.length : Int) - 1) = ((L.length - 1 : Nat) : Int) := by rw [IntWalk.i64_in _ (by omega)]; omega
  rw [e1, Int.toNat_natCast]
  refine condF (by omega) (condB ((inB_iff _ _).2 (by omega)) ?_)
  rw [Bool.and_eq_true, decide_eq_true_eq, decide_eq_true_eq] at h4
  have hl := hp.resolve_left h5
  unfold ofR lastR at hl
  have e2 : IntKind.i64.wrap (o - ((L.getD (L.length - 1) []).getD 1 (D.i 0)).toI) = o - ((L.getD (L.length - 1) []).getD 1 (D.i 0)).toI := IntWalk.i64_in _ (by omega)
  rw [e2]
  unfold atR ofR lastR
  generalize ((L.getD (L.length - 1) []).getD 1 (D.i 0)).toI = y at hl e2 ⊢
  generalize ((L.getD (L.length - 1) []).getD 0 (D.i 0)).toI = x at hl e2 ⊢
  by_cases h6 : x < a
  · refine condT h6 ?_
    by_cases h7 : o - y = 1
    · refine condT h7 (retV ?_)
      rw [decide_eq_true h6, decide_eq_true (show o = y + 1 by omega)]; rfl
    · refine condF h7 (retV ?_)
      rw [decide_eq_true h6, decide_eq_false (show ¬ o = y + 1 by omega), Bool.true_and, Bool.false_or]
      exact congrArg vB (decide_eq_decide.2 (by omega))
  · refine condF h6 (retV ?_)
    rw [decide_eq_false h6]; rfl
theorem lbh_ok (L : List (List D)) (a : Int) (o : Int) (hp : lastOk L) : FnOk cfg 67 ([c1 (.rows [.int .i64, .int .i64] L), agg [.c (.int .i64 a), .c (.int .i64 o)]].map SV.den) (vB (behP L a o) : SV).den := by
  obtain ⟨nn, h⟩ := lbh_run L a o hp
  exact FnD.ok lbh_g lbh_f mixed Tryz.func67 rfl rfl rfl rfl rfl rfl h
noncomputable def c_lbh : SpecF := fun args _ K => match args with
  | [.one (.c (.rows [.int .i64, .int .i64] L)), .one (.agg [.c (.int .i64 a), .c (.int .i64 o)])] => bif decide (lastOk L) then K (vB (behP L a o)) [] else none
  | _ => none
theorem c_lbh_ok : SpecOk cfg 67 c_lbh := by
  intro args bx K out h
  unfold c_lbh at h
  split at h
  · obtain ⟨hp, h⟩ := bif_some h
    exact ⟨_, _, h, .inl (lbh_ok _ _ _ (of_decide_eq_true hp) _), by simp [isTupS]⟩
  · cases h

def adB (m : Nat) (f : Cl) (u x : Int) (w : List Int) : SB := ⟨.sg [gI u, gI x, .c f, .arr .u32 5 w, .c (.mref m)], 0, false⟩
def adM (l : List (Int × Int)) : SB := ⟨.mp .i64 .i64 l, 0, false⟩
def adR (L : List (List D)) (pb : Nat) : SB := ⟨.rows [.int .i64, .int .i64] L, pb, false⟩
def adOut (m : Nat) (f f' : Cl) (E E1 : List SB) (E2 : LnV → List SB) (u x : Int) (w : List Int) (l : List (Int × Int)) (L : List (List D)) (t : Int) (o : Option LnV) : Out := match o with
  | none => ⟨vI 4, adB m f u x w :: adM l :: E⟩
  | some v => if v.k ≠ 1 ∧ v.k ≠ 5 ∧ 0 < mapGet l v.k then ⟨vI 4, adB m f u x w :: adM l :: E⟩ else
    if v.k = 5 then (if behP L v.a v.b = true then ⟨vI 0, adB m f' u x w :: adM (mapSet l v.k t) :: E2 v⟩ else ⟨vI 10, adB m f u x w :: adM (mapSet l v.k t) :: E1⟩)
    else ⟨vI 0, adB m f (if v.k = 2 then v.a else u) (if v.k = 3 then v.a else x) (if v.k = 4 then v.w else w) :: adM (mapSet l v.k t) :: E⟩
/-! ### (*list.reading).add -/
noncomputable def ladn_e : Ev' := ⟨Tryz.prog, glob, Γof [(112, c_lscan), (67, c_lbh)]⟩
theorem ladn_g : Gd cfg ladn_e := gd (env_cons c_lscan_ok (env_cons c_lbh_ok (env_nil _)))
noncomputable def ladn_f : FnD := ⟨78, Tryz.f78, noSh, Tryz.f78.resultTypes.toList, 2⟩
theorem ladn_ent (h : Hd) (u : Int) (x : Int) (w : List Int) (l : List (Int × Int)) (s : ByteArray) (t : Int) : ladn_f.ent ladn_e [96, 97] h [c1 (.ptr 96 0), vS s, vI t] [⟨.sg [.c (.int .i64 u), .c (.int .i64 x), .c (.val (.slice none 0 0)), .arr .u32 5 w, .c (.mref 97)], 0, false⟩, ⟨.mp .i64 .i64 l, 0, false⟩] = bif decide (s.size ≤ (9223372036854775807 : Nat)) then bif !(scanP s.data.toList).isSome then some { r := vI (4 : Int), bs := [{ ct := Ct.sg [gI u, gI x, Sg.c (Cl.val (Value.slice none (0 : Nat) (0 : Nat))), Sg.arr IntKind.u32 (5 : Nat) w, Sg.c (Cl.mref (97 : Nat))], pub := (0 : Nat), nl := false }, { ct := Ct.mp IntKind.i64 IntKind.i64 l, pub := (0 : Nat), nl := false }] } else bif !decide (((scanP s.data.toList).getD ln0).k = (1 : Int)) then bif !decide (((scanP s.data.toList).getD ln0).k = (5 : Int)) then bif decide ((0 : Int) < mapGet l ((scanP s.data.toList).getD ln0).k) then some { r := vI (4 : Int), bs := [{ ct := Ct.sg [gI u, gI x, Sg.c (Cl.val (Value.slice none (0 : Nat) (0 : Nat))), Sg.arr IntKind.u32 (5 : Nat) w, Sg.c (Cl.mref (97 : Nat))], pub := (0 : Nat), nl := false }, { ct := Ct.mp IntKind.i64 IntKind.i64 l, pub := (0 : Nat), nl := false }] } else bif decide (((scanP s.data.toList).getD ln0).k = (2 : Int)) then some { r := vI (0 : Int), bs := [{ ct := Ct.sg [gI ((scanP s.data.toList).getD ln0).a, gI x, Sg.c (Cl.val (Value.slice none (0 : Nat) (0 : Nat))), Sg.arr IntKind.u32 (5 : Nat) w, Sg.c (Cl.mref (97 : Nat))], pub := (0 : Nat), nl := false }, { ct := Ct.mp IntKind.i64 IntKind.i64 (mapSet l ((scanP s.data.toList).getD ln0).k t), pub := (0 : Nat), nl := false }] } else bif decide (((scanP s.data.toList).getD ln0).k = (3 : Int)) then some { r := vI (0 : Int), bs := [{ ct := Ct.sg [gI u, gI ((scanP s.data.toList).getD ln0).a, Sg.c (Cl.val (Value.slice none (0 : Nat) (0 : Nat))), Sg.arr IntKind.u32 (5 : Nat) w, Sg.c (Cl.mref (97 : Nat))], pub := (0 : Nat), nl := false }, { ct := Ct.mp IntKind.i64 IntKind.i64 (mapSet l ((scanP s.data.toList).getD ln0).k t), pub := (0 : Nat), nl := false }] } else bif decide (((scanP s.data.toList).getD ln0).k = (4 : Int)) then some { r := vI (0 : Int), bs := [{ ct := Ct.sg [gI u, gI x, Sg.c (Cl.val (Value.slice none (0 : Nat) (0 : Nat))), Sg.arr IntKind.u32 (5 : Nat) ((scanP s.data.toList).getD ln0).w, Sg.c (Cl.mref (97 : Nat))], pub := (0 : Nat), nl := false }, { ct := Ct.mp IntKind.i64 IntKind.i64 (mapSet l ((scanP s.data.toList).getD ln0).k t), pub := (0 : Nat), nl := false }] } else bif decide (((scanP s.data.toList).getD ln0).k = (5 : Int)) then bif !behP [] ((scanP s.data.toList).getD ln0).a ((scanP s.data.toList).getD ln0).b then some { r := vI (10 : Int), bs := [{ ct := Ct.sg [gI u, gI x, Sg.c (Cl.val (Value.slice none (0 : Nat) (0 : Nat))), Sg.arr IntKind.u32 (5 : Nat) w, Sg.c (Cl.mref (97 : Nat))], pub := (0 : Nat), nl := false }, { ct := Ct.mp IntKind.i64 IntKind.i64 (mapSet l ((scanP s.data.toList).getD ln0).k t), pub := (0 : Nat), nl := false }] } else some { r := vI (0 : Int), bs := [{ ct := Ct.sg [gI u, gI x, Sg.c (Cl.sl (92 : Nat) (1 : Nat) (2 : Nat) false), Sg.arr IntKind.u32 (5 : Nat) w, Sg.c (Cl.mref (97 : Nat))], pub := (0 : Nat), nl := false }, { ct := Ct.mp IntKind.i64 IntKind.i64 (mapSet l ((scanP s.data.toList).getD ln0).k t), pub := (0 : Nat), nl := false }, { ct := Ct.rows [Kd.int IntKind.i64, Kd.int IntKind.i64] [[D.i ((scanP s.data.toList).getD ln0).a, D.i ((scanP s.data.toList).getD ln0).b]], pub := (0 : Nat), nl := false }] } else some { r := vI (0 : Int), bs := [{ ct := Ct.sg [gI u, gI x, Sg.c (Cl.val (Value.slice none (0 : Nat) (0 : Nat))), Sg.arr IntKind.u32 (5 : Nat) w, Sg.c (Cl.mref (97 : Nat))], pub := (0 : Nat), nl := false }, { ct := Ct.mp IntKind.i64 IntKind.i64 (mapSet l ((scanP s.data.toList).getD ln0).k t), pub := (0 : Nat), nl := false }] } else bif decide (((scanP s.data.toList).getD ln0).k = (2 : Int)) then some { r := vI (0 : Int), bs := [{ ct := Ct.sg [gI ((scanP s.data.toList).getD ln0).a, gI x, Sg.c (Cl.val (Value.slice none (0 : Nat) (0 : Nat))), Sg.arr IntKind.u32 (5 : Nat) w, Sg.c (Cl.mref (97 : Nat))], pub := (0 : Nat), nl := false }, { ct := Ct.mp IntKind.i64 IntKind.i64 (mapSet l ((scanP s.data.toList).getD ln0).k t), pub := (0 : Nat), nl := false }] } else bif decide (((scanP s.data.toList).getD ln0).k = (3 : Int)) then some { r := vI (0 : Int), bs := [{ ct := Ct.sg [gI u, gI ((scanP s.data.toList).getD ln0).a, Sg.c (Cl.val (Value.slice none (0 : Nat) (0 : Nat))), Sg.arr IntKind.u32 (5 : Nat) w, Sg.c (Cl.mref (97 : Nat))], pub := (0 : Nat), nl := false }, { ct := Ct.mp IntKind.i64 IntKind.i64 (mapSet l ((scanP s.data.toList).getD ln0).k t), pub := (0 : Nat), nl := false }] } else bif decide (((scanP s.data.toList).getD ln0).k = (4 : Int)) then some { r := vI (0 : Int), bs := [{ ct := Ct.sg [gI u, gI x, Sg.c (Cl.val (Value.slice none (0 : Nat) (0 : Nat))), Sg.arr IntKind.u32 (5 : Nat) ((scanP s.data.toList).getD ln0).w, Sg.c (Cl.mref (97 : Nat))], pub := (0 : Nat), nl := false }, { ct := Ct.mp IntKind.i64 IntKind.i64 (mapSet l ((scanP s.data.toList).getD ln0).k t), pub := (0 : Nat), nl := false }] } else bif decide (((scanP s.data.toList).getD ln0).k = (5 : Int)) then bif !behP [] ((scanP s.data.toList).getD ln0).a ((scanP s.data.toList).getD ln0).b then some { r := vI (10 : Int), bs := [{ ct := Ct.sg [gI u, gI x, Sg.c (Cl.val (Value.slice none (0 : Nat) (0 : Nat))), Sg.arr IntKind.u32 (5 : Nat) w, Sg.c (Cl.mref (97 : Nat))], pub := (0 : Nat), nl := false }, { ct := Ct.mp IntKind.i64 IntKind.i64 (mapSet l ((scanP s.data.toList).getD ln0).k t), pub := (0 : Nat), nl := false }] } else some { r := vI (0 : Int), bs := [{ ct := Ct.sg [gI u, gI x, Sg.c (Cl.sl (92 : Nat) (1 : Nat) (2 : Nat) false), Sg.arr IntKind.u32 (5 : Nat) w, Sg.c (Cl.mref (97 : Nat))], pub := (0 : Nat), nl := false }, { ct := Ct.mp IntKind.i64 IntKind.i64 (mapSet l ((scanP s.data.toList).getD ln0).k t), pub := (0 : Nat), nl := false }, { ct := Ct.rows [Kd.int IntKind.i64, Kd.int IntKind.i64] [[D.i ((scanP s.data.toList).getD ln0).a, D.i ((scanP s.data.toList).getD ln0).b]], pub := (0 : Nat), nl := false }] } else some { r := vI (0 : Int), bs := [{ ct := Ct.sg [gI u, gI x, Sg.c (Cl.val (Value.slice none (0 : Nat) (0 : Nat))), Sg.arr IntKind.u32 (5 : Nat) w, Sg.c (Cl.mref (97 : Nat))], pub := (0 : Nat), nl := false }, { ct := Ct.mp IntKind.i64 IntKind.i64 (mapSet l ((scanP s.data.toList).getD ln0).k t), pub := (0 : Nat), nl := false }] } else bif decide (((scanP s.data.toList).getD ln0).k = (2 : Int)) then some { r := vI (0 : Int), bs := [{ ct := Ct.sg [gI ((scanP s.data.toList).getD ln0).a, gI x, Sg.c (Cl.val (Value.slice none (0 : Nat) (0 : Nat))), Sg.arr IntKind.u32 (5 : Nat) w, Sg.c (Cl.mref (97 : Nat))], pub := (0 : Nat), nl := false }, { ct := Ct.mp IntKind.i64 IntKind.i64 (mapSet l ((scanP s.data.toList).getD ln0).k t), pub := (0 : Nat), nl := false }] } else bif decide (((scanP s.data.toList).getD ln0).k = (3 : Int)) then some { r := vI (0 : Int), bs := [{ ct := Ct.sg [gI u, gI ((scanP s.data.toList).getD ln0).a, Sg.c (Cl.val (Value.slice none (0 : Nat) (0 : Nat))), Sg.arr IntKind.u32 (5 : Nat) w, Sg.c (Cl.mref (97 : Nat))], pub := (0 : Nat), nl := false }, { ct := Ct.mp IntKind.i64 IntKind.i64 (mapSet l ((scanP s.data.toList).getD ln0).k t), pub := (0 : Nat), nl := false }] } else bif decide (((scanP s.data.toList).getD ln0).k = (4 : Int)) then some { r := vI (0 : Int), bs := [{ ct := Ct.sg [gI u, gI x, Sg.c (Cl.val (Value.slice none (0 : Nat) (0 : Nat))), Sg.arr IntKind.u32 (5 : Nat) ((scanP s.data.toList).getD ln0).w, Sg.c (Cl.mref (97 : Nat))], pub := (0 : Nat), nl := false }, { ct := Ct.mp IntKind.i64 IntKind.i64 (mapSet l ((scanP s.data.toList).getD ln0).k t), pub := (0 : Nat), nl := false }] } else bif decide (((scanP s.data.toList).getD ln0).k = (5 : Int)) then bif !behP [] ((scanP s.data.toList).getD ln0).a ((scanP s.data.toList).getD ln0).b then some { r := vI (10 : Int), bs := [{ ct := Ct.sg [gI u, gI x, Sg.c (Cl.val (Value.slice none (0 : Nat) (0 : Nat))), Sg.arr IntKind.u32 (5 : Nat) w, Sg.c (Cl.mref (97 : Nat))], pub := (0 : Nat), nl := false }, { ct := Ct.mp IntKind.i64 IntKind.i64 (mapSet l ((scanP s.data.toList).getD ln0).k t), pub := (0 : Nat), nl := false }] } else some { r := vI (0 : Int), bs := [{ ct := Ct.sg [gI u, gI x, Sg.c (Cl.sl (92 : Nat) (1 : Nat) (2 : Nat) false), Sg.arr IntKind.u32 (5 : Nat) w, Sg.c (Cl.mref (97 : Nat))], pub := (0 : Nat), nl := false }, { ct := Ct.mp IntKind.i64 IntKind.i64 (mapSet l ((scanP s.data.toList).getD ln0).k t), pub := (0 : Nat), nl := false }, { ct := Ct.rows [Kd.int IntKind.i64, Kd.int IntKind.i64] [[D.i ((scanP s.data.toList).getD ln0).a, D.i ((scanP s.data.toList).getD ln0).b]], pub := (0 : Nat), nl := false }] } else some { r := vI (0 : Int), bs := [{ ct := Ct.sg [gI u, gI x, Sg.c (Cl.val (Value.slice none (0 : Nat) (0 : Nat))), Sg.arr IntKind.u32 (5 : Nat) w, Sg.c (Cl.mref (97 : Nat))], pub := (0 : Nat), nl := false }, { ct := Ct.mp IntKind.i64 IntKind.i64 (mapSet l ((scanP s.data.toList).getD ln0).k t), pub := (0 : Nat), nl := false }] } else none := by kernel_rfl
theorem ladn_run (u : Int) (x : Int) (w : List Int) (l : List (Int × Int)) (s : ByteArray) (t : Int) (hp : s.size ≤ 9223372036854775807) : ∃ fu, ladn_f.run ladn_e [96, 97] fu [c1 (.ptr 96 0), vS s, vI t] [⟨.sg [.c (.int .i64 u), .c (.int .i64 x), .c (.val (.slice none 0 0)), .arr .u32 5 w, .c (.mref 97)], 0, false⟩, ⟨.mp .i64 .i64 l, 0, false⟩] = some (adOut 97 (.val (.slice none 0 0)) (.sl 92 1 2 false) [] [] (fun v => [adR [[.i v.a, .i v.b]] 0]) u x w l [] t (scanP s.data.toList)) := by
  refine ⟨0, ?_⟩
  rw [FnD.run, ladn_ent]
  refine condT hp ?_
  generalize scanP s.data.toList = o
  cases o with
  | none => rfl
  | some v =>
  unfold adOut
  simp only [Option.isSome_some, Option.getD_some, Bool.not_true, cond_false]
  by_cases k5 : v.k = 5
  · simp only [k5, decide_true, decide_false, cond_true, cond_false, Bool.not_true, Bool.not_false, (by decide : ¬ (5 : Int) = 1), (by decide : ¬ (5 : Int) = 2), (by decide : ¬ (5 : Int) = 3), (by decide : ¬ (5 : Int) = 4), ne_eq, not_true_eq_false, false_and, and_false, if_false, if_true]
    cases hb : behP [] v.a v.b with
    | true => rfl
    | false => rfl
  by_cases k1 : v.k = 1
  · simp only [k1, decide_true, decide_false, cond_true, cond_false, Bool.not_true, Bool.not_false, (by decide : ¬ (1 : Int) = 5), (by decide : ¬ (1 : Int) = 2), (by decide : ¬ (1 : Int) = 3), (by decide : ¬ (1 : Int) = 4), ne_eq, not_true_eq_false, false_and, and_false, if_false, if_true]
    rfl
  rw [decide_eq_false k1, decide_eq_false k5]
  simp only [Bool.not_false, cond_true, cond_false]
  by_cases hg : 0 < mapGet l v.k
  · exact (condT hg (by rw [if_pos ⟨k1, k5, hg⟩]; rfl))
  refine condF hg ?_
  rw [if_neg (fun h => hg h.2.2), if_neg k5]
  by_cases k2 : v.k = 2
  · refine condT k2 ?_
    rw [if_pos k2, if_neg (by omega), if_neg (by omega)]; rfl
  refine condF k2 ?_
  by_cases k3 : v.k = 3
  · refine condT k3 ?_
    rw [if_neg (by omega), if_pos k3, if_neg (by omega)]; rfl
  refine condF k3 ?_
  by_cases k4 : v.k = 4
  · refine condT k4 ?_
    rw [if_neg (by omega), if_neg (by omega), if_pos k4]; rfl
  refine condF k4 ?_
  rw [if_neg (by omega), if_neg (by omega), if_neg (by omega)]; rfl
theorem pubOk_self (n : Nat) : pubOk n n = true := by
  unfold pubOk
  split
  · rfl
  · first | exact decide_eq_true (Nat.le_refl _) | exact Nat.ble_self_eq_true _ | simp
/-! ### (*list.reading).add -/
noncomputable def lad_e : Ev' := ⟨Tryz.prog, glob, Γof [(112, c_lscan), (67, c_lbh)]⟩
theorem lad_g : Gd cfg lad_e := gd (env_cons c_lscan_ok (env_cons c_lbh_ok (env_nil _)))
noncomputable def lad_f : FnD := ⟨78, Tryz.f78, noSh, Tryz.f78.resultTypes.toList, 2⟩
theorem lad_ent (h : Hd) (u : Int) (x : Int) (w : List Int) (l : List (Int × Int)) (s : ByteArray) (t : Int) (L : List (List D)) (pb : Nat) : lad_f.ent lad_e [96, 97, 98] h [c1 (.ptr 96 0), vS s, vI t] [⟨.sg [.c (.int .i64 u), .c (.int .i64 x), .c (.sl 98 L.length 2 false), .arr .u32 5 w, .c (.mref 97)], 0, false⟩, ⟨.mp .i64 .i64 l, 0, false⟩, ⟨.rows [.int .i64, .int .i64] L, pb, false⟩] = let v1 : List (List D) := List.take L.length L ++ [[D.i ((scanP s.data.toList).getD ln0).a, D.i ((scanP s.data.toList).getD ln0).b]]; bif decide (s.size ≤ (9223372036854775807 : Nat)) then bif !(scanP s.data.toList).isSome then some { r := vI (4 : Int), bs := [{ ct := Ct.sg [gI u, gI x, Sg.c (Cl.sl (98 : Nat) L.length (2 : Nat) false), Sg.arr IntKind.u32 (5 : Nat) w, Sg.c (Cl.mref (97 : Nat))], pub := (0 : Nat), nl := false }, { ct := Ct.mp IntKind.i64 IntKind.i64 l, pub := (0 : Nat), nl := false }, { ct := Ct.rows [Kd.int IntKind.i64, Kd.int IntKind.i64] L, pub := pb, nl := false }] } else bif !decide (((scanP s.data.toList).getD ln0).k = (1 : Int)) then bif !decide (((scanP s.data.toList).getD ln0).k = (5 : Int)) then bif decide ((0 : Int) < mapGet l ((scanP s.data.toList).getD ln0).k) then some { r := vI (4 : Int), bs := [{ ct := Ct.sg [gI u, gI x, Sg.c (Cl.sl (98 : Nat) L.length (2 : Nat) false), Sg.arr IntKind.u32 (5 : Nat) w, Sg.c (Cl.mref (97 : Nat))], pub := (0 : Nat), nl := false }, { ct := Ct.mp IntKind.i64 IntKind.i64 l, pub := (0 : Nat), nl := false }, { ct := Ct.rows [Kd.int IntKind.i64, Kd.int IntKind.i64] L, pub := pb, nl := false }] } else bif decide (((scanP s.data.toList).getD ln0).k = (2 : Int)) then some { r := vI (0 : Int), bs := [{ ct := Ct.sg [gI ((scanP s.data.toList).getD ln0).a, gI x, Sg.c (Cl.sl (98 : Nat) L.length (2 : Nat) false), Sg.arr IntKind.u32 (5 : Nat) w, Sg.c (Cl.mref (97 : Nat))], pub := (0 : Nat), nl := false }, { ct := Ct.mp IntKind.i64 IntKind.i64 (mapSet l ((scanP s.data.toList).getD ln0).k t), pub := (0 : Nat), nl := false }, { ct := Ct.rows [Kd.int IntKind.i64, Kd.int IntKind.i64] L, pub := pb, nl := false }] } else bif decide (((scanP s.data.toList).getD ln0).k = (3 : Int)) then some { r := vI (0 : Int), bs := [{ ct := Ct.sg [gI u, gI ((scanP s.data.toList).getD ln0).a, Sg.c (Cl.sl (98 : Nat) L.length (2 : Nat) false), Sg.arr IntKind.u32 (5 : Nat) w, Sg.c (Cl.mref (97 : Nat))], pub := (0 : Nat), nl := false }, { ct := Ct.mp IntKind.i64 IntKind.i64 (mapSet l ((scanP s.data.toList).getD ln0).k t), pub := (0 : Nat), nl := false }, { ct := Ct.rows [Kd.int IntKind.i64, Kd.int IntKind.i64] L, pub := pb, nl := false }] } else bif decide (((scanP s.data.toList).getD ln0).k = (4 : Int)) then some { r := vI (0 : Int), bs := [{ ct := Ct.sg [gI u, gI x, Sg.c (Cl.sl (98 : Nat) L.length (2 : Nat) false), Sg.arr IntKind.u32 (5 : Nat) ((scanP s.data.toList).getD ln0).w, Sg.c (Cl.mref (97 : Nat))], pub := (0 : Nat), nl := false }, { ct := Ct.mp IntKind.i64 IntKind.i64 (mapSet l ((scanP s.data.toList).getD ln0).k t), pub := (0 : Nat), nl := false }, { ct := Ct.rows [Kd.int IntKind.i64, Kd.int IntKind.i64] L, pub := pb, nl := false }] } else bif decide (((scanP s.data.toList).getD ln0).k = (5 : Int)) then bif decide (L.length ≤ L.length) && true then bif decide (lastOk (List.take L.length L)) then bif !behP (List.take L.length L) ((scanP s.data.toList).getD ln0).a ((scanP s.data.toList).getD ln0).b then some { r := vI (10 : Int), bs := [{ ct := Ct.sg [gI u, gI x, Sg.c (Cl.sl (98 : Nat) L.length (2 : Nat) false), Sg.arr IntKind.u32 (5 : Nat) w, Sg.c (Cl.mref (97 : Nat))], pub := (0 : Nat), nl := false }, { ct := Ct.mp IntKind.i64 IntKind.i64 (mapSet l ((scanP s.data.toList).getD ln0).k t), pub := (0 : Nat), nl := false }, { ct := Ct.rows [Kd.int IntKind.i64, Kd.int IntKind.i64] L, pub := L.length * (2 : Nat), nl := false }] } else bif pubOk (L.length * (2 : Nat)) (L.length * (2 : Nat)) && decide (L.length ≤ L.length) && roomB (L.length + (1 : Nat)) (16 : Nat) then some { r := vI (0 : Int), bs := [{ ct := Ct.sg [gI u, gI x, Sg.c (Cl.sl (92 : Nat) (L.length + (1 : Nat)) (2 : Nat) false), Sg.arr IntKind.u32 (5 : Nat) w, Sg.c (Cl.mref (97 : Nat))], pub := (0 : Nat), nl := false }, { ct := Ct.mp IntKind.i64 IntKind.i64 (mapSet l ((scanP s.data.toList).getD ln0).k t), pub := (0 : Nat), nl := false }, { ct := Ct.rows [Kd.int IntKind.i64, Kd.int IntKind.i64] v1, pub := L.length * (2 : Nat), nl := false }] } else none else none else none else some { r := vI (0 : Int), bs := [{ ct := Ct.sg [gI u, gI x, Sg.c (Cl.sl (98 : Nat) L.length (2 : Nat) false), Sg.arr IntKind.u32 (5 : Nat) w, Sg.c (Cl.mref (97 : Nat))], pub := (0 : Nat), nl := false }, { ct := Ct.mp IntKind.i64 IntKind.i64 (mapSet l ((scanP s.data.toList).getD ln0).k t), pub := (0 : Nat), nl := false }, { ct := Ct.rows [Kd.int IntKind.i64, Kd.int IntKind.i64] L, pub := pb, nl := false }] } else bif decide (((scanP s.data.toList).getD ln0).k = (2 : Int)) then some { r := vI (0 : Int), bs := [{ ct := Ct.sg [gI ((scanP s.data.toList).getD ln0).a, gI x, Sg.c (Cl.sl (98 : Nat) L.length (2 : Nat) false), Sg.arr IntKind.u32 (5 : Nat) w, Sg.c (Cl.mref (97 : Nat))], pub := (0 : Nat), nl := false }, { ct := Ct.mp IntKind.i64 IntKind.i64 (mapSet l ((scanP s.data.toList).getD ln0).k t), pub := (0 : Nat), nl := false }, { ct := Ct.rows [Kd.int IntKind.i64, Kd.int IntKind.i64] L, pub := pb, nl := false }] } else bif decide (((scanP s.data.toList).getD ln0).k = (3 : Int)) then some { r := vI (0 : Int), bs := [{ ct := Ct.sg [gI u, gI ((scanP s.data.toList).getD ln0).a, Sg.c (Cl.sl (98 : Nat) L.length (2 : Nat) false), Sg.arr IntKind.u32 (5 : Nat) w, Sg.c (Cl.mref (97 : Nat))], pub := (0 : Nat), nl := false }, { ct := Ct.mp IntKind.i64 IntKind.i64 (mapSet l ((scanP s.data.toList).getD ln0).k t), pub := (0 : Nat), nl := false }, { ct := Ct.rows [Kd.int IntKind.i64, Kd.int IntKind.i64] L, pub := pb, nl := false }] } else bif decide (((scanP s.data.toList).getD ln0).k = (4 : Int)) then some { r := vI (0 : Int), bs := [{ ct := Ct.sg [gI u, gI x, Sg.c (Cl.sl (98 : Nat) L.length (2 : Nat) false), Sg.arr IntKind.u32 (5 : Nat) ((scanP s.data.toList).getD ln0).w, Sg.c (Cl.mref (97 : Nat))], pub := (0 : Nat), nl := false }, { ct := Ct.mp IntKind.i64 IntKind.i64 (mapSet l ((scanP s.data.toList).getD ln0).k t), pub := (0 : Nat), nl := false }, { ct := Ct.rows [Kd.int IntKind.i64, Kd.int IntKind.i64] L, pub := pb, nl := false }] } else bif decide (((scanP s.data.toList).getD ln0).k = (5 : Int)) then bif decide (L.length ≤ L.length) && true then bif decide (lastOk (List.take L.length L)) then bif !behP (List.take L.length L) ((scanP s.data.toList).getD ln0).a ((scanP s.data.toList).getD ln0).b then some { r := vI (10 : Int), bs := [{ ct := Ct.sg [gI u, gI x, Sg.c (Cl.sl (98 : Nat) L.length (2 : Nat) false), Sg.arr IntKind.u32 (5 : Nat) w, Sg.c (Cl.mref (97 : Nat))], pub := (0 : Nat), nl := false }, { ct := Ct.mp IntKind.i64 IntKind.i64 (mapSet l ((scanP s.data.toList).getD ln0).k t), pub := (0 : Nat), nl := false }, { ct := Ct.rows [Kd.int IntKind.i64, Kd.int IntKind.i64] L, pub := L.length * (2 : Nat), nl := false }] } else bif pubOk (L.length * (2 : Nat)) (L.length * (2 : Nat)) && decide (L.length ≤ L.length) && roomB (L.length + (1 : Nat)) (16 : Nat) then some { r := vI (0 : Int), bs := [{ ct := Ct.sg [gI u, gI x, Sg.c (Cl.sl (92 : Nat) (L.length + (1 : Nat)) (2 : Nat) false), Sg.arr IntKind.u32 (5 : Nat) w, Sg.c (Cl.mref (97 : Nat))], pub := (0 : Nat), nl := false }, { ct := Ct.mp IntKind.i64 IntKind.i64 (mapSet l ((scanP s.data.toList).getD ln0).k t), pub := (0 : Nat), nl := false }, { ct := Ct.rows [Kd.int IntKind.i64, Kd.int IntKind.i64] v1, pub := L.length * (2 : Nat), nl := false }] } else none else none else none else some { r := vI (0 : Int), bs := [{ ct := Ct.sg [gI u, gI x, Sg.c (Cl.sl (98 : Nat) L.length (2 : Nat) false), Sg.arr IntKind.u32 (5 : Nat) w, Sg.c (Cl.mref (97 : Nat))], pub := (0 : Nat), nl := false }, { ct := Ct.mp IntKind.i64 IntKind.i64 (mapSet l ((scanP s.data.toList).getD ln0).k t), pub := (0 : Nat), nl := false }, { ct := Ct.rows [Kd.int IntKind.i64, Kd.int IntKind.i64] L, pub := pb, nl := false }] } else bif decide (((scanP s.data.toList).getD ln0).k = (2 : Int)) then some { r := vI (0 : Int), bs := [{ ct := Ct.sg [gI ((scanP s.data.toList).getD ln0).a, gI x, Sg.c (Cl.sl (98 : Nat) L.length (2 : Nat) false), Sg.arr IntKind.u32 (5 : Nat) w, Sg.c (Cl.mref (97 : Nat))], pub := (0 : Nat), nl := false }, { ct := Ct.mp IntKind.i64 IntKind.i64 (mapSet l ((scanP s.data.toList).getD ln0).k t), pub := (0 : Nat), nl := false }, { ct := Ct.rows [Kd.int IntKind.i64, Kd.int IntKind.i64] L, pub := pb, nl := false }] } else bif decide (((scanP s.data.toList).getD ln0).k = (3 : Int)) then some { r := vI (0 : Int), bs := [{ ct := Ct.sg [gI u, gI ((scanP s.data.toList).getD ln0).a, Sg.c (Cl.sl (98 : Nat) L.length (2 : Nat) false), Sg.arr IntKind.u32 (5 : Nat) w, Sg.c (Cl.mref (97 : Nat))], pub := (0 : Nat), nl := false }, { ct := Ct.mp IntKind.i64 IntKind.i64 (mapSet l ((scanP s.data.toList).getD ln0).k t), pub := (0 : Nat), nl := false }, { ct := Ct.rows [Kd.int IntKind.i64, Kd.int IntKind.i64] L, pub := pb, nl := false }] } else bif decide (((scanP s.data.toList).getD ln0).k = (4 : Int)) then some { r := vI (0 : Int), bs := [{ ct := Ct.sg [gI u, gI x, Sg.c (Cl.sl (98 : Nat) L.length (2 : Nat) false), Sg.arr IntKind.u32 (5 : Nat) ((scanP s.data.toList).getD ln0).w, Sg.c (Cl.mref (97 : Nat))], pub := (0 : Nat), nl := false }, { ct := Ct.mp IntKind.i64 IntKind.i64 (mapSet l ((scanP s.data.toList).getD ln0).k t), pub := (0 : Nat), nl := false }, { ct := Ct.rows [Kd.int IntKind.i64, Kd.int IntKind.i64] L, pub := pb, nl := false }] } else bif decide (((scanP s.data.toList).getD ln0).k = (5 : Int)) then bif decide (L.length ≤ L.length) && true then bif decide (lastOk (List.take L.length L)) then bif !behP (List.take L.length L) ((scanP s.data.toList).getD ln0).a ((scanP s.data.toList).getD ln0).b then some { r := vI (10 : Int), bs := [{ ct := Ct.sg [gI u, gI x, Sg.c (Cl.sl (98 : Nat) L.length (2 : Nat) false), Sg.arr IntKind.u32 (5 : Nat) w, Sg.c (Cl.mref (97 : Nat))], pub := (0 : Nat), nl := false }, { ct := Ct.mp IntKind.i64 IntKind.i64 (mapSet l ((scanP s.data.toList).getD ln0).k t), pub := (0 : Nat), nl := false }, { ct := Ct.rows [Kd.int IntKind.i64, Kd.int IntKind.i64] L, pub := L.length * (2 : Nat), nl := false }] } else bif pubOk (L.length * (2 : Nat)) (L.length * (2 : Nat)) && decide (L.length ≤ L.length) && roomB (L.length + (1 : Nat)) (16 : Nat) then some { r := vI (0 : Int), bs := [{ ct := Ct.sg [gI u, gI x, Sg.c (Cl.sl (92 : Nat) (L.length + (1 : Nat)) (2 : Nat) false), Sg.arr IntKind.u32 (5 : Nat) w, Sg.c (Cl.mref (97 : Nat))], pub := (0 : Nat), nl := false }, { ct := Ct.mp IntKind.i64 IntKind.i64 (mapSet l ((scanP s.data.toList).getD ln0).k t), pub := (0 : Nat), nl := false }, { ct := Ct.rows [Kd.int IntKind.i64, Kd.int IntKind.i64] v1, pub := L.length * (2 : Nat), nl := false }] } else none else none else none else some { r := vI (0 : Int), bs := [{ ct := Ct.sg [gI u, gI x, Sg.c (Cl.sl (98 : Nat) L.length (2 : Nat) false), Sg.arr IntKind.u32 (5 : Nat) w, Sg.c (Cl.mref (97 : Nat))], pub := (0 : Nat), nl := false }, { ct := Ct.mp IntKind.i64 IntKind.i64 (mapSet l ((scanP s.data.toList).getD ln0).k t), pub := (0 : Nat), nl := false }, { ct := Ct.rows [Kd.int IntKind.i64, Kd.int IntKind.i64] L, pub := pb, nl := false }] } else none := by kernel_rfl
theorem lad_run (u : Int) (x : Int) (w : List Int) (l : List (Int × Int)) (s : ByteArray) (t : Int) (L : List (List D)) (pb : Nat) (hp : s.size ≤ 9223372036854775807 ∧ L.length ≤ 64 ∧ lastOk L ∧ pb ≤ L.length * 2) : ∃ fu, lad_f.run lad_e [96, 97, 98] fu [c1 (.ptr 96 0), vS s, vI t] [⟨.sg [.c (.int .i64 u), .c (.int .i64 x), .c (.sl 98 L.length 2 false), .arr .u32 5 w, .c (.mref 97)], 0, false⟩, ⟨.mp .i64 .i64 l, 0, false⟩, ⟨.rows [.int .i64, .int .i64] L, pb, false⟩] = some (adOut 97 (.sl 98 L.length 2 false) (.sl 92 (L.length + 1) 2 false) [adR L pb] [adR L (L.length * 2)] (fun v => [adR (L ++ [[.i v.a, .i v.b]]) (L.length * 2)]) u x w l L t (scanP s.data.toList)) := by
  refine ⟨0, ?_⟩
  rw [FnD.run, lad_ent]
  obtain ⟨hs, hL, ho, hpb⟩ := hp
  dsimp only
  rw [show List.take L.length L = L from List.take_length]
  refine condT hs ?_
  generalize scanP s.data.toList = o
  cases o with
  | none => rfl
  | some v =>
  unfold adOut
  simp only [Option.isSome_some, Option.getD_some, Bool.not_true, cond_false]
  by_cases k5 : v.k = 5
  · simp only [k5, decide_true, decide_false, cond_true, cond_false, Bool.not_true, Bool.not_false, (by decide : ¬ (5 : Int) = 1), (by decide : ¬ (5 : Int) = 2), (by decide : ¬ (5 : Int) = 3), (by decide : ¬ (5 : Int) = 4), ne_eq, not_true_eq_false, false_and, and_false, if_false, if_true]
    refine condB (by simp) (condT ho ?_)
    cases hb : behP L v.a v.b with
    | false => rfl
    | true =>
      change (bif (pubOk (L.length * 2) (L.length * 2) && decide (L.length ≤ L.length) && roomB (L.length + 1) 16) then _ else _) = _
      exact condB (by rw [pubOk_self, Bool.true_and, Bool.and_eq_true]; refine ⟨by simp, ?_⟩; unfold roomB; rw [Bool.and_eq_true, decide_eq_true_eq, decide_eq_true_eq]; constructor <;> omega) rfl
  by_cases k1 : v.k = 1
  · simp only [k1, decide_true, decide_false, cond_true, cond_false, Bool.not_true, Bool.not_false, (by decide : ¬ (1 : Int) = 5), (by decide : ¬ (1 : Int) = 2), (by decide : ¬ (1 : Int) = 3), (by decide : ¬ (1 : Int) = 4), ne_eq, not_true_eq_false, false_and, and_false, if_false, if_true]
    rfl
  rw [decide_eq_false k1, decide_eq_false k5]
  simp only [Bool.not_false, cond_true, cond_false]
  by_cases hg : 0 < mapGet l v.k
  · exact (condT hg (by rw [if_pos ⟨k1, k5, hg⟩]; rfl))
  refine condF hg ?_
  rw [if_neg (fun h => hg h.2.2), if_neg k5]
  by_cases k2 : v.k = 2
  · refine condT k2 ?_
    rw [if_pos k2, if_neg (by omega), if_neg (by omega)]; rfl
  refine condF k2 ?_
  by_cases k3 : v.k = 3
  · refine condT k3 ?_
    rw [if_neg (by omega), if_pos k3, if_neg (by omega)]; rfl
  refine condF k3 ?_
  by_cases k4 : v.k = 4
  · refine condT k4 ?_
    rw [if_neg (by omega), if_neg (by omega), if_pos k4]; rfl
  refine condF k4 ?_
  rw [if_neg (by omega), if_neg (by omega), if_neg (by omega)]; rfl

/-- What the caller of add goes on with. -/
noncomputable def adK (K : SV → List (Nat × Option SB) → Option Out) (fr q m b : Nat) (f : Cl) (E : Option SB) (u x : Int) (w : List Int) (l : List (Int × Int)) (L : List (List D)) (t : Int) (o : Option LnV) : Option Out :=
  bif decide (adE o l L = 0) then
    bif decide ((o.getD ln0).k = 5) then K (vI 0) [(q, some (adB m (.sl fr (L.length + 1) 2 false) u x w)), (m, some (adM (mapSet l 5 t))), (b, none), (fr, some (adR (L ++ [[.i (o.getD ln0).a, .i (o.getD ln0).b]]) (L.length * 2)))]
    else K (vI 0) [(q, some (adB m f (if (o.getD ln0).k = 2 then (o.getD ln0).a else u) (if (o.getD ln0).k = 3 then (o.getD ln0).a else x) (if (o.getD ln0).k = 4 then (o.getD ln0).w else w))), (m, some (adM (mapSet l (o.getD ln0).k t))), (b, E)]
  else K (vI (adE o l L)) [(q, none), (m, none), (b, none)]
noncomputable def c_add (fr : Nat) : SpecF := fun args bx K => match args with
  | [.one (.c (.ptr q 0)), .one (.c (.str s)), .one (.c (.int .i64 t))] => match bx q with
    | some ⟨.sg [.c (.int .i64 u), .c (.int .i64 x), .c (.sl b n 2 nl), .arr .u32 5 w, .c (.mref m)], 0, false⟩ => match bx m with
      | some ⟨.mp .i64 .i64 l, 0, false⟩ => match bx b with
        | some ⟨.rows [.int .i64, .int .i64] L, pb, nl'⟩ =>
          bif !Nat.beq q m && (!Nat.beq q b && (!Nat.beq m b && isNone (bx fr))) then
            bif decide (s.size ≤ 9223372036854775807) then
            bif decide (nl = nl') && decide (n = L.length) then
              bif nl then (bif decide (L = []) then adK K fr q m b (.val (.slice none 0 0)) none u x w l L t (scanP s.data.toList) else none)
              else (bif decide (L.length ≤ 64 ∧ lastOk L ∧ pb ≤ L.length * 2) then adK K fr q m b (.sl b L.length 2 false) (some (adR L pb)) u x w l L t (scanP s.data.toList) else none)
            else none else none else none
        | _ => none
      | _ => none
    | _ => none
  | _ => none
theorem add_nd3 {a b c : Nat} (h1 : a ≠ b) (h2 : a ≠ c) (h3 : b ≠ c) : [a, b, c].Nodup := by simp [h1, h2, h3]
theorem add_nd2 {a b : Nat} (h1 : a ≠ b) : [a, b].Nodup := by simp [h1]
theorem ladn_B (s : ByteArray) (t : Int) (hs : s.size ≤ 9223372036854775807) (u x : Int) (w : List Int) (l : List (Int × Int)) (q m b fr : Nat) (pre : Nat → Option Box) (nn : Nat) (n : Nat) (outs : List PinM) (r : SV)
    (h : ladn_f.run ladn_e [96, 97] nn [c1 (.ptr 96 0), vS s, vI t] [adB 97 (.val (.slice none 0 0)) u x w, adM l] = some ⟨r, outs.map PinM.bx⟩) (hr : litSV r = true)
    (hids : outs.map PinM.id = [96, 97] ++ ((outs.map PinM.bx).take 2).flatMap followB) (hqm : q ≠ m)
    (hq : pre q = some (adB m (.sl b n 2 true) u x w).den) (hm : pre m = some (adM l).den) (ho1 : (outs.map PinM.id).Nodup) (ho2 : (outs.map PinM.g).Nodup)
    (hout : ∀ x ∈ outs, x.bx.nl = false ∧ ((x.id = 96 ∧ x.g = q ∨ x.id = 97 ∧ x.g = m) ∨ (x.id < 96 ∧ pre x.g = none)) ∧ namesB (outs.map PinM.id) x.bx = true)
    (ups : List (Nat × Option SB)) (hk : q ∈ ups.map (·.1) ∧ m ∈ ups.map (·.1)) (hk2 : ∀ x ∈ outs, x.g ∈ ups.map (·.1))
    (hu : ∀ b bx, (b, some bx) ∈ ups → ∃ y ∈ outs, y.g = b ∧ bx = y.bx.ren (gmM [⟨96, q, adB 97 (.val (.slice none 0 0)) u x w⟩, ⟨97, m, adM l⟩] outs)) :
    FnOkB cfg 78 ([c1 (.ptr q 0), vS s, vI t].map SV.den) pre r.den (denU ups) :=
  FnD.okM2 (ins := [⟨96, q, adB 97 (.val (.slice none 0 0)) u x w⟩, ⟨97, m, adM l⟩]) ladn_g ladn_f mixed Tryz.func78 rfl rfl rfl rfl rfl hr h hids rfl
    (by simp [adB, adM]; exact ⟨Nat.le_refl _, by decide⟩) (show [96, 97].Nodup by decide) (add_nd2 hqm) ho1 ho2 pre (by
      intro y hy
      simp only [List.mem_cons, List.not_mem_nil, or_false] at hy
      rcases hy with rfl | rfl
      · refine ⟨_, hq, rfl, fun μ M h => RepB.le (l := (adB m (.sl b n 2 true) u x w).den.cells) ?_ h⟩
        exact .cons (fun _ _ _ _ h => h) (.cons (fun _ _ _ _ h => h) (.cons (nil_le b n 2) (LeCs.refl _)))
      · exact ⟨_, hm, rfl, fun μ M h => h⟩) (fun y hy => by
      obtain ⟨h1, h2, h3⟩ := hout y hy
      refine ⟨h1, ?_, h3⟩
      rcases h2 with (⟨e1, e2⟩ | ⟨e1, e2⟩) | h2
      · exact .inl ⟨_, List.mem_cons_self .., e1.symm, e2.symm⟩
      · exact .inl ⟨_, List.mem_cons_of_mem _ (List.mem_cons_self ..), e1.symm, e2.symm⟩
      · exact .inr h2) ups (by simpa using hk) hk2 hu
theorem lad_B (L : List (List D)) (pb : Nat) (s : ByteArray) (t : Int) (hs : s.size ≤ 9223372036854775807) (u x : Int) (w : List Int) (l : List (Int × Int)) (q m b fr : Nat) (pre : Nat → Option Box) (nn : Nat) (outs : List PinM) (r : SV)
    (h : lad_f.run lad_e [96, 97, 98] nn [c1 (.ptr 96 0), vS s, vI t] [adB 97 (.sl 98 L.length 2 false) u x w, adM l, adR L pb] = some ⟨r, outs.map PinM.bx⟩) (hr : litSV r = true)
    (hids : outs.map PinM.id = [96, 97] ++ ((outs.map PinM.bx).take 2).flatMap followB) (hqm : q ≠ m) (hqb : q ≠ b) (hmb : m ≠ b)
    (hq : pre q = some (adB m (.sl b L.length 2 false) u x w).den) (hm : pre m = some (adM l).den) (hb : pre b = some (adR L pb).den) (ho1 : (outs.map PinM.id).Nodup) (ho2 : (outs.map PinM.g).Nodup)
    (hout : ∀ x ∈ outs, x.bx.nl = false ∧ ((x.id = 96 ∧ x.g = q ∨ x.id = 97 ∧ x.g = m ∨ x.id = 98 ∧ x.g = b) ∨ (x.id < 96 ∧ pre x.g = none)) ∧ namesB (outs.map PinM.id) x.bx = true)
    (ups : List (Nat × Option SB)) (hk : q ∈ ups.map (·.1) ∧ m ∈ ups.map (·.1) ∧ b ∈ ups.map (·.1)) (hk2 : ∀ x ∈ outs, x.g ∈ ups.map (·.1))
    (hu : ∀ b' bx, (b', some bx) ∈ ups → ∃ y ∈ outs, y.g = b' ∧ bx = y.bx.ren (gmM [⟨96, q, adB 97 (.sl 98 L.length 2 false) u x w⟩, ⟨97, m, adM l⟩, ⟨98, b, adR L pb⟩] outs)) :
    FnOkB cfg 78 ([c1 (.ptr q 0), vS s, vI t].map SV.den) pre r.den (denU ups) :=
  FnD.okM2 (ins := [⟨96, q, adB 97 (.sl 98 L.length 2 false) u x w⟩, ⟨97, m, adM l⟩, ⟨98, b, adR L pb⟩]) lad_g lad_f mixed Tryz.func78 rfl rfl rfl rfl rfl hr h hids rfl
    (by simp [adB, adM, adR]; exact ⟨Nat.le_refl _, by decide, by decide⟩) (show [96, 97, 98].Nodup by decide) (add_nd3 hqm hqb hmb) ho1 ho2 pre (by
      intro y hy
      simp only [List.mem_cons, List.not_mem_nil, or_false] at hy
      rcases hy with rfl | rfl | rfl
      · exact ⟨_, hq, rfl, fun μ M h => h⟩
      · exact ⟨_, hm, rfl, fun μ M h => h⟩
      · exact ⟨_, hb, rfl, fun μ M h => h⟩) (fun y hy => by
      obtain ⟨h1, h2, h3⟩ := hout y hy
      refine ⟨h1, ?_, h3⟩
      rcases h2 with (⟨e1, e2⟩ | ⟨e1, e2⟩ | ⟨e1, e2⟩) | h2
      · exact .inl ⟨_, List.mem_cons_self .., e1.symm, e2.symm⟩
      · exact .inl ⟨_, List.mem_cons_of_mem _ (List.mem_cons_self ..), e1.symm, e2.symm⟩
      · exact .inl ⟨_, List.mem_cons_of_mem _ (List.mem_cons_of_mem _ (List.mem_cons_self ..)), e1.symm, e2.symm⟩
      · exact .inr h2) ups (by simpa using hk) hk2 hu
theorem add_nil (s : ByteArray) (t : Int) (hs : s.size ≤ 9223372036854775807) (u x : Int) (w : List Int) (l : List (Int × Int)) (q m b fr : Nat) (pre : Nat → Option Box) (n : Nat) (hqm : q ≠ m) (hqb : q ≠ b) (hmb : m ≠ b) (hfr : pre fr = none)
    (hq : pre q = some (adB m (.sl b n 2 true) u x w).den) (hm : pre m = some (adM l).den) (hb : pre b ≠ none) (K : SV → List (Nat × Option SB) → Option Out) (out : Out)
    (h : adK K fr q m b (.val (.slice none 0 0)) none u x w l [] t (scanP s.data.toList) = some out) :
    ∃ v ups, K v ups = some out ∧ FnOkB cfg 78 ([c1 (.ptr q 0), vS s, vI t].map SV.den) pre v.den (denU ups) := by
  obtain ⟨nn, hr⟩ := ladn_run u x w l s t hs
  have fin2 : ∀ (r : SV) (u' x' : Int) (w' : List Int) (l' : List (Int × Int)) (ups : List (Nat × Option SB)), litSV r = true →
      ladn_f.run ladn_e [96, 97] nn [c1 (.ptr 96 0), vS s, vI t] [adB 97 (.val (.slice none 0 0)) u x w, adM l] = some ⟨r, [adB 97 (.val (.slice none 0 0)) u' x' w', adM l']⟩ →
      (ups = [(q, none), (m, none), (b, none)] ∨ ups = [(q, some (adB m (.val (.slice none 0 0)) u' x' w')), (m, some (adM l')), (b, none)]) → FnOkB cfg 78 ([c1 (.ptr q 0), vS s, vI t].map SV.den) pre r.den (denU ups) := by
    intro r u' x' w' l' ups h1 h2 h3
    refine ladn_B s t hs u x w l q m b fr pre nn n [⟨96, q, adB 97 (.val (.slice none 0 0)) u' x' w'⟩, ⟨97, m, adM l'⟩] r h2 h1 rfl hqm hq hm (show [96, 97].Nodup by decide) (add_nd2 hqm) ?_ ups ?_ ?_ ?_
    · intro y hy
      simp only [List.mem_cons, List.not_mem_nil, or_false] at hy
      rcases hy with rfl | rfl
      · exact ⟨rfl, .inl (.inl ⟨rfl, rfl⟩), rfl⟩
      · exact ⟨rfl, .inl (.inr ⟨rfl, rfl⟩), rfl⟩
    · rcases h3 with rfl | rfl <;> simp
    · intro y hy
      simp only [List.mem_cons, List.not_mem_nil, or_false] at hy
      rcases h3 with rfl | rfl <;> rcases hy with rfl | rfl <;> simp
    · intro b' bx hbx
      rcases h3 with rfl | rfl
      · simp at hbx
      · simp only [List.mem_cons, List.not_mem_nil, or_false, Prod.mk.injEq, Option.some.injEq, reduceCtorEq, and_false] at hbx
        rcases hbx with ⟨rfl, rfl⟩ | ⟨rfl, rfl⟩
        · exact ⟨_, List.mem_cons_self .., rfl, rfl⟩
        · exact ⟨_, List.mem_cons_of_mem _ (List.mem_cons_self ..), rfl, rfl⟩
  unfold adK at h
  generalize scanP s.data.toList = o at h hr
  cases o with
  | none =>
    rcases bif_or h with ⟨g, h⟩ | ⟨g, h⟩
    · exact absurd (of_decide_eq_true g) (by show ¬ (4 : Int) = 0; decide)
    · exact ⟨_, _, h, fin2 _ _ _ _ _ _ rfl hr (.inl rfl)⟩
  | some v =>
    unfold adOut at hr
    simp only [Option.getD_some] at h hr
    by_cases c1' : v.k ≠ 1 ∧ v.k ≠ 5 ∧ 0 < mapGet l v.k
    · rw [if_pos c1'] at hr
      have hE : adE (some v) l [] = 4 := if_pos c1'
      rcases bif_or h with ⟨g, h⟩ | ⟨g, h⟩
      · rw [hE] at g; exact absurd (of_decide_eq_true g) (by decide)
      · exact ⟨_, _, h, fin2 _ _ _ _ _ _ rfl (by rw [hE]; exact hr) (.inl rfl)⟩
    rw [if_neg c1'] at hr
    by_cases c5 : v.k = 5
    · rw [if_pos c5] at hr
      cases hbe : behP [] v.a v.b with
      | false =>
        have hE : adE (some v) l [] = 10 := (if_neg c1').trans (if_pos ⟨c5, hbe⟩)
        rw [if_neg (by rw [hbe]; decide)] at hr
        rcases bif_or h with ⟨g, h⟩ | ⟨g, h⟩
        · rw [hE] at g; exact absurd (of_decide_eq_true g) (by decide)
        · exact ⟨_, _, h, fin2 _ _ _ _ _ _ rfl (by rw [hE]; exact hr) (.inl rfl)⟩
      | true =>
        have hE : adE (some v) l [] = 0 := (if_neg c1').trans (if_neg (fun g => by rw [hbe] at g; cases g.2))
        rw [if_pos hbe] at hr
        rcases bif_or h with ⟨g, h⟩ | ⟨g, h⟩
        · rcases bif_or h with ⟨g, h⟩ | ⟨g, h⟩
          · refine ⟨_, _, h, ?_⟩
            have nfq : fr ≠ q := fun e => by rw [e, hq] at hfr; cases hfr
            have nfm : fr ≠ m := fun e => by rw [e, hm] at hfr; cases hfr
            have nfb : fr ≠ b := fun e => hb (by rw [← e]; exact hfr)
            refine ladn_B s t hs u x w l q m b fr pre nn n [⟨96, q, adB 97 (.sl 92 1 2 false) u x w⟩, ⟨97, m, adM (mapSet l v.k t)⟩, ⟨92, fr, adR [[.i v.a, .i v.b]] 0⟩] _ hr rfl rfl hqm hq hm (show [96, 97, 92].Nodup by decide) (add_nd3 hqm nfq.symm nfm.symm) ?_ _ ?_ ?_ ?_
            · intro y hy
              simp only [List.mem_cons, List.not_mem_nil, or_false] at hy
              rcases hy with rfl | rfl | rfl
              · exact ⟨rfl, .inl (.inl ⟨rfl, rfl⟩), rfl⟩
              · exact ⟨rfl, .inl (.inr ⟨rfl, rfl⟩), rfl⟩
              · exact ⟨rfl, .inr ⟨by show 92 < 96; decide, hfr⟩, rfl⟩
            · simp
            · intro y hy
              simp only [List.mem_cons, List.not_mem_nil, or_false] at hy
              rcases hy with rfl | rfl | rfl <;> simp
            · intro b' bx hbx
              simp only [List.mem_cons, List.not_mem_nil, or_false, Prod.mk.injEq, Option.some.injEq, reduceCtorEq, and_false, false_or] at hbx
              rcases hbx with ⟨rfl, rfl⟩ | ⟨rfl, rfl⟩ | ⟨rfl, rfl⟩
              · exact ⟨_, List.mem_cons_self .., rfl, rfl⟩
              · exact ⟨_, List.mem_cons_of_mem _ (List.mem_cons_self ..), rfl, by rw [c5]; rfl⟩
              · exact ⟨_, List.mem_cons_of_mem _ (List.mem_cons_of_mem _ (List.mem_cons_self ..)), rfl, rfl⟩
          · exact absurd c5 (of_decide_eq_false g)
        · exact absurd hE (of_decide_eq_false g)
    · rw [if_neg c5] at hr
      have hE : adE (some v) l [] = 0 := (if_neg c1').trans (if_neg (fun g => c5 g.1))
      rcases bif_or h with ⟨g, h⟩ | ⟨g, h⟩
      · rcases bif_or h with ⟨g, h⟩ | ⟨g, h⟩
        · exact absurd (of_decide_eq_true g) c5
        · exact ⟨_, _, h, fin2 _ _ _ _ _ _ rfl hr (.inr rfl)⟩
      · exact absurd hE (of_decide_eq_false g)
theorem add_own (L : List (List D)) (pb : Nat) (hL : L.length ≤ 64) (hlo : lastOk L) (hpb : pb ≤ L.length * 2) (s : ByteArray) (t : Int) (hs : s.size ≤ 9223372036854775807) (u x : Int) (w : List Int) (l : List (Int × Int)) (q m b fr : Nat) (pre : Nat → Option Box) (hqm : q ≠ m) (hqb : q ≠ b) (hmb : m ≠ b) (hfr : pre fr = none)
    (hq : pre q = some (adB m (.sl b L.length 2 false) u x w).den) (hm : pre m = some (adM l).den) (hb : pre b = some (adR L pb).den) (K : SV → List (Nat × Option SB) → Option Out) (out : Out)
    (h : adK K fr q m b (.sl b L.length 2 false) (some (adR L pb)) u x w l L t (scanP s.data.toList) = some out) :
    ∃ v ups, K v ups = some out ∧ FnOkB cfg 78 ([c1 (.ptr q 0), vS s, vI t].map SV.den) pre v.den (denU ups) := by
  obtain ⟨nn, hr⟩ := lad_run u x w l s t L pb ⟨hs, hL, hlo, hpb⟩
  have fin2 : ∀ (r : SV) (u' x' : Int) (w' : List Int) (l' : List (Int × Int)) (pb' : Nat) (ups : List (Nat × Option SB)), litSV r = true →
      lad_f.run lad_e [96, 97, 98] nn [c1 (.ptr 96 0), vS s, vI t] [adB 97 (.sl 98 L.length 2 false) u x w, adM l, adR L pb] = some ⟨r, [adB 97 (.sl 98 L.length 2 false) u' x' w', adM l', adR L pb']⟩ →
      (ups = [(q, none), (m, none), (b, none)] ∨ ups = [(q, some (adB m (.sl b L.length 2 false) u' x' w')), (m, some (adM l')), (b, some (adR L pb'))]) → FnOkB cfg 78 ([c1 (.ptr q 0), vS s, vI t].map SV.den) pre r.den (denU ups) := by
    intro r u' x' w' l' pb' ups h1 h2 h3
    refine lad_B L pb s t hs u x w l q m b fr pre nn [⟨96, q, adB 97 (.sl 98 L.length 2 false) u' x' w'⟩, ⟨97, m, adM l'⟩, ⟨98, b, adR L pb'⟩] r h2 h1 rfl hqm hqb hmb hq hm hb (show [96, 97, 98].Nodup by decide) (add_nd3 hqm hqb hmb) ?_ ups ?_ ?_ ?_
    · intro y hy
      simp only [List.mem_cons, List.not_mem_nil, or_false] at hy
      rcases hy with rfl | rfl | rfl
      · exact ⟨rfl, .inl (.inl ⟨rfl, rfl⟩), rfl⟩
      · exact ⟨rfl, .inl (.inr (.inl ⟨rfl, rfl⟩)), rfl⟩
      · exact ⟨rfl, .inl (.inr (.inr ⟨rfl, rfl⟩)), rfl⟩
    · rcases h3 with rfl | rfl <;> simp
    · intro y hy
      simp only [List.mem_cons, List.not_mem_nil, or_false] at hy
      rcases h3 with rfl | rfl <;> rcases hy with rfl | rfl | rfl <;> simp
    · intro b' bx hbx
      rcases h3 with rfl | rfl
      · simp at hbx
      · simp only [List.mem_cons, List.not_mem_nil, or_false, Prod.mk.injEq, Option.some.injEq, reduceCtorEq, and_false] at hbx
        rcases hbx with ⟨rfl, rfl⟩ | ⟨rfl, rfl⟩ | ⟨rfl, rfl⟩
        · exact ⟨_, List.mem_cons_self .., rfl, rfl⟩
        · exact ⟨_, List.mem_cons_of_mem _ (List.mem_cons_self ..), rfl, rfl⟩
        · exact ⟨_, List.mem_cons_of_mem _ (List.mem_cons_of_mem _ (List.mem_cons_self ..)), rfl, rfl⟩
  unfold adK at h
  generalize scanP s.data.toList = o at h hr
  cases o with
  | none =>
    rcases bif_or h with ⟨g, h⟩ | ⟨g, h⟩
    · exact absurd (of_decide_eq_true g) (by show ¬ (4 : Int) = 0; decide)
    · exact ⟨_, _, h, fin2 _ _ _ _ _ _ _ rfl hr (.inl rfl)⟩
  | some v =>
    unfold adOut at hr
    simp only [Option.getD_some] at h hr
    by_cases c1' : v.k ≠ 1 ∧ v.k ≠ 5 ∧ 0 < mapGet l v.k
    · rw [if_pos c1'] at hr
      have hE : adE (some v) l L = 4 := if_pos c1'
      rcases bif_or h with ⟨g, h⟩ | ⟨g, h⟩
      · rw [hE] at g; exact absurd (of_decide_eq_true g) (by decide)
      · exact ⟨_, _, h, fin2 _ _ _ _ _ _ _ rfl (by rw [hE]; exact hr) (.inl rfl)⟩
    rw [if_neg c1'] at hr
    by_cases c5 : v.k = 5
    · rw [if_pos c5] at hr
      cases hbe : behP L v.a v.b with
      | false =>
        have hE : adE (some v) l L = 10 := (if_neg c1').trans (if_pos ⟨c5, hbe⟩)
        rw [if_neg (by rw [hbe]; decide)] at hr
        rcases bif_or h with ⟨g, h⟩ | ⟨g, h⟩
        · rw [hE] at g; exact absurd (of_decide_eq_true g) (by decide)
        · exact ⟨_, _, h, fin2 _ _ _ _ _ _ _ rfl (by rw [hE]; exact hr) (.inl rfl)⟩
      | true =>
        have hE : adE (some v) l L = 0 := (if_neg c1').trans (if_neg (fun g => by rw [hbe] at g; cases g.2))
        rw [if_pos hbe] at hr
        rcases bif_or h with ⟨g, h⟩ | ⟨g, h⟩
        · rcases bif_or h with ⟨g, h⟩ | ⟨g, h⟩
          · refine ⟨_, _, h, ?_⟩
            have nfq : fr ≠ q := fun e => by rw [e, hq] at hfr; cases hfr
            have nfm : fr ≠ m := fun e => by rw [e, hm] at hfr; cases hfr
            have nfb : fr ≠ b := fun e => by rw [e, hb] at hfr; cases hfr
            refine lad_B L pb s t hs u x w l q m b fr pre nn [⟨96, q, adB 97 (.sl 92 (L.length + 1) 2 false) u x w⟩, ⟨97, m, adM (mapSet l v.k t)⟩, ⟨92, fr, adR (L ++ [[D.i v.a, D.i v.b]]) (L.length * 2)⟩] _ hr rfl rfl hqm hqb hmb hq hm hb (show [96, 97, 92].Nodup by decide) (add_nd3 hqm nfq.symm nfm.symm) ?_ _ ?_ ?_ ?_
            · intro y hy
              simp only [List.mem_cons, List.not_mem_nil, or_false] at hy
              rcases hy with rfl | rfl | rfl
              · exact ⟨rfl, .inl (.inl ⟨rfl, rfl⟩), rfl⟩
              · exact ⟨rfl, .inl (.inr (.inl ⟨rfl, rfl⟩)), rfl⟩
              · exact ⟨rfl, .inr ⟨by show 92 < 96; decide, hfr⟩, rfl⟩
            · simp
            · intro y hy
              simp only [List.mem_cons, List.not_mem_nil, or_false] at hy
              rcases hy with rfl | rfl | rfl <;> simp
            · intro b' bx hbx
              simp only [List.mem_cons, List.not_mem_nil, or_false, Prod.mk.injEq, Option.some.injEq, reduceCtorEq, and_false, false_or] at hbx
              rcases hbx with ⟨rfl, rfl⟩ | ⟨rfl, rfl⟩ | ⟨rfl, rfl⟩
              · exact ⟨_, List.mem_cons_self .., rfl, rfl⟩
              · exact ⟨_, List.mem_cons_of_mem _ (List.mem_cons_self ..), rfl, by rw [c5]; rfl⟩
              · exact ⟨_, List.mem_cons_of_mem _ (List.mem_cons_of_mem _ (List.mem_cons_self ..)), rfl, rfl⟩
          · exact absurd c5 (of_decide_eq_false g)
        · exact absurd hE (of_decide_eq_false g)
    · rw [if_neg c5] at hr
      have hE : adE (some v) l L = 0 := (if_neg c1').trans (if_neg (fun g => c5 g.1))
      rcases bif_or h with ⟨g, h⟩ | ⟨g, h⟩
      · rcases bif_or h with ⟨g, h⟩ | ⟨g, h⟩
        · exact absurd (of_decide_eq_true g) c5
        · exact ⟨_, _, h, fin2 _ _ _ _ _ _ _ rfl hr (.inr rfl)⟩
      · exact absurd hE (of_decide_eq_false g)
theorem c_add_ok (fr : Nat) : SpecOk cfg 78 (c_add fr) := by
  intro args bx K out h
  unfold c_add at h
  split at h
  rotate_left
  · cases h
  split at h
  rotate_left
  · cases h
  rename_i hq
  split at h
  rotate_left
  · cases h
  rename_i hm
  split at h
  rotate_left
  · cases h
  rename_i hb
  obtain ⟨g1, ha⟩ := bif_some h
  clear h
  obtain ⟨g2, hb'⟩ := bif_some ha
  clear ha
  obtain ⟨g3, h⟩ := bif_some hb'
  clear hb'
  simp only [Bool.and_eq_true, Bool.not_eq_true', decide_eq_true_eq] at g1 g3
  obtain ⟨n1, n2, n3, n4⟩ := g1
  obtain ⟨e1, e2⟩ := g3
  have ne : ∀ {a b : Nat}, Nat.beq a b = false → a ≠ b := fun h e => by rw [e, Nat.beq_refl] at h; cases h
  have hs := of_decide_eq_true g2
  subst e1 e2
  have hfr := n4
  rcases bif_or h with ⟨g, ha⟩ | ⟨g, ha⟩
  · clear h
    obtain ⟨g4, h⟩ := bif_some ha
    clear ha
    have g4 := of_decide_eq_true g4
    subst g g4
    obtain ⟨v, ups, h1, h2⟩ := add_nil _ _ hs _ _ _ _ _ _ _ fr (denB bx) _ (ne n1) (ne n2) (ne n3) (by unfold denB; cases e : bx fr with
      | none => rfl
      | some _ => rw [e] at hfr; cases hfr) (by unfold denB; rw [hq]; rfl) (by unfold denB; rw [hm]; rfl) (by unfold denB; rw [hb]; simp) K out h
    exact ⟨v, ups, h1, .inl h2, by simp [isTupS]⟩
  · clear h
    obtain ⟨g4, h⟩ := bif_some ha
    clear ha
    obtain ⟨a1, a2, a3⟩ := of_decide_eq_true g4
    subst g
    obtain ⟨v, ups, h1, h2⟩ := add_own _ _ a1 a2 a3 _ _ hs _ _ _ _ _ _ _ fr (denB bx) (ne n1) (ne n2) (ne n3) (by unfold denB; cases e : bx fr with
      | none => rfl
      | some _ => rw [e] at hfr; cases hfr) (by unfold denB; rw [hq]; rfl) (by unfold denB; rw [hm]; rfl) (by unfold denB; rw [hb]; rfl) K out h
    exact ⟨v, ups, h1, .inl h2, by simp [isTupS]⟩
end Go.Proofs.YtldofkogmkfpjaaGreatDoor
