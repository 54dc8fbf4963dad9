/-
  LexLines.
-/
import Derived.Test.YtldofkogmkfpjaaDoorDeSyLexA
import Derived.Test.YtldofkogmkfpjaaDoorDeSyLexRef
namespace Go.Proofs.YtldofkogmkfpjaaDoor
open Go Go.Ev Go.Sy
set_option linter.unusedSimpArgs false
set_option linter.unusedVariables false
set_option maxRecDepth 10000
set_option maxHeartbeats 4000000
/-! ### epactlaw10.LexLines -/
noncomputable def lxlines_e : Ev' := ⟨Tryd.prog, glob, Γof [(41, c_llines), (42, c_rlines), (39, c_lxans)]⟩
theorem lxlines_g : Gd cfg lxlines_e := gd (env_cons c_llines_ok (env_cons c_rlines_ok (env_cons c_lxans_ok (env_nil _))))
noncomputable def lxlines_f : FnD := ⟨12, Tryd.f12, shOf [(0, ⟨31, [], [], [(3, .c (.rows [.str])), (4, .c (.rows [.str])), (5, .c (.int .i64))]⟩)], Tryd.f12.resultTypes.toList⟩
theorem lxlines_ent (h : Hd) (s : ByteArray) : lxlines_f.ent lxlines_e [] h [vS s] [] = bif decide (s.size ≤ (1000000000 : Nat)) then bif decide (s.size ≤ (1000000000 : Nat)) then bif !decide ((↑(List.map (fun l => [D.s (tx l)]) (linesP s.data.toList)).length : Int) = (↑(List.map (fun l => [D.s (tx l)]) (linesP s.data.toList)).length : Int)) then ret (vB false) else h (0 : Nat) [Lf.r (List.map (fun l => [D.s (tx l)]) (linesP s.data.toList)), Lf.r (List.map (fun l => [D.s (tx l)]) (linesP s.data.toList)), Lf.i (0 : Int)] else none else none := by kernel_rfl
theorem lxlines_l0 (h : Hd) (r0 : List (List D)) (r1 : List (List D)) (i2 : Int) : lxlines_f.seg lxlines_e [] h 0 [.r r0, .r r1, .i i2] = bif decide (i2 < (↑r0.length : Int)) then bif inB i2 r0.length then bif inB i2 r1.length then bif !eqB ((r0.getD i2.toNat []).getD (0 : Nat) (D.i (0 : Int))).toS ((r1.getD i2.toNat []).getD (0 : Nat) (D.i (0 : Int))).toS then ret (vB false) else h (0 : Nat) [Lf.r r0, Lf.r r1, Lf.i (IntKind.i64.wrap (i2 + (1 : Int)))] else none else none else ret (vB true) := by kernel_rfl

theorem lines_len : ∀ (l acc : List UInt8), (linesA acc l).length ≤ l.length + 1
  | [], acc => by rw [linesA]; split <;> simp
  | c :: l, acc => by
    rw [linesA, List.length_cons]
    split
    · have := lines_len l []; rw [List.length_cons]; omega
    · have := lines_len l (acc ++ [c]); omega
theorem eqB_self (s : ByteArray) : eqB s s = true := by unfold eqB; exact beq_self_eq_true _
theorem lxlines_loop (r : List (List D)) (hr : r.length ≤ 1000000000) : ∀ (k j : Nat), j ≤ r.length → r.length - j < k → lxlines_f.H lxlines_e [] k 0 [.r r, .r r, .i j] = ret (vB true) := by
  intro k
  induction k with
  | zero => intro j _ h; omega
  | succ k ih =>
    intro j hj hk
    rw [FnD.H_succ, lxlines_l0]
    by_cases h : j < r.length
    · have hin : inB (j : Int) r.length = true := (inB_iff _ _).2 (by omega)
      refine condT (by omega) (condB hin (condB hin (condN (by rw [eqB_self]; rfl) ?_)))
      rw [show IntKind.i64.wrap ((j : Int) + 1) = ((j + 1 : Nat) : Int) by rw [IntWalk.i64_in _ (by omega)]; omega]
      exact ih (j + 1) (by omega) (by omega)
    · exact condF (by omega) rfl
theorem lxlines_run (s : ByteArray) (hp : s.size ≤ 1048576) : ∃ fu, lxlines_f.run lxlines_e [] fu [vS s] [] = some ⟨vB true, []⟩ := by
  obtain ⟨l, rfl, hl⟩ := tx_get s
  rw [tx_size] at hp
  have hlen : ((linesP l).map fun l => [D.s (tx l)]).length ≤ 1000000000 := by
    rw [List.length_map]; have := lines_len l []; unfold linesP; omega
  refine ⟨((linesP l).map fun l => [D.s (tx l)]).length + 1, ?_⟩
  rw [FnD.run, lxlines_ent, tx_toList]
  exact condT (by rw [tx_size]; omega) (condT (by rw [tx_size]; omega) (condN (by rw [decide_eq_true rfl]; rfl) (lxlines_loop _ hlen _ 0 (by omega) (by omega))))
theorem lxlines_ok (s : ByteArray) (hp : s.size ≤ 1048576) : FnOk cfg 12 ([vS s].map SV.den) (vB true : SV).den := by
  obtain ⟨nn, h⟩ := lxlines_run s hp
  exact FnD.ok lxlines_g lxlines_f mixed Tryd.func12 rfl rfl rfl rfl rfl rfl h
noncomputable def c_lxlines : SpecF := fun args _ K => match args with
  | [.one (.c (.str s))] => bif decide (s.size ≤ 1048576) then K (vB true) [] else none
  | _ => none
theorem c_lxlines_ok : SpecOk cfg 12 c_lxlines := by
  intro args bx K out h
  unfold c_lxlines at h
  split at h
  · obtain ⟨hp, h⟩ := bif_some h
    exact ⟨_, _, h, .inl (lxlines_ok _ (of_decide_eq_true hp) _), by simp [isTupS]⟩
  · cases h
end Go.Proofs.YtldofkogmkfpjaaDoor
