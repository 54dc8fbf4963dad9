/-
  ShaPads returns true for every input, and never panics; the input reads as it did. No conditions.
-/
import Derived.Test.YtnhdfmnmciminaaRows
import Derived.Test.YtnhdfmnmciminaaEvOpen
import Derived.Test.YtnhdfmnmciminaaShT9
import Derived.WalkKit
import Derived.ProofKit
import Derived.OpenShut
import Derived.ShutString
import Derived.ChangeOld
import Derived.Below
import Derived.Carry
import Derived.SizedLaws
import Derived.Lib.SmallJoins
namespace Go.Proofs.Ytnhdfmnmciminaa.shaPads
open Go.ChangeShapes Go.WideShapes Go.ChangeAt Go.RowKit Go.Joins Go.Ev Go.Proofs.Ytnhdfmnmciminaa.Sh
set_option linter.unusedVariables false
theorem own : ownKnob Try.prog.godebug = none := by kernel_rfl
theorem laid : laidOutB Try.prog = true := by kernel_rfl
set_option maxRecDepth 100000 in
theorem lifted (os : Os) (started : os.Started) (H : Type) (enc : TypeId × Value → H) :
    ReturnsInHanded {} Try.checked os 7 .any (Rows.shaPadsSpec.pre6 enc Try.prog Try.f7 Rows.shaPadsRow.domain false) (Rows.shaPadsSpec.post enc Try.prog Try.f7 false true false false) := by
  refine returnsInHanded_of_change_sized (C := Try.checked) own started (by kernel_rfl) Try.func7
    (ChangeSpec.witness6 (enc := enc) (C := Try.checked) false ⟨#[], #[.int .u8 0, .int .u8 0, .int .u8 0], []⟩ 8 (by kernel_rfl) (by kernel_rfl) (by kernel_rfl) (by kernel_rfl)) ?_
  intro W base args ds gs before hval0 hW hcnd hsz0 _
  have hsz : (DataW.weightsEach Try.prog (Try.f7.params.toList ++ Rows.shaPadsSpec.plain.varTypes Try.prog) (ds ++ gs)).all (· ≤ reachBytes) = true := hsz0
  have hval : ∀ (j : Nat) t v, Try.f7.params[j]? = some t → args[j]? = some v → Value.okWide Try.prog W .any base t v := hval0
  have hW' := hW
  obtain ⟨p, q, hA0, hV, rfl, hfz, hnd⟩ := hW
  have hA : DataW.TrodAll enc Try.prog W 0 (fun _ => true) true Try.f7.params.toList args.toList ds p := hA0
  rw [Try.params7] at hA hval hsz
  obtain ⟨v0, vs0, d0, ds0, p0, q0, hargs, rfl, rfl, h0, r0⟩ := trodAll_cons hA
  obtain ⟨v1, vs1, d1, ds1, p1, q1, rfl, rfl, rfl, h1, r1⟩ := trodAll_cons r0
  obtain ⟨v2, vs2, d2, ds2, p2, q2, rfl, rfl, rfl, h2, r2⟩ := trodAll_cons r1
  obtain ⟨rfl, rfl, rfl⟩ := trodAll_nil r2
  obtain rfl : args = #[v0, v1, v2] := by cases args; simp_all
  obtain ⟨rfl, rfl⟩ := trodVars_none hV
  clear hA0 hval0 hsz0
  have hk0 := h0
  have hlt0 : ∀ y ∈ p0, y.block < W.heap.size := fun y hy => by simpa using hW'.lt y (by simp [hy])
  have hi0 : ∃ a, v0 = .int .u8 a ∧ (Lit.int .u8 a).wf = true := by
    obtain ⟨a, e, _, _, w⟩ := open_int Try.underlying5 (hval 0 5 v0 rfl rfl) h0
    exact ⟨a, e, w⟩
  obtain ⟨a0, rfl, w0⟩ := hi0
  obtain ⟨n0, rfl, hn0⟩ := u8_nat w0
  have hk1 := h1
  have hlt1 : ∀ y ∈ p1, y.block < W.heap.size := fun y hy => by simpa using hW'.lt y (by simp [hy])
  have hi1 : ∃ a, v1 = .int .u8 a ∧ (Lit.int .u8 a).wf = true := by
    obtain ⟨a, e, _, _, w⟩ := open_int Try.underlying5 (hval 1 5 v1 rfl rfl) h1
    exact ⟨a, e, w⟩
  obtain ⟨a1, rfl, w1⟩ := hi1
  obtain ⟨n1, rfl, hn1⟩ := u8_nat w1
  have hk2 := h2
  have hlt2 : ∀ y ∈ p2, y.block < W.heap.size := fun y hy => by simpa using hW'.lt y (by simp [hy])
  have hi2 : ∃ a, v2 = .int .u8 a ∧ (Lit.int .u8 a).wf = true := by
    obtain ⟨a, e, _, _, w⟩ := open_int Try.underlying5 (hval 2 5 v2 rfl rfl) h2
    exact ⟨a, e, w⟩
  obtain ⟨a2, rfl, w2⟩ := hi2
  obtain ⟨n2, rfl, hn2⟩ := u8_nat w2
  refine (shaPads_walk n0 hn0 n1 hn1 n2 hn2 W).mono fun e W' ⟨he, bel⟩ => ?_
  subst he
  exact ⟨_, rfl, _, _, _, [], _, [], hW', trodAll_mk1 (shut_bool Try.underlying4 _), (trodAll_cons_mk (Below.trod laid (by kernel_rfl) (of_decide_eq_true (by kernel_rfl)) hk0 bel hlt0) (trodAll_cons_mk (Below.trod laid (by kernel_rfl) (of_decide_eq_true (by kernel_rfl)) hk1 bel hlt1) (trodAll_cons_mk (Below.trod laid (by kernel_rfl) (of_decide_eq_true (by kernel_rfl)) hk2 bel hlt2) trodAll_mk0))), rfl, bel.frame _, fun h => by cases h⟩
theorem over : Rows.shaPadsRow.holds Try.pinned (OpenSpec.ofChange Rows.shaPadsSpec) :=
  OpenClaim.holds_of_wide 7 Try.f7 rfl rfl rfl rfl rfl rfl rfl ⟨rfl, rfl, rfl, rfl, rfl⟩ rfl rfl rfl rfl rfl (by kernel_rfl) Try.func7 (by kernel_rfl)
    (of_decide_eq_true (by kernel_rfl)) (by unfold Func.isWrapper; first | (rw [if_pos (by decide +kernel)]; kernel_rfl) | (rw [if_neg (by decide +kernel)]; exact ⟨rfl, rfl⟩))
    (fun os started H enc _ => lifted os started H enc)
theorem proved : Rows.ShaPadsSaid := over
#print axioms proved
end Go.Proofs.Ytnhdfmnmciminaa.shaPads
namespace Go.Proofs.Ytnhdfmnmciminaa
theorem shaPads_holds : Rows.ShaPadsSaid := shaPads.proved
end Go.Proofs.Ytnhdfmnmciminaa
