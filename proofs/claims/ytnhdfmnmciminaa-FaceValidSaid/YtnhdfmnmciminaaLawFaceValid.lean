/-
  FaceValid returns true for every input, and never panics; the input reads as it did. No conditions.
-/
import Derived.Test.YtnhdfmnmciminaaRows
import Derived.Test.YtnhdfmnmciminaaT1
import Derived.WalkKit
import Derived.ProofKit
import Derived.OpenShut
import Derived.ShutString
import Derived.ChangeOld
import Derived.Below
import Derived.Carry
import Derived.SizedLaws
import Derived.Lib.SmallJoins
namespace Go.Proofs.Ytnhdfmnmciminaa.faceValid
open Go.ChangeShapes Go.WideShapes Go.ChangeAt Go.RowKit Go.Joins
open Go.ChangeMaps (open_string shut_string)
set_option linter.unusedVariables false
theorem own : ownKnob Try.prog.godebug = none := by kernel_rfl
theorem laid : laidOutB Try.prog = true := by kernel_rfl
theorem trod_mk {H : Type} {enc : TypeId × Value → H} {P : Program} {w : World} {base : Nat} {spare : Nat → Bool} {held : Bool} {t : TypeId} {k : IntKind} {a : Int} (hu : P.underlying t = some (.int k)) (hw : (Lit.int k a).wf = true) :
    ∃ n, DataW.trod enc P w base spare held n t [.int k a] = some (.lit (.int k a), []) := ⟨1, by simp [DataW.trod, hu, hw]⟩
set_option maxRecDepth 100000 in
theorem lifted (os : Os) (started : os.Started) (H : Type) (enc : TypeId × Value → H) :
    ReturnsInHanded {} Try.checked os 3 .any (Rows.faceValidSpec.pre6 enc Try.prog Try.f3 Rows.faceValidRow.domain false) (Rows.faceValidSpec.post enc Try.prog Try.f3 false true false false) := by
  refine returnsInHanded_of_change_sized (C := Try.checked) own started (by kernel_rfl) Try.func3
    (ChangeSpec.witness6 (enc := enc) (C := Try.checked) false ⟨#[], #[.agg #[.int .i64 0, .int .i64 0, .int .i64 0, .int .i64 0]], []⟩ 8 (by kernel_rfl) (by kernel_rfl) (by kernel_rfl) (by kernel_rfl)) ?_
  intro W base args ds gs before hval0 hW hcnd hsz0 _
  have hval : ∀ (j : Nat) t v, Try.f3.params[j]? = some t → args[j]? = some v → Value.okWide Try.prog W .any base t v := hval0
  have hW' := hW
  obtain ⟨p, q, hA0, hV, rfl, hfz, hnd⟩ := hW
  have hA : DataW.TrodAll enc Try.prog W 0 (fun _ => true) true Try.f3.params.toList args.toList ds p := hA0
  rw [Try.params3] at hA hval
  obtain ⟨v0, vs0, d0, ds0, p0, q0, hargs, rfl, rfl, h0, r0⟩ := trodAll_cons hA
  obtain ⟨rfl, rfl, rfl⟩ := trodAll_nil r0
  obtain rfl : args = #[v0] := by cases args; simp_all
  obtain ⟨rfl, rfl⟩ := trodVars_none hV
  obtain ⟨c0, c1, c2, c3, y0, y1, y2, y3, m, rfl, rfl, rfl, hy0, hy1, hy2, hy3⟩ := open_agg4 Try.underlying23 (by kernel_rfl) (show Try.prog.cellsOf 23 = 4 by kernel_rfl) (hval 0 23 v0 rfl rfl) h0
  obtain ⟨b0, e0, rfl, wb0⟩ := DataW.trod_int Try.underlying3 hy0
  obtain ⟨b1, e1, rfl, wb1⟩ := DataW.trod_int Try.underlying3 hy1
  obtain ⟨b2, e2, rfl, wb2⟩ := DataW.trod_int Try.underlying3 hy2
  obtain ⟨b3, e3, rfl, wb3⟩ := DataW.trod_int Try.underlying3 hy3
  simp at e0 e1 e2 e3
  subst e0 e1 e2 e3
  clear hA0 hval0 hsz0
  refine (faceValid_walk b0 b1 b2 b3 W).mono fun e W' ⟨he, bel⟩ => ?_
  subst he
  exact ⟨_, rfl, _, _, _, [], _, [], hW', trodAll_mk1 (shut_bool Try.underlying4 _), (trodAll_cons_mk (shut_agg4 (y0 := (.lit (.int .i64 b0), [])) (y1 := (.lit (.int .i64 b1), [])) (y2 := (.lit (.int .i64 b2), [])) (y3 := (.lit (.int .i64 b3), [])) Try.underlying23 (by kernel_rfl) (show Try.prog.cellsOf 23 = 4 by kernel_rfl) (trod_mk Try.underlying3 wb0) (trod_mk Try.underlying3 wb1) (trod_mk Try.underlying3 wb2) (trod_mk Try.underlying3 wb3)) trodAll_mk0), rfl, bel.frame _, fun h => by cases h⟩
theorem over : Rows.faceValidRow.holds Try.pinned (OpenSpec.ofChange Rows.faceValidSpec) :=
  OpenClaim.holds_of_wide 3 Try.f3 rfl rfl rfl rfl rfl rfl rfl ⟨rfl, rfl, rfl, rfl, rfl⟩ rfl rfl rfl rfl rfl (by kernel_rfl) Try.func3 (by kernel_rfl)
    (of_decide_eq_true (by kernel_rfl)) (by unfold Func.isWrapper; first | (rw [if_pos (by decide +kernel)]; kernel_rfl) | (rw [if_neg (by decide +kernel)]; exact ⟨rfl, rfl⟩))
    (fun os started H enc _ => lifted os started H enc)
theorem proved : Rows.FaceValidSaid := over
#print axioms proved
end Go.Proofs.Ytnhdfmnmciminaa.faceValid
namespace Go.Proofs.Ytnhdfmnmciminaa
theorem faceValid_holds : Rows.FaceValidSaid := faceValid.proved
end Go.Proofs.Ytnhdfmnmciminaa
