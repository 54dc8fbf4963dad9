/-
  The law ShaOwn: what is summed stays as it is.
-/
import Derived.Test.YtnhdfmnmciminaaShT7
import Derived.Test.YtnhdfmnmciminaaSyEnv
namespace Go.Proofs.Ytnhdfmnmciminaa.Sh
open Go Go.Ev Go.Sy
set_option linter.unusedSimpArgs false
set_option linter.unusedVariables false
set_option maxRecDepth 10000
set_option maxHeartbeats 4000000
open Go.Sy
noncomputable def glob : Nat → Option (List Ec) := fun _ => none
theorem gd {Γ : Env} (h : EnvOk cfg Γ) : Gd cfg ⟨Try.prog, glob, Γ⟩ := ⟨rfl, fun _ => rfl, h⟩
def natL (l : List Int) : List Nat := l.map Int.toNat
noncomputable def c_ans : SpecF := fun args _ K => match args with
  | [] => K (vB true) []
  | _ => none
noncomputable def c_sum : SpecF := fun args _ K => match args with
  | [.one (.c (.ints .u8 l))] => bif decide (l.length ≤ 140737488355328 ∧ ∀ x ∈ l, 0 ≤ x ∧ x < 256) then K (agg [.arr .u8 20 (castL (sumN (natL l)))]) [] else none
  | _ => none
theorem c_ans_ok : SpecOk cfg 14 c_ans := by
  intro args bx K out h
  unfold c_ans at h
  split at h
  · exact ⟨_, _, h, ans_ok _, by simp⟩
  · cases h
theorem natL_cast {l : List Int} (h : ∀ x ∈ l, 0 ≤ x ∧ x < 256) : castL (natL l) = l := by
  unfold natL castL
  rw [List.map_map]
  conv => rhs; rw [← List.map_id l]
  refine List.map_congr_left fun x hx => ?_
  simp only [Function.comp_apply, id]
  exact Int.toNat_of_nonneg (h x hx).1
theorem c_sum_ok : SpecOk cfg 16 c_sum := by
  intro args bx K out h
  unfold c_sum at h
  split at h
  · rename_i l
    obtain ⟨hp, h⟩ := bif_some h
    have hp := of_decide_eq_true hp
    have e := natL_cast hp.2
    have := sum_ok (natL l) ⟨by simpa [natL] using hp.1, fun x hx => by
      obtain ⟨y, hy, rfl⟩ := List.mem_map.1 hx
      have := hp.2 y hy
      omega⟩ (denB bx)
    refine ⟨_, _, h, ?_, by simp [isTupS]⟩
    have e1 : BL (natL l) = (c1 (.ints .u8 l)).den := by
      show AV.c (.list (natL l).length (IL .u8 (castL (natL l)))) = AV.c (.list l.length (IL .u8 l))
      rw [e]; simp [natL]
    have e2 : AV.agg (IL .u8 (castL (sumN (natL l)))) = (Go.Sy.agg [.arr .u8 20 (castL (sumN (natL l)))]).den := by
      show _ = AV.agg (arrL .u8 20 _ ++ [])
      have h20 : (castL (sumN (natL l))).length = 20 := by simp [castL, sumN_len]
      rw [List.append_nil, ← h20, arrL_full]
    rw [e1, e2] at this
    exact this
  · cases h
/-! ### epactlaw09.ShaOwn -/
noncomputable def own_e : Ev' := ⟨Try.prog, glob, Γof [(14, c_ans), (16, c_sum)]⟩
theorem own_g : Gd cfg own_e := gd (env_cons c_ans_ok (env_cons c_sum_ok (env_nil _)))
noncomputable def own_f : FnD := ⟨8, Try.f8, shOf [(0, ⟨59, [(5, ⟨.ints .u8, true, false⟩)], [(6, [.arr .u8 20])], [(0, .c (.ints .u8)), (1, .c (.int .u8)), (5, .c (.sl 5 1)), (6, .c (.ptr 6 0)), (7, .c (.int .i64))]⟩)], Try.f8.resultTypes.toList⟩
theorem own_ent (h : Hd) (l : List Int) (a : Int) : own_f.ent own_e [] h [c1 (.ints .u8 l), c1 (.int .u8 a)] [] = let v1 : Nat := 0 + l.length + 10; let v2 : List Int := List.take (0 + l.length) l ++ [a, 7, 7, 7, 7, 7, 7, 7, 7, 7]; let v3 : Nat := v2.length; let v4 : List Int := piece (List.take v1 v2) 0 (↑l.length : Int); let v5 : Nat := v4.length; bif roomB (0 + l.length) 1 then bif decide (0 + l.length ≤ l.length) && roomB v1 1 then bif decide (v1 ≤ v3) && slB 0 (↑l.length : Int) v1 then bif decide (v5 ≤ 140737488355328 ∧ ∀ (x : Int), x ∈ piece (List.take v1 (List.take (0 + l.length) (List.take 0 [] ++ l) ++ List.take 10 [a, 7, 7, 7, 7, 7, 7, 7, 7, 7])) 0 (↑l.length : Int) → 0 ≤ x ∧ x < 256) then bif decide (v1 = v3) then h 0 [Lf.l v2, Lf.n (v3 * 1), Lf.l (castL (sumN (natL v4))), Lf.l l, Lf.i a, Lf.i 0] else none else none else none else none else none := by kernel_rfl
theorem own_l0 (h : Hd) (l0 : List Int) (n1 : Nat) (l2 : List Int) (l3 : List Int) (i4 : Int) (i5 : Int) : own_f.seg own_e [] h 0 [.l l0, .n n1, .l l2, .l l3, .i i4, .i i5] = let v1 : Int := l0.getD (IntKind.i64.wrap ((↑l3.length : Int) + 9)).toNat 0; bif decide (i5 < (↑l3.length : Int)) then bif inB i5 l0.length then bif decide (i5.toNat < l0.length) then bif inB i5 l3.length then bif !decide (l0.getD i5.toNat 0 = l3.getD i5.toNat 0) then ret (vB false) else bif decide (l0.length = l0.length) then h 0 [Lf.l l0, Lf.n n1, Lf.l l2, Lf.l l3, Lf.i i4, Lf.i (IntKind.i64.wrap (i5 + 1))] else none else none else none else none else bif decide (l3.length ≤ 140737488355328 ∧ ∀ (x : Int), x ∈ l3 → 0 ≤ x ∧ x < 256) then bif decide (nrm 20 l2 = nrm 20 (castL (sumN (natL l3)))) then bif inB (↑l3.length : Int) l0.length then bif decide ((↑l3.length : Int).toNat < l0.length) then bif decide (l0.getD (↑l3.length : Int).toNat 0 = i4) then bif inB (IntKind.i64.wrap ((↑l3.length : Int) + 9)) l0.length then bif decide ((IntKind.i64.wrap ((↑l3.length : Int) + 9)).toNat < l0.length) then ret (vB (decide (v1 = 7))) else none else none else ret (vB false) else none else none else ret (vB false) else none := by kernel_rfl

theorem own_loop (l : List Int) (a : Int) (n : Nat) (hl : l.length ≤ 140737488355000) (hb : ∀ x ∈ l, 0 ≤ x ∧ x < 256) : ∀ (k i : Nat), i ≤ l.length → l.length - i < k →
    own_f.H own_e [] k 0 [.l (l ++ [a, 7, 7, 7, 7, 7, 7, 7, 7, 7]), .n n, .l (castL (sumN (natL l))), .l l, .i a, .i i] = some ⟨vB true, []⟩ := by
  intro k
  induction k with
  | zero => intro i _ h; omega
  | succ k ih =>
    intro i hi hk
    rw [FnD.H_succ, own_l0]
    try dsimp only
    have hlen : (l ++ [a, 7, 7, 7, 7, 7, 7, 7, 7, 7]).length = l.length + 10 := by simp
    by_cases h : i < l.length
    · have g1 : (i : Int) < l.length := by omega
      have e1 : (l ++ [a, 7, 7, 7, 7, 7, 7, 7, 7, 7]).getD i 0 = l.getD i 0 := by simp [List.getD_eq_getElem?_getD, List.getElem?_append_left h]
      have w : IntKind.i64.wrap ((i : Int) + 1) = ((i + 1 : Nat) : Int) := by rw [IntWalk.i64_in _ (by omega)]; omega
      have := ih (i + 1) (by omega) (by omega)
      simp only [g1, decide_true, cond_true, inB, Int.toNat_natCast, e1, hlen, w]
      rw [this]
      simp [h, show (i : Int) < (l.length : Int) + 10 by omega, show i < l.length + 10 by omega]
    · obtain rfl : i = l.length := by omega
      have w9 : IntKind.i64.wrap ((l.length : Int) + 9) = ((l.length + 9 : Nat) : Int) := by rw [IntWalk.i64_in _ (by omega)]; omega
      have d1 : decide (l.length ≤ 140737488355328 ∧ ∀ x ∈ l, 0 ≤ x ∧ x < 256) = true := decide_eq_true ⟨by omega, hb⟩
      have e0 : (l ++ [a, 7, 7, 7, 7, 7, 7, 7, 7, 7]).getD l.length 0 = a := by simp [List.getD_eq_getElem?_getD]
      have e9 : (l ++ [a, 7, 7, 7, 7, 7, 7, 7, 7, 7]).getD (l.length + 9) 0 = 7 := by simp [List.getD_eq_getElem?_getD, List.getElem?_append_right]
      simp only [d1, w9, Int.toNat_natCast, e0, e9, hlen, inB, cond_true, decide_true]
      simp [show (0 : Int) ≤ (l.length : Int) + 9 by omega, show (l.length : Int) < (l.length : Int) + 10 by omega]
theorem own_run (l : List Int) (a : Int) (hp : l.length ≤ 140737488355000 ∧ (∀ x ∈ l, 0 ≤ x ∧ x < 256) ∧ 0 ≤ a ∧ a < 256) : ∃ fu, own_f.run own_e [] fu [c1 (.ints .u8 l), c1 (.int .u8 a)] [] = some ⟨vB true, []⟩ := by
  obtain ⟨h1, h2, h3, h4⟩ := hp
  have r : ∀ n : Nat, n ≤ 140737488355100 → roomB n 1 = true := fun n h => by simp [roomB]; omega
  have ht : List.take l.length l = l := List.take_length
  refine ⟨l.length + 1, ?_⟩
  rw [FnD.run, own_ent]
  try dsimp only
  have hlen : (l ++ [a, 7, 7, 7, 7, 7, 7, 7, 7, 7]).length = l.length + 10 := by simp
  have hp : piece (List.take (l.length + 10) (l ++ [a, 7, 7, 7, 7, 7, 7, 7, 7, 7])) 0 (l.length : Int) = l := by
    rw [List.take_of_length_le (by omega)]
    simp [piece]
  have hs : slB 0 (l.length : Int) (l.length + 10) = true := by simp [slB]; omega
  have d1 : decide (l.length ≤ 140737488355328 ∧ ∀ x ∈ l, 0 ≤ x ∧ x < 256) = true := decide_eq_true ⟨by omega, h2⟩
  have ht10 : List.take 10 [a, 7, 7, 7, 7, 7, 7, 7, 7, 7] = [a, 7, 7, 7, 7, 7, 7, 7, 7, 7] := rfl
  simp only [Nat.zero_add, ht, ht10, hp, hlen, hs, d1, r l.length (show l.length ≤ 140737488355100 by omega), r (l.length + 10) (show l.length + 10 ≤ 140737488355100 by omega), Nat.le_refl, decide_true, cond_true, Bool.and_self, Nat.mul_one, List.take_nil, List.nil_append]
  exact own_loop l a (l.length + 10) h1 h2 (l.length + 1) 0 (by omega) (by omega)
theorem own_ok (l : List Int) (a : Int) (hp : l.length ≤ 140737488355000 ∧ (∀ x ∈ l, 0 ≤ x ∧ x < 256) ∧ 0 ≤ a ∧ a < 256) : FnOk cfg 8 ([c1 (.ints .u8 l), c1 (.int .u8 a)].map SV.den) (vB true : SV).den := by
  obtain ⟨nn, h⟩ := own_run l a hp
  exact FnD.ok own_g own_f mixed Try.func8 rfl rfl rfl rfl rfl rfl h
noncomputable def c_own : SpecF := fun args _ K => match args with
  | [.one (.c (.ints .u8 l)), .one (.c (.int .u8 a))] => bif decide (l.length ≤ 140737488355000 ∧ (∀ x ∈ l, 0 ≤ x ∧ x < 256) ∧ 0 ≤ a ∧ a < 256) then K (vB true) [] else none
  | _ => none
theorem c_own_ok : SpecOk cfg 8 c_own := by
  intro args bx K out h
  unfold c_own at h
  split at h
  · obtain ⟨hp, h⟩ := bif_some h
    exact ⟨_, _, h, own_ok _ _ (of_decide_eq_true hp) _, by simp [isTupS]⟩
  · cases h
open Go.Ev in
theorem shaOwn_walk (v : Value) (l : List Nat) (hl : l.length ≤ 140737488351232) (hb : ∀ x ∈ l, x < 256) {W : World} (hr : Rep1 cfg id (memOf W) (BL l) v) (a : Nat) (ha : a < 256) (W' : World) (hW : W' = W := by rfl) :
    Calls Try.prog 8 #[v, .int .u8 a] W' fun e w => e = .returned (.bool true) ∧ Go.RowKit.Below W'.heap.size W' w := by
  subst hW
  have h := own_ok (castL l) (a : Int) ⟨by simp [castL]; omega, fun x hx => by
    simp only [castL, List.mem_map] at hx
    obtain ⟨y, hy, rfl⟩ := hx
    have := hb y hy
    omega, by omega, by omega⟩
  have e : (([c1 (.ints .u8 (castL l)), c1 (.int .u8 (a : Int))] : List SV).map SV.den) = [BL l, .c (.lit (.int .u8 (a : Int)))] := by
    show [AV.c (.list (castL l).length (IL .u8 (castL l))), _] = [AV.c (.list l.length (IL .u8 (castL l))), _]
    rw [show (castL l).length = l.length by simp [castL]]; rfl
  rw [e] at h
  exact law_calls (C := cfg) (wf_memOf (fun _ => rfl) _) h rfl fun i h1 h2 => by
    match i, h1 with
    | 0, _ => exact hr
    | 1, _ => exact rep_lit _
end Go.Proofs.Ytnhdfmnmciminaa.Sh
