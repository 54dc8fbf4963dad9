/-
  The contract of a statement of layer 29.
-/
import Derived.Test.YtldofkogmkfpjaaGreatDoorWZzSyLawS0
namespace Go.Proofs.YtldofkogmkfpjaaGreatDoor
open Go Go.Ev Go.Sy
set_option linter.unusedSimpArgs false
set_option linter.unusedVariables false
set_option maxRecDepth 10000
set_option maxHeartbeats 4000000
/-! ### epactlaw29.ScriptLine -/
noncomputable def sl4_e : Ev' := ⟨Tryz.prog, glob, Γof [(35, c_sparse), (34, c_sprint), (36, c_sanw), (40, c_rrl)]⟩
theorem sl4_g : Gd cfg sl4_e := gd (env_cons c_sparse_ok (env_cons c_sprint_ok (env_cons c_sanw_ok (env_cons c_rrl_ok (env_nil _)))))
noncomputable def sl4_f : FnD := ⟨15, Tryz.f15, shOf [(0, ⟨59, [], [], [(0, .c (.rows [.int .i64, .int .i64, .int .i64, .int .i64, .int .u64, .int .i64, .int .i64, .int .i64, .int .i64, .bool, .int .i64, .int .i64, .int .i64, .ints .u8, .int .i64, .int .u64, .int .i64, .int .u64, .int .i64, .int .i64, .int .i64])), (1, .c (.str)), (5, .c (.int .i64))]⟩)], Tryz.f15.resultTypes.toList, 0⟩
theorem sl4_ent (h : Hd) (L : List (List D)) (s : ByteArray) : sl4_f.ent sl4_e [] h [c1 (.rows [.int .i64, .int .i64, .int .i64, .int .i64, .int .u64, .int .i64, .int .i64, .int .i64, .int .i64, .bool, .int .i64, .int .i64, .int .i64, .ints .u8, .int .i64, .int .u64, .int .i64, .int .u64, .int .i64, .int .i64, .int .i64] L), vS s] [] = h (0 : Nat) [Lf.r L, Lf.s s, Lf.i (0 : Int)] := by kernel_rfl
theorem sl4_l0 (h : Hd) (r0 : List (List D)) (s1 : ByteArray) (i2 : Int) : sl4_f.seg sl4_e [] h 0 [.r r0, .s s1, .i i2] = let v1 : ByteArray := tx (prnQ r0) ++ s1 ++ (tx [10]); let v2 : Nat := v1.size + (tx (prnQ r0)).size; let v3 : ByteArray := v1 ++ tx (prnQ r0); let v4 : Nat := v3.size; let v5 : Int := (psP v3.data.toList).snd; let v6 : Int := if v5 = (0 : Int) then (0 : Int) else (14 : Int); let v7 : Nat := (psP v3.data.toList).fst.length; bif decide (i2 < (↑s1.size : Int)) then bif inB i2 s1.size then bif decide ((bytesI s1).getD i2.toNat (0 : Int) = (10 : Int)) then ret (vB true) else h (0 : Nat) [Lf.r r0, Lf.s s1, Lf.i (IntKind.i64.wrap (i2 + (1 : Int)))] else none else bif decide (s1.size ≤ (100000000 : Nat)) then bif rlB s1.data.toList then ret (vB true) else bif decide (allR r0 ∧ (prnQ r0).length ≤ (1000000000 : Nat)) then bif decide ((tx (prnQ r0)).size + s1.size ≤ (9223372036854775807 : Nat)) then bif decide ((tx (prnQ r0) ++ s1).size + (1 : Nat) ≤ (9223372036854775807 : Nat)) then bif decide (allR r0 ∧ (prnQ r0).length ≤ (1000000000 : Nat)) then bif decide (v2 ≤ (9223372036854775807 : Nat)) then bif decide (v4 ≤ (100000000 : Nat)) then bif decide (v6 = (14 : Int)) then bif decide (v5 = IntKind.i64.wrap ((↑r0.length : Int) + (1 : Int))) then ret (vB (decide ((↑v7 : Int) = (0 : Int)))) else ret (vB false) else ret (vB false) else none else none else none else none else none else none else none := by kernel_rfl

theorem sl4_loop (L : List (List D)) (hL : allR L) (l : List UInt8) (hb : 2 * (prnQ L).length + l.length < 100000000) : ∀ (k i : Nat), i ≤ l.length → l.length - i < k → (∀ c ∈ l.take i, c ≠ 10) →
    sl4_f.H sl4_e [] k 0 [.r L, .s (tx l), .i (i : Nat)] = some ⟨vB true, []⟩ := by
  intro k
  induction k with
  | zero => intro i _ h; omega
  | succ k ih =>
    intro i hi hk hc
    rw [FnD.H_succ, sl4_l0]
    dsimp only
    by_cases h : i < l.length
    · have hg : l.getD i 0 = l[i] := by rw [List.getD_eq_getElem?_getD, List.getElem?_eq_getElem h]; rfl
      rw [Int.toNat_natCast, bytes_get, tx_size, hg]
      refine condT (by omega) (condB ((inB_iff _ _).2 (by omega)) ?_)
      by_cases h10 : l[i] = 10
      · exact condT (by rw [h10]; rfl) rfl
      · rw [show IntKind.i64.wrap ((i : Int) + 1) = ((i + 1 : Nat) : Int) by rw [IntWalk.i64_in _ (by omega)]; omega]
        refine condF (fun e => h10 (by apply UInt8.toNat_inj.1; show l[i].toNat = 10; omega)) (ih (i + 1) (by omega) (by omega) fun c hcm => ?_)
        rw [List.take_succ_eq_append_getElem h] at hcm
        rcases List.mem_append.1 hcm with g | g
        · exact hc c g
        · rw [List.mem_singleton.1 g]; exact h10
    · obtain rfl : i = l.length := by omega
      rw [List.take_length] at hc
      have hlen := prn_len hL
      simp only [tx_append, tx_toList, tx_size, List.length_append, List.length_cons, List.length_nil]
      refine condF (by omega) (condT (by omega) ?_)
      cases hr : rlB l with
      | true => rfl
      | false =>
        have hd : rdB l = false := (rd_rl l).1.trans hr
        have e : prnQ L ++ l ++ [10] ++ prnQ L = prnQ L ++ (l ++ 10 :: prnQ L) := by simp
        rw [e, psP_bad hL hc hd]
        have w : IntKind.i64.wrap ((L.length : Int) + 1) = ((L.length + 1 : Nat) : Int) := by rw [IntWalk.i64_in _ (by omega)]; omega
        rw [w, if_neg (by omega)]
        exact condT ⟨hL, by omega⟩ (condT (by omega) (condT (by omega) (condT ⟨hL, by omega⟩ (condT (by omega) (condT (by omega) (condT rfl (condT rfl rfl)))))))
theorem sl4_run (L : List (List D)) (s : ByteArray) (hp : allR L ∧ 2 * (prnQ L).length + s.size < 100000000) : ∃ fu, sl4_f.run sl4_e [] fu [c1 (.rows [.int .i64, .int .i64, .int .i64, .int .i64, .int .u64, .int .i64, .int .i64, .int .i64, .int .i64, .bool, .int .i64, .int .i64, .int .i64, .ints .u8, .int .i64, .int .u64, .int .i64, .int .u64, .int .i64, .int .i64, .int .i64] L), vS s] [] = some ⟨vB true, []⟩ := by
  obtain ⟨l, rfl, hl⟩ := tx_get s
  have h2 := hp.2
  rw [tx_size] at h2
  refine ⟨l.length + 1, ?_⟩
  rw [FnD.run, sl4_ent]
  exact sl4_loop L hp.1 l h2 (l.length + 1) 0 (by omega) (by omega) (by intro c h; cases h)
theorem sl4_ok (L : List (List D)) (s : ByteArray) (hp : allR L ∧ 2 * (prnQ L).length + s.size < 100000000) : FnOk cfg 15 ([c1 (.rows [.int .i64, .int .i64, .int .i64, .int .i64, .int .u64, .int .i64, .int .i64, .int .i64, .int .i64, .bool, .int .i64, .int .i64, .int .i64, .ints .u8, .int .i64, .int .u64, .int .i64, .int .u64, .int .i64, .int .i64, .int .i64] L), vS s].map SV.den) (vB true : SV).den := by
  obtain ⟨nn, h⟩ := sl4_run L s hp
  exact FnD.ok sl4_g sl4_f mixed Tryz.func15 rfl rfl rfl rfl rfl rfl h
end Go.Proofs.YtldofkogmkfpjaaGreatDoor
