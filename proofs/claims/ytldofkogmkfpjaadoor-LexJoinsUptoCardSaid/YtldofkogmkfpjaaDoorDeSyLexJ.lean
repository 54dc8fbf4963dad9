/-
  LexJoins.
-/
import Derived.Test.YtldofkogmkfpjaaDoorDeSyLexB
import Derived.Test.YtldofkogmkfpjaaDoorPLexJ
namespace Go.Proofs.YtldofkogmkfpjaaDoor
open Go Go.Ev Go.Sy
set_option linter.unusedSimpArgs false
set_option linter.unusedVariables false
set_option maxRecDepth 10000
set_option maxHeartbeats 4000000
/-! ### epactlaw10.LexJoins -/
noncomputable def lxjoins_e : Ev' := ⟨Tryd.prog, glob, Γof [(41, c_llines), (39, c_lxans)]⟩
theorem lxjoins_g : Gd cfg lxjoins_e := gd (env_cons c_llines_ok (env_cons c_lxans_ok (env_nil _)))
noncomputable def lxjoins_f : FnD := ⟨13, Tryd.f13, shOf [(0, ⟨86, [], [], [(0, .c (.rows [.str])), (3, .c (.str)), (4, .c (.int .i64))]⟩), (1, ⟨86, [], [], [(0, .c (.rows [.str])), (3, .c (.str)), (4, .c (.int .i64)), (5, .c (.int .i64))]⟩), (2, ⟨86, [], [], [(0, .c (.rows [.str])), (3, .c (.str)), (6, .c (.rows [.str])), (7, .c (.int .i64))]⟩)], Tryd.f13.resultTypes.toList⟩
theorem lxjoins_ent (h : Hd) (r : List (List UInt8)) : lxjoins_f.ent lxjoins_e [] h [c1 (.rows [.str] (r.map fun l => [.s (tx l)]))] [] = h (0 : Nat) [Lf.r (List.map (fun l => [D.s (tx l)]) r), Lf.s (tx []), Lf.i (0 : Int)] := by kernel_rfl
theorem lxjoins_l0 (h : Hd) (r0 : List (List D)) (s1 : ByteArray) (i2 : Int) : lxjoins_f.seg lxjoins_e [] h 0 [.r r0, .s s1, .i i2] = bif decide (i2 < (↑r0.length : Int)) then h (1 : Nat) [Lf.r r0, Lf.s s1, Lf.i i2, Lf.i (0 : Int)] else bif decide (s1.size ≤ (1000000000 : Nat)) then bif !decide ((↑(List.map (fun l => [D.s (tx l)]) (linesP s1.data.toList)).length : Int) = (↑r0.length : Int)) then ret (vB false) else h (2 : Nat) [Lf.r r0, Lf.s s1, Lf.r (List.map (fun l => [D.s (tx l)]) (linesP s1.data.toList)), Lf.i (0 : Int)] else none := by kernel_rfl
theorem lxjoins_l1 (h : Hd) (r0 : List (List D)) (s1 : ByteArray) (i2 : Int) (i3 : Int) : lxjoins_f.seg lxjoins_e [] h 1 [.r r0, .s s1, .i i2, .i i3] = let v1 : Int := (bytesI ((r0.getD i2.toNat []).getD (0 : Nat) (D.i (0 : Int))).toS).getD i3.toNat (0 : Int); let v2 : Nat := s1.size + ((r0.getD i2.toNat []).getD (0 : Nat) (D.i (0 : Int))).toS.size; let v3 : ByteArray := s1 ++ ((r0.getD i2.toNat []).getD (0 : Nat) (D.i (0 : Int))).toS; let v4 : Nat := v3.size + (1 : Nat); bif inB i2 r0.length then bif decide (i3 < (↑((r0.getD i2.toNat []).getD (0 : Nat) (D.i (0 : Int))).toS.size : Int)) then bif inB i2 r0.length then bif inB i3 ((r0.getD i2.toNat []).getD (0 : Nat) (D.i (0 : Int))).toS.size then bif decide (v1 = (10 : Int)) then ret (vB true) else h (1 : Nat) [Lf.r r0, Lf.s s1, Lf.i i2, Lf.i (IntKind.i64.wrap (i3 + (1 : Int)))] else none else none else bif inB i2 r0.length then bif decide (v2 ≤ (9223372036854775807 : Nat)) then bif decide (v4 ≤ (9223372036854775807 : Nat)) then h (0 : Nat) [Lf.r r0, Lf.s (v3 ++ (tx [(10 : UInt8)])), Lf.i (IntKind.i64.wrap (i2 + (1 : Int)))] else none else none else none else none := by kernel_rfl
theorem lxjoins_l2 (h : Hd) (r0 : List (List D)) (s1 : ByteArray) (r2 : List (List D)) (i3 : Int) : lxjoins_f.seg lxjoins_e [] h 2 [.r r0, .s s1, .r r2, .i i3] = let v1 : ByteArray := s1.extract (0 : Nat) (IntKind.i64.wrap ((↑s1.size : Int) - (1 : Int))).toNat; let v2 : Nat := v1.size; let v3 : Nat := (List.map (fun l => [D.s (tx l)]) (linesP v1.data.toList)).length; bif decide (i3 < (↑r2.length : Int)) then bif inB i3 r2.length then bif inB i3 r0.length then bif !eqB ((r2.getD i3.toNat []).getD (0 : Nat) (D.i (0 : Int))).toS ((r0.getD i3.toNat []).getD (0 : Nat) (D.i (0 : Int))).toS then ret (vB false) else h (2 : Nat) [Lf.r r0, Lf.s s1, Lf.r r2, Lf.i (IntKind.i64.wrap (i3 + (1 : Int)))] else none else none else bif decide ((↑r0.length : Int) = (0 : Int)) then ret (vB true) else bif inB (IntKind.i64.wrap ((↑r0.length : Int) - (1 : Int))) r0.length then bif eqB ((r0.getD (IntKind.i64.wrap ((↑r0.length : Int) - (1 : Int))).toNat []).getD (0 : Nat) (D.i (0 : Int))).toS (tx []) then ret (vB true) else bif slB (0 : Int) (IntKind.i64.wrap ((↑s1.size : Int) - (1 : Int))) s1.size then bif decide (v2 ≤ (1000000000 : Nat)) then ret (vB (decide ((↑v3 : Int) = (↑r0.length : Int)))) else none else none else none := by kernel_rfl

theorem rget (L : List (List UInt8)) (i : Nat) (h : i < L.length) : (((L.map fun l => [D.s (tx l)]).getD i []).getD 0 (D.i 0)).toS = tx (L.getD i []) := by
  rw [List.getD_eq_getElem?_getD, List.getD_eq_getElem?_getD, List.getElem?_map, List.getElem?_eq_getElem h, List.getD_eq_getElem?_getD, List.getElem?_eq_getElem h]; rfl
theorem lxj2 (L : List (List UInt8)) (hL : (joinL L).length ≤ 2097152) (hn : ∀ l ∈ L, ∀ c ∈ l, c ≠ 10) : ∀ (m j : Nat), j + m = L.length → ∃ k, lxjoins_f.H lxjoins_e [] k 2 [.r (L.map fun l => [.s (tx l)]), .s (tx (joinL L)), .r (L.map fun l => [.s (tx l)]), .i j] = ret (vB true) := by
  have hlen := joinL_len L
  intro m
  induction m with
  | zero =>
    intro j hj
    refine ⟨1, ?_⟩
    rw [FnD.H_succ, lxjoins_l2]
    dsimp only
    simp only [List.length_map, tx_size]
    refine condF (by omega) ?_
    by_cases h0 : L.length = 0
    · exact condT (by omega) rfl
    refine condF (by omega) ?_
    rw [show IntKind.i64.wrap ((L.length : Int) - 1) = ((L.length - 1 : Nat) : Int) by rw [IntWalk.i64_in _ (by omega)]; omega, Int.toNat_natCast, rget L _ (by omega)]
    refine condB ((inB_iff _ _).2 (by omega)) ?_
    by_cases hx : L.getD (L.length - 1) [] = []
    · exact condB (by rw [eqB_tx, decide_eq_true hx]) rfl
    refine condN (by rw [eqB_tx, decide_eq_false hx]) ?_
    have eL : L = L.take (L.length - 1) ++ [L.getD (L.length - 1) []] := by
      have e := List.take_succ_eq_append_getElem (l := L) (i := L.length - 1) (by omega)
      rw [show L.length - 1 + 1 = L.length by omega, List.take_length] at e
      rw [List.getD_eq_getElem?_getD, List.getElem?_eq_getElem (by omega)]; exact e
    have hl := lines_last (L := L.take (L.length - 1)) (x := L.getD (L.length - 1) []) (by rw [← eL]; exact hn) hx
    rw [← eL] at hl
    rw [show IntKind.i64.wrap (((joinL L).length : Int) - 1) = (((joinL L).length - 1 : Nat) : Int) by rw [IntWalk.i64_in _ (by omega)]; omega, Int.toNat_natCast, tx_extract, tx_toList, List.drop_zero, Nat.sub_zero, hl]
    exact condB (by unfold slB; simp) (condT (by rw [tx_size, List.length_take]; omega) (retV (by rw [decide_eq_true rfl])))
  | succ m ih =>
    intro j hj
    obtain ⟨k, hk⟩ := ih (j + 1) (by omega)
    refine ⟨k + 1, ?_⟩
    rw [FnD.H_succ, lxjoins_l2]
    dsimp only
    simp only [List.length_map]
    have hin : inB (j : Int) L.length = true := (inB_iff _ _).2 (by omega)
    refine condT (by omega) (condB hin (condB hin (condN (by rw [eqB_self]; rfl) ?_)))
    rw [show IntKind.i64.wrap ((j : Int) + 1) = ((j + 1 : Nat) : Int) by rw [IntWalk.i64_in _ (by omega)]; omega]
    exact hk
theorem lxj1 (L : List (List UInt8)) (hL : (joinL L).length ≤ 2097152) (i : Nat) (hi : i < L.length) (nx : (∀ c ∈ L.getD i [], c ≠ 10) → ∃ k, lxjoins_f.H lxjoins_e [] k 0 [.r (L.map fun l => [.s (tx l)]), .s (tx (joinL (L.take (i + 1)))), .i ((i + 1 : Nat) : Int)] = ret (vB true)) :
    ∀ (m j : Nat), j + m = (L.getD i []).length → (∀ c ∈ (L.getD i []).take j, c ≠ 10) → ∃ k, lxjoins_f.H lxjoins_e [] k 1 [.r (L.map fun l => [.s (tx l)]), .s (tx (joinL (L.take i))), .i i, .i j] = ret (vB true) := by
  have hlen := joinL_len L
  have hle := joinL_le L (i + 1)
  have ht := joinL_take hi
  have hin : inB (i : Int) L.length = true := (inB_iff _ _).2 (by omega)
  have hle2 : (joinL (L.take i)).length + (L.getD i []).length + 1 ≤ 2097152 := by
    rw [ht, List.length_append, List.length_append, List.length_singleton] at hle; omega
  intro m
  induction m with
  | zero =>
    intro j hj hc
    rw [List.take_of_length_le (by omega)] at hc
    obtain ⟨k, hk⟩ := nx hc
    refine ⟨k + 1, ?_⟩
    rw [FnD.H_succ, lxjoins_l1]
    dsimp only
    simp only [List.length_map, Int.toNat_natCast, rget L i hi, tx_size, tx_append, bytes_get]
    refine condB hin (condF (by omega) (condB hin (condT (by omega) (condT (by rw [List.length_append]; omega) ?_))))
    rw [show IntKind.i64.wrap ((i : Int) + 1) = ((i + 1 : Nat) : Int) by rw [IntWalk.i64_in _ (by omega)]; omega, ← ht]
    exact hk
  | succ m ih =>
    intro j hj hc
    have hb : (((L.getD i []).getD j 0).toNat : Int) = 10 ↔ (L.getD i []).getD j 0 = 10 := byte_eq _ 10 (by omega)
    have hin2 : inB (j : Int) (L.getD i []).length = true := (inB_iff _ _).2 (by omega)
    by_cases h10 : (L.getD i []).getD j 0 = 10
    · refine ⟨1, ?_⟩
      rw [FnD.H_succ, lxjoins_l1]
      dsimp only
      simp only [List.length_map, Int.toNat_natCast, rget L i hi, tx_size, tx_append, bytes_get]
      exact condB hin (condT (by omega) (condB hin (condB hin2 (condT (hb.2 h10) rfl))))
    · obtain ⟨k, hk⟩ := ih (j + 1) (by omega) (by
        intro c hc2
        rw [List.take_succ_eq_append_getElem (by omega), List.mem_append, List.mem_singleton] at hc2
        rcases hc2 with h | h
        · exact hc c h
        · rw [List.getD_eq_getElem?_getD, List.getElem?_eq_getElem (by omega)] at h10
          rw [h]; exact h10)
      refine ⟨k + 1, ?_⟩
      rw [FnD.H_succ, lxjoins_l1]
      dsimp only
      simp only [List.length_map, Int.toNat_natCast, rget L i hi, tx_size, tx_append, bytes_get]
      refine condB hin (condT (by omega) (condB hin (condB hin2 (condF (fun e => h10 (hb.1 e)) ?_))))
      rw [show IntKind.i64.wrap ((j : Int) + 1) = ((j + 1 : Nat) : Int) by rw [IntWalk.i64_in _ (by omega)]; omega]
      exact hk
theorem lxj0 (L : List (List UInt8)) (hL : (joinL L).length ≤ 2097152) : ∀ (m i : Nat), i + m = L.length → (∀ l ∈ L.take i, ∀ c ∈ l, c ≠ 10) → ∃ k, lxjoins_f.H lxjoins_e [] k 0 [.r (L.map fun l => [.s (tx l)]), .s (tx (joinL (L.take i))), .i i] = ret (vB true) := by
  have hlen := joinL_len L
  intro m
  induction m with
  | zero =>
    intro i hi hc
    rw [List.take_of_length_le (by omega)] at hc ⊢
    obtain ⟨k, hk⟩ := lxj2 L hL hc L.length 0 (by omega)
    refine ⟨k + 1, ?_⟩
    rw [FnD.H_succ, lxjoins_l0]
    simp only [List.length_map, tx_size, tx_toList, lines_join hc]
    exact condF (by omega) (condT (by omega) (condN (by simp) hk))
  | succ m ih =>
    intro i hi hc
    obtain ⟨k, hk⟩ := lxj1 L hL i (by omega) (fun h => ih (i + 1) (by omega) (by
      intro l hl
      rw [List.take_succ_eq_append_getElem (by omega), List.mem_append, List.mem_singleton] at hl
      rcases hl with g | g
      · exact hc l g
      · rw [List.getD_eq_getElem?_getD, List.getElem?_eq_getElem (by omega)] at h
        rw [g]; exact h)) (L.getD i []).length 0 (by omega) (by intro c hc; rw [List.take_zero] at hc; cases hc)
    refine ⟨k + 1, ?_⟩
    rw [FnD.H_succ, lxjoins_l0]
    simp only [List.length_map]
    exact condT (by omega) hk
theorem lxjoins_run (r : List (List UInt8)) (hp : (joinL r).length ≤ 2097152) : ∃ fu, lxjoins_f.run lxjoins_e [] fu [c1 (.rows [.str] (r.map fun l => [.s (tx l)]))] [] = some ⟨vB true, []⟩ := by
  obtain ⟨k, hk⟩ := lxj0 r hp r.length 0 (by omega) (by intro l hl; rw [List.take_zero] at hl; cases hl)
  refine ⟨k, ?_⟩
  rw [FnD.run, lxjoins_ent]
  exact hk
theorem lxjoins_ok (r : List (List UInt8)) (hp : (joinL r).length ≤ 2097152) : FnOk cfg 13 ([c1 (.rows [.str] (r.map fun l => [.s (tx l)]))].map SV.den) (vB true : SV).den := by
  obtain ⟨nn, h⟩ := lxjoins_run r hp
  exact FnD.ok lxjoins_g lxjoins_f mixed Tryd.func13 rfl rfl rfl rfl rfl rfl h
end Go.Proofs.YtldofkogmkfpjaaDoor
