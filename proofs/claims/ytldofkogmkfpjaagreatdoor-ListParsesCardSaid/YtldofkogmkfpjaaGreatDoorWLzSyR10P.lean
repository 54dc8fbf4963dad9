/-
  The document's answer for layer 11: Parse.
-/
import Derived.Test.YtldofkogmkfpjaaGreatDoorWLzSyR09
import Derived.Test.YtldofkogmkfpjaaGreatDoorWLzSyList7
import Derived.Test.YtldofkogmkfpjaaGreatDoorWLzSyLexC
namespace Go.Proofs.YtldofkogmkfpjaaGreatDoor
open Go Go.Ev Go.Sy
set_option linter.unusedSimpArgs false
set_option linter.unusedVariables false
set_option maxRecDepth 10000
set_option maxHeartbeats 4000000
open Go.Sy.Sh
/-! ### epactref10.Parse -/
noncomputable def rpz_e : Ev' := ⟨Tryz.prog, glob, Γof [(33, c_rlines), (81, c_rscan), (69, c_rent), (29, c_rdgs), (80, c_rw9)]⟩
theorem rpz_g : Gd cfg rpz_e := gd (env_cons c_rlines_ok (env_cons c_rscan_ok (env_cons c_rent_ok (env_cons c_rdgs_ok (env_cons c_rw9_ok (env_nil _))))))
noncomputable def rpz_f : FnD := ⟨32, Tryz.f32, shOf [(0, ⟨142, [(96, ⟨.rows [.int .i64, .int .i64], true, true⟩)], [(2, [.c (.int .i64), .c (.int .i64), .c .nils]), (5, [.c (.int .i64), .c (.int .i64), .c (.sl 96 2)]), (6, [.arr .u32 5]), (7, [.arr .i64 6])], [(2, .c (.ptr 2 0)), (5, .c (.ptr 5 0)), (6, .c (.ptr 6 0)), (7, .c (.ptr 7 0)), (8, .c (.rows [.str])), (9, .c (.int .i64))]⟩), (1, ⟨142, [(96, ⟨.rows [.int .i64, .int .i64], true, true⟩)], [(2, [.c (.int .i64), .c (.int .i64), .c .nils]), (5, [.c (.int .i64), .c (.int .i64), .c (.sl 96 2)]), (6, [.arr .u32 5]), (7, [.arr .i64 6]), (13, [.arr .i64 5])], [(2, .c (.ptr 2 0)), (5, .c (.ptr 5 0)), (6, .c (.ptr 6 0)), (7, .c (.ptr 7 0)), (13, .c (.ptr 13 0)), (14, .c (.int .i64))]⟩)], Tryz.f32.resultTypes.toList, 0⟩
theorem rpz_ent (h : Hd) (s : ByteArray) : rpz_f.ent rpz_e [] h [vS s] [] = bif decide ((65536 : Int) < (↑s.size : Int)) then ret (SV.tup [S1.agg [gI (0 : Int), gI (0 : Int), Sg.c (Cl.rows [Kd.int IntKind.i64, Kd.int IntKind.i64] [])], tI (0 : Int), tI (2 : Int)]) else bif decide (s.size ≤ (1000000000 : Nat)) then h (0 : Nat) [Lf.r [], Lf.n (0 : Nat), Lf.b true, Lf.i (0 : Int), Lf.i (0 : Int), Lf.i (0 : Int), Lf.i (0 : Int), Lf.l [(0 : Int), (0 : Int), (0 : Int), (0 : Int), (0 : Int)], Lf.l [(0 : Int), (0 : Int), (0 : Int), (0 : Int), (0 : Int), (0 : Int)], Lf.r (List.map (fun l => [D.s (tx l)]) (linesP s.data.toList)), Lf.i (0 : Int)] else none := by kernel_rfl
theorem rpz_l0 (h : Hd) (r0 : List (List D)) (n1 : Nat) (b2 : Bool) (i3 : Int) (i4 : Int) (i5 : Int) (i6 : Int) (l7 : List Int) (l8 : List Int) (r9 : List (List D)) (i10 : Int) : rpz_f.seg rpz_e [] h 0 [.r r0, .n n1, .b b2, .i i3, .i i4, .i i5, .i i6, .l l7, .l l8, .r r9, .i i10] = let v1 : List UInt8 := ((r9.getD i10.toNat []).getD (0 : Nat) (D.i (0 : Int))).toS.data.toList; let v2 : Int := (scanQ v1).k; let v3 : Nat := v2.toNat; let v4 : Int := l8.getD v3 (0 : Int); let v5 : Int := (scanQ v1).a; let v6 : List Int := setD (6 : Nat) l8 v3 (IntKind.i64.wrap (i10 + (1 : Int))); let v7 : List Int := (scanQ v1).w; let v8 : Int := (scanQ v1).b; let v9 : List (List D) := List.take r0.length r0 ++ [[D.i v5, D.i v8]]; let v10 : Nat := v9.length; let v11 : List Int := List.take (tx (dgL i5 i6 (List.take r0.length r0))).size (bytesI (tx (dgL i5 i6 (List.take r0.length r0)))); let v12 : Nat := v11.length; bif decide (i10 < (↑r9.length : Int)) then bif inB i10 r9.length then bif decide (((r9.getD i10.toNat []).getD (0 : Nat) (D.i (0 : Int))).toS.size ≤ (9223372036854775807 : Nat)) then bif !(scanP v1).isSome then ret (SV.tup [S1.agg [gI (0 : Int), gI (0 : Int), Sg.c (Cl.rows [Kd.int IntKind.i64, Kd.int IntKind.i64] [])], tI (IntKind.i64.wrap (i10 + (1 : Int))), tI (4 : Int)]) else bif decide ((2 : Int) ≤ v2) then bif decide (v2 ≤ (4 : Int)) then bif inB v2 (6 : Nat) then bif decide (v3 < (6 : Nat)) then bif decide ((0 : Int) < v4) then ret (SV.tup [S1.agg [gI (0 : Int), gI (0 : Int), Sg.c (Cl.rows [Kd.int IntKind.i64, Kd.int IntKind.i64] [])], tI (IntKind.i64.wrap (i10 + (1 : Int))), tI (4 : Int)]) else bif inB v2 (6 : Nat) then bif decide (v3 < (6 : Nat)) then bif decide (v2 = (2 : Int)) then bif b2 == b2 && decide (r0.length = r0.length) then h (0 : Nat) [Lf.r r0, Lf.n n1, Lf.b b2, Lf.i i3, Lf.i i4, Lf.i v5, Lf.i i6, Lf.l l7, Lf.l v6, Lf.r r9, Lf.i (IntKind.i64.wrap (i10 + (1 : Int)))] else none else bif decide (v2 = (3 : Int)) then bif b2 == b2 && decide (r0.length = r0.length) then h (0 : Nat) [Lf.r r0, Lf.n n1, Lf.b b2, Lf.i i3, Lf.i i4, Lf.i i5, Lf.i v5, Lf.l l7, Lf.l v6, Lf.r r9, Lf.i (IntKind.i64.wrap (i10 + (1 : Int)))] else none else bif decide (v2 = (4 : Int)) then bif b2 == b2 && decide (r0.length = r0.length) then h (0 : Nat) [Lf.r r0, Lf.n n1, Lf.b b2, Lf.i i3, Lf.i i4, Lf.i i5, Lf.i i6, Lf.l v7, Lf.l v6, Lf.r r9, Lf.i (IntKind.i64.wrap (i10 + (1 : Int)))] else none else bif decide (v2 = (5 : Int)) then bif b2 == b2 && decide (r0.length ≤ r0.length) && true then bif decide (lastOk (List.take r0.length r0)) then bif !behP (List.take r0.length r0) v5 v8 then ret (SV.tup [S1.agg [gI (0 : Int), gI (0 : Int), Sg.c (Cl.rows [Kd.int IntKind.i64, Kd.int IntKind.i64] [])], tI (IntKind.i64.wrap (i10 + (1 : Int))), tI (10 : Int)]) else bif b2 == b2 && pubOk (r0.length * (2 : Nat)) (r0.length * (2 : Nat)) && decide (r0.length ≤ r0.length) && roomB (r0.length + (1 : Nat)) (16 : Nat) then bif nlAfter b2 (1 : Nat) == nlAfter b2 (1 : Nat) && decide (r0.length + (1 : Nat) = v10) then h (0 : Nat) [Lf.r v9, Lf.n (r0.length * (2 : Nat)), Lf.b (nlAfter b2 (1 : Nat)), Lf.i i3, Lf.i i4, Lf.i i5, Lf.i i6, Lf.l l7, Lf.l v6, Lf.r r9, Lf.i (IntKind.i64.wrap (i10 + (1 : Int)))] else none else none else none else none else bif b2 == b2 && decide (r0.length = r0.length) then h (0 : Nat) [Lf.r r0, Lf.n n1, Lf.b b2, Lf.i i3, Lf.i i4, Lf.i i5, Lf.i i6, Lf.l l7, Lf.l v6, Lf.r r9, Lf.i (IntKind.i64.wrap (i10 + (1 : Int)))] else none else none else none else none else none else bif inB v2 (6 : Nat) then bif decide (v3 < (6 : Nat)) then bif decide (v2 = (2 : Int)) then bif b2 == b2 && decide (r0.length = r0.length) then h (0 : Nat) [Lf.r r0, Lf.n n1, Lf.b b2, Lf.i i3, Lf.i i4, Lf.i v5, Lf.i i6, Lf.l l7, Lf.l v6, Lf.r r9, Lf.i (IntKind.i64.wrap (i10 + (1 : Int)))] else none else bif decide (v2 = (3 : Int)) then bif b2 == b2 && decide (r0.length = r0.length) then h (0 : Nat) [Lf.r r0, Lf.n n1, Lf.b b2, Lf.i i3, Lf.i i4, Lf.i i5, Lf.i v5, Lf.l l7, Lf.l v6, Lf.r r9, Lf.i (IntKind.i64.wrap (i10 + (1 : Int)))] else none else bif decide (v2 = (4 : Int)) then bif b2 == b2 && decide (r0.length = r0.length) then h (0 : Nat) [Lf.r r0, Lf.n n1, Lf.b b2, Lf.i i3, Lf.i i4, Lf.i i5, Lf.i i6, Lf.l v7, Lf.l v6, Lf.r r9, Lf.i (IntKind.i64.wrap (i10 + (1 : Int)))] else none else bif decide (v2 = (5 : Int)) then bif b2 == b2 && decide (r0.length ≤ r0.length) && true then bif decide (lastOk (List.take r0.length r0)) then bif !behP (List.take r0.length r0) v5 v8 then ret (SV.tup [S1.agg [gI (0 : Int), gI (0 : Int), Sg.c (Cl.rows [Kd.int IntKind.i64, Kd.int IntKind.i64] [])], tI (IntKind.i64.wrap (i10 + (1 : Int))), tI (10 : Int)]) else bif b2 == b2 && pubOk (r0.length * (2 : Nat)) (r0.length * (2 : Nat)) && decide (r0.length ≤ r0.length) && roomB (r0.length + (1 : Nat)) (16 : Nat) then bif nlAfter b2 (1 : Nat) == nlAfter b2 (1 : Nat) && decide (r0.length + (1 : Nat) = v10) then h (0 : Nat) [Lf.r v9, Lf.n (r0.length * (2 : Nat)), Lf.b (nlAfter b2 (1 : Nat)), Lf.i i3, Lf.i i4, Lf.i i5, Lf.i i6, Lf.l l7, Lf.l v6, Lf.r r9, Lf.i (IntKind.i64.wrap (i10 + (1 : Int)))] else none else none else none else none else bif b2 == b2 && decide (r0.length = r0.length) then h (0 : Nat) [Lf.r r0, Lf.n n1, Lf.b b2, Lf.i i3, Lf.i i4, Lf.i i5, Lf.i i6, Lf.l l7, Lf.l v6, Lf.r r9, Lf.i (IntKind.i64.wrap (i10 + (1 : Int)))] else none else none else none else bif inB v2 (6 : Nat) then bif decide (v3 < (6 : Nat)) then bif decide (v2 = (2 : Int)) then bif b2 == b2 && decide (r0.length = r0.length) then h (0 : Nat) [Lf.r r0, Lf.n n1, Lf.b b2, Lf.i i3, Lf.i i4, Lf.i v5, Lf.i i6, Lf.l l7, Lf.l v6, Lf.r r9, Lf.i (IntKind.i64.wrap (i10 + (1 : Int)))] else none else bif decide (v2 = (3 : Int)) then bif b2 == b2 && decide (r0.length = r0.length) then h (0 : Nat) [Lf.r r0, Lf.n n1, Lf.b b2, Lf.i i3, Lf.i i4, Lf.i i5, Lf.i v5, Lf.l l7, Lf.l v6, Lf.r r9, Lf.i (IntKind.i64.wrap (i10 + (1 : Int)))] else none else bif decide (v2 = (4 : Int)) then bif b2 == b2 && decide (r0.length = r0.length) then h (0 : Nat) [Lf.r r0, Lf.n n1, Lf.b b2, Lf.i i3, Lf.i i4, Lf.i i5, Lf.i i6, Lf.l v7, Lf.l v6, Lf.r r9, Lf.i (IntKind.i64.wrap (i10 + (1 : Int)))] else none else bif decide (v2 = (5 : Int)) then bif b2 == b2 && decide (r0.length ≤ r0.length) && true then bif decide (lastOk (List.take r0.length r0)) then bif !behP (List.take r0.length r0) v5 v8 then ret (SV.tup [S1.agg [gI (0 : Int), gI (0 : Int), Sg.c (Cl.rows [Kd.int IntKind.i64, Kd.int IntKind.i64] [])], tI (IntKind.i64.wrap (i10 + (1 : Int))), tI (10 : Int)]) else bif b2 == b2 && pubOk (r0.length * (2 : Nat)) (r0.length * (2 : Nat)) && decide (r0.length ≤ r0.length) && roomB (r0.length + (1 : Nat)) (16 : Nat) then bif nlAfter b2 (1 : Nat) == nlAfter b2 (1 : Nat) && decide (r0.length + (1 : Nat) = v10) then h (0 : Nat) [Lf.r v9, Lf.n (r0.length * (2 : Nat)), Lf.b (nlAfter b2 (1 : Nat)), Lf.i i3, Lf.i i4, Lf.i i5, Lf.i i6, Lf.l l7, Lf.l v6, Lf.r r9, Lf.i (IntKind.i64.wrap (i10 + (1 : Int)))] else none else none else none else none else bif b2 == b2 && decide (r0.length = r0.length) then h (0 : Nat) [Lf.r r0, Lf.n n1, Lf.b b2, Lf.i i3, Lf.i i4, Lf.i i5, Lf.i i6, Lf.l l7, Lf.l v6, Lf.r r9, Lf.i (IntKind.i64.wrap (i10 + (1 : Int)))] else none else none else none else none else none else bif decide (l8.getD (2 : Nat) (0 : Int) = (0 : Int)) then ret (SV.tup [S1.agg [gI (0 : Int), gI (0 : Int), Sg.c (Cl.rows [Kd.int IntKind.i64, Kd.int IntKind.i64] [])], tI (IntKind.i64.wrap ((↑r9.length : Int) + (1 : Int))), tI (4 : Int)]) else bif decide (l8.getD (3 : Nat) (0 : Int) = (0 : Int)) then ret (SV.tup [S1.agg [gI (0 : Int), gI (0 : Int), Sg.c (Cl.rows [Kd.int IntKind.i64, Kd.int IntKind.i64] [])], tI (IntKind.i64.wrap ((↑r9.length : Int) + (1 : Int))), tI (4 : Int)]) else bif decide (l8.getD (4 : Nat) (0 : Int) = (0 : Int)) then ret (SV.tup [S1.agg [gI (0 : Int), gI (0 : Int), Sg.c (Cl.rows [Kd.int IntKind.i64, Kd.int IntKind.i64] [])], tI (IntKind.i64.wrap ((↑r9.length : Int) + (1 : Int))), tI (4 : Int)]) else bif decide (l8.getD (5 : Nat) (0 : Int) = (0 : Int)) then ret (SV.tup [S1.agg [gI (0 : Int), gI (0 : Int), Sg.c (Cl.rows [Kd.int IntKind.i64, Kd.int IntKind.i64] [])], tI (IntKind.i64.wrap ((↑r9.length : Int) + (1 : Int))), tI (4 : Int)]) else bif b2 == b2 && decide (r0.length ≤ r0.length) && true && true then bif decide (((0 : Int) ≤ i5 ∧ i5 < (9223372036854775808 : Int)) ∧ ((0 : Int) ≤ i6 ∧ i6 < (9223372036854775808 : Int)) ∧ goodTo (List.take r0.length r0) (List.take r0.length r0).length) then bif decide ((tx (dgL i5 i6 (List.take r0.length r0))).size ≤ (bytesI (tx (dgL i5 i6 (List.take r0.length r0)))).length) && true then bif decide (bytesOk v11 ∧ v12 ≤ (1000000 : Nat)) then bif b2 == b2 && decide (r0.length = r0.length) then h (1 : Nat) [Lf.r r0, Lf.n (r0.length * (2 : Nat)), Lf.b b2, Lf.i i3, Lf.i i4, Lf.i i5, Lf.i i6, Lf.l l7, Lf.l l8, Lf.l (castL (wordsN (natL v11))), Lf.i (0 : Int)] else none else none else none else none else none := by kernel_rfl
theorem rpz_l1 (h : Hd) (r0 : List (List D)) (n1 : Nat) (b2 : Bool) (i3 : Int) (i4 : Int) (i5 : Int) (i6 : Int) (l7 : List Int) (l8 : List Int) (l9 : List Int) (i10 : Int) : rpz_f.seg rpz_e [] h 1 [.r r0, .n n1, .b b2, .i i3, .i i4, .i i5, .i i6, .l l7, .l l8, .l l9, .i i10] = bif decide (i10 < (5 : Int)) then bif inB i10 (5 : Nat) then bif decide (i10.toNat < (5 : Nat)) then bif inB i10 (5 : Nat) then bif decide (i10.toNat < (5 : Nat)) then bif !decide (IntKind.u32.wrap (l9.getD i10.toNat (0 : Int)) = l7.getD i10.toNat (0 : Int)) then ret (SV.tup [S1.agg [gI (0 : Int), gI (0 : Int), Sg.c (Cl.rows [Kd.int IntKind.i64, Kd.int IntKind.i64] [])], tI (l8.getD (4 : Nat) (0 : Int)), tI (11 : Int)]) else bif b2 == b2 && decide (r0.length = r0.length) then h (1 : Nat) [Lf.r r0, Lf.n n1, Lf.b b2, Lf.i i3, Lf.i i4, Lf.i i5, Lf.i i6, Lf.l l7, Lf.l l8, Lf.l l9, Lf.i (IntKind.i64.wrap (i10 + (1 : Int)))] else none else none else none else none else none else bif b2 == b2 && decide (r0.length ≤ r0.length) && true && true then ret (SV.tup [S1.agg [gI i5, gI i6, Sg.c (Cl.rows [Kd.int IntKind.i64, Kd.int IntKind.i64] (List.take r0.length r0))], tI (0 : Int), tI (0 : Int)]) else none := by kernel_rfl

theorem one_facts {k : Int} {r : List UInt8} {v : LnV} (h : oneP k r = some v) : v.k = k ∧ 0 ≤ v.a ∧ v.a ≤ 999999999999999999 := by
  unfold oneP at h
  dsimp only at h
  split at h
  · rename_i hc
    cases h
    refine ⟨rfl, ?_⟩
    simp only [Bool.and_eq_true] at hc
    have h1 := hc.1.2
    unfold okN at h1
    simp only [Bool.and_eq_true, decide_eq_true_eq] at h1
    have hb := dval_bound (tw_all isDig (r.dropWhile isBl))
    have hl : (10 : Int) ^ ((r.dropWhile isBl).takeWhile isDig).length ≤ 10 ^ 18 := by
      have := Nat.pow_le_pow_right (n := 10) (by decide) h1.1.2
      exact_mod_cast this
    constructor
    · exact hb.1
    · show dval _ ≤ _
      have : (10 : Int) ^ 18 = 1000000000000000000 := rfl
      omega
  · cases h
theorem scan_facts {l : List UInt8} {v : LnV} (h : scanP l = some v) : (v.k = 1 ∨ v.k = 2 ∨ v.k = 3 ∨ v.k = 4 ∨ v.k = 5) ∧ (v.k = 2 ∨ v.k = 3 → 0 ≤ v.a ∧ v.a ≤ 999999999999999999) := by
  unfold scanP at h
  split at h
  · split at h
    · have := one_facts h; exact ⟨.inr (.inl this.1), fun _ => this.2⟩
    · split at h
      · have := one_facts h; exact ⟨.inr (.inr (.inl this.1)), fun _ => this.2⟩
      · split at h
        · unfold hashP at h
          split at h
          · split at h
            · cases h; exact ⟨.inr (.inr (.inr (.inl rfl))), fun g => by rcases g with g | g <;> cases g⟩
            · cases h
          · cases h
        · cases h; exact ⟨.inl rfl, fun g => by rcases g with g | g <;> cases g⟩
  · split at h
    · cases h; exact ⟨.inl rfl, fun g => by rcases g with g | g <;> cases g⟩
    · unfold dataP at h
      dsimp only at h
      split at h
      · cases h; exact ⟨.inr (.inr (.inr (.inr rfl))), fun g => by rcases g with g | g <;> cases g⟩
      · cases h
def atOk (at_ : List Int) (m : List (Int × Int)) : Prop := at_.length = 6 ∧ ∀ k : Nat, 1 ≤ k → k ≤ 5 → at_.getD k 0 = mapGet m (k : Int)
theorem atOk_set {at_ : List Int} {m : List (Int × Int)} (h : atOk at_ m) {k : Nat} (hk : k ≤ 5) (t : Int) : atOk (setD 6 at_ k t) (mapSet m (k : Int) t) := by
  obtain ⟨h1, h2⟩ := h
  rw [setD_eq h1]
  refine ⟨by simp [h1], fun j j1 j5 => ?_⟩
  rw [mapGet_set, List.getD_eq_getElem?_getD, List.getElem?_set]
  by_cases e : k = j
  · subst e
    rw [if_pos rfl, if_pos (by omega), if_pos rfl]; rfl
  · rw [if_neg e, if_neg (by omega), ← List.getD_eq_getElem?_getD]; exact h2 j j1 j5
theorem goodTo_app {L : List (List D)} {a b : Int} (hg : goodTo L L.length) (hb : behP L a b = true) : goodTo (L ++ [[D.i a, D.i b]]) (L ++ [[D.i a, D.i b]]).length := by
  intro j hj
  rw [List.length_append] at hj
  have hj : j < L.length + 1 := hj
  unfold okAt
  rcases Nat.lt_or_ge j L.length with g | g
  · have := hg j g
    unfold okAt at this
    rw [List.take_append_of_le_length (by omega)]
    have e : (L ++ [[D.i a, D.i b]]).getD j [] = L.getD j [] := by
      simp only [List.getD_eq_getElem?_getD]; rw [List.getElem?_append_left g]
    rw [e]; exact this
  · obtain rfl : j = L.length := by omega
    rw [List.take_left]
    have e : (L ++ [[D.i a, D.i b]]).getD L.length [] = [D.i a, D.i b] := by
      simp only [List.getD_eq_getElem?_getD]; rw [List.getElem?_append_right (Nat.le_refl _)]; simp
    rw [e]; exact hb
theorem nrm5_iff (a b : List Int) : nrm 5 a = nrm 5 b ↔ ∀ i, i < 5 → a.getD i 0 = b.getD i 0 := by
  unfold nrm
  constructor
  · intro h i hi
    have := congrArg (fun l => l.getD i 0) h
    simpa [List.getD_eq_getElem?_getD, List.getElem?_map, List.getElem?_range hi] using this
  · intro h
    apply List.map_congr_left
    intro i hi
    exact h i (List.mem_range.1 hi)
theorem rpz_cmp (L : List (List D)) (p : Nat) (b : Bool) (z1 z2 u x : Int) (w at_ : List Int) (W : List Nat) (hW : ∀ x ∈ W, x < 4294967296) : ∀ d i, i ≤ 5 → 5 - i = d → (∀ j, j < i → ((nthN W j : Nat) : Int) = w.getD j 0) →
    ∃ k, rpz_f.H rpz_e [] k 1 [.r L, .n p, .b b, .i z1, .i z2, .i u, .i x, .l w, .l at_, .l (castL W), .i (i : Int)] = some ⟨prV (if nrm 5 (castL W) = nrm 5 w then ((u, x, L), (0, 0)) else ((0, 0, []), (at_.getD 4 0, 11))), []⟩ := by
  intro d
  induction d with
  | zero =>
    intro i hi hd hall
    obtain rfl : i = 5 := by omega
    refine ⟨1, ?_⟩
    rw [FnD.H_succ, rpz_l1]
    rw [if_pos ((nrm5_iff _ _).2 fun j hj => by rw [nth_castL]; exact hall j hj), List.take_length]
    exact condF (by decide) (condB (by simp) rfl)
  | succ d ih =>
    intro i hi hd hall
    have hi5 : i < 5 := by omega
    have hw := nthN_32 hW i
    have e : IntKind.u32.wrap ((nthN W i : Nat) : Int) = ((nthN W i : Nat) : Int) := by rw [wrap_u32, Nat.mod_eq_of_lt hw]
    have hin : inB (i : Int) 5 = true := (inB_iff _ _).2 (by omega)
    by_cases g : ((nthN W i : Nat) : Int) = w.getD i 0
    · obtain ⟨k, hk⟩ := ih (i + 1) (by omega) (by omega) (fun j hj => by
        rcases Nat.lt_or_ge j i with h | h
        · exact hall j h
        · obtain rfl : j = i := by omega
          exact g)
      refine ⟨k + 1, ?_⟩
      rw [FnD.H_succ, rpz_l1]
      rw [Int.toNat_natCast, nth_castL, e, show IntKind.i64.wrap ((i : Int) + 1) = ((i + 1 : Nat) : Int) by rw [IntWalk.i64_in _ (by omega)]; omega]
      exact condT (by omega) (condB hin (condT hi5 (condB hin (condT hi5 (condN (by rw [decide_eq_true g]; rfl) (condB (by simp) hk))))))
    · refine ⟨1, ?_⟩
      rw [FnD.H_succ, rpz_l1]
      rw [Int.toNat_natCast, nth_castL, e, if_neg (fun h => g (by have := (nrm5_iff _ _).1 h i hi5; rw [nth_castL] at this; exact this))]
      exact condT (by omega) (condB hin (condT hi5 (condB hin (condT hi5 (condB (by rw [decide_eq_false g]; rfl) rfl)))))
theorem rpz_loop (ls : List (List UInt8)) (hn : ls.length ≤ 65536) (hls : ∀ l ∈ ls, l.length ≤ 65536) : ∀ d i, i ≤ ls.length → ls.length - i = d → ∀ (L : List (List D)) (p : Nat) (b : Bool) (u x : Int) (w at_ : List Int) (m : List (Int × Int)),
    goodTo L L.length → (0 ≤ u ∧ u ≤ 999999999999999999) → (0 ≤ x ∧ x ≤ 999999999999999999) → atOk at_ m → (mapGet m 5 ≠ 0 → L ≠ []) →
    ∃ k, rpz_f.H rpz_e [] k 0 [.r L, .n p, .b b, .i 0, .i 0, .i u, .i x, .l w, .l at_, .r (rowsT ls), .i (i : Int)] = some ⟨prV (rsOut ls.length (rsGo (ls.drop i) ((i : Int) + 1) ⟨u, x, w, m, L⟩)), []⟩ := by
  intro d
  induction d with
  | zero =>
    intro i hi hd L p b u x w at_ m hg hu hx hat h5
    obtain rfl : i = ls.length := by omega
    have a2 := hat.2 2 (by decide) (by decide)
    have a3 := hat.2 3 (by decide) (by decide)
    have a4 := hat.2 4 (by decide) (by decide)
    have a5 := hat.2 5 (by decide) (by decide)
    rw [List.drop_length, rsGo]
    have en : IntKind.i64.wrap (((rowsT ls).length : Int) + 1) = (ls.length : Int) + 1 := by rw [rowsT_len, IntWalk.i64_in _ (by omega)]
    show ∃ k, _ = some (⟨prV (rsFin ls.length ⟨u, x, w, m, L⟩), []⟩ : Out)
    unfold rsFin
    dsimp only
    by_cases z2 : mapGet m 2 = 0
    · refine ⟨1, ?_⟩
      rw [FnD.H_succ, rpz_l0]
      dsimp only
      rw [if_pos (.inl z2), en]
      exact condF (by rw [rowsT_len]; omega) (condT (a2.trans z2) rfl)
    by_cases z3 : mapGet m 3 = 0
    · refine ⟨1, ?_⟩
      rw [FnD.H_succ, rpz_l0]
      dsimp only
      rw [if_pos (.inr (.inl z3)), en]
      exact condF (by rw [rowsT_len]; omega) (condF (fun e => z2 (a2.symm.trans e)) (condT (a3.trans z3) rfl))
    by_cases z4 : mapGet m 4 = 0
    · refine ⟨1, ?_⟩
      rw [FnD.H_succ, rpz_l0]
      dsimp only
      rw [if_pos (.inr (.inr (.inl z4))), en]
      exact condF (by rw [rowsT_len]; omega) (condF (fun e => z2 (a2.symm.trans e)) (condF (fun e => z3 (a3.symm.trans e)) (condT (a4.trans z4) rfl)))
    by_cases z5 : mapGet m 5 = 0
    · refine ⟨1, ?_⟩
      rw [FnD.H_succ, rpz_l0]
      dsimp only
      rw [if_pos (.inr (.inr (.inr z5))), en]
      exact condF (by rw [rowsT_len]; omega) (condF (fun e => z2 (a2.symm.trans e)) (condF (fun e => z3 (a3.symm.trans e)) (condF (fun e => z4 (a4.symm.trans e)) (condT (a5.trans z5) rfl))))
    have hc : (chkP u x L).2 = 0 := by
      rw [chkP_end hg, if_neg (by rintro (g | g | g); exact h5 z5 g; exact g hu; exact g hx)]
    have hdl := dgL_len hc
    have e : List.take (tx (dgL u x L)).size (bytesI (tx (dgL u x L))) = castL (bytN (dgL u x L)) := by
      rw [bytesI_tx, tx_size, List.take_of_length_le (by rw [castL_length, bytN_len]; exact Nat.le_refl _)]
    have es : sumW u x L = castL (wordsN (bytN (dgL u x L))) := by unfold sumW dgP; rw [if_pos hc]
    obtain ⟨k, hk⟩ := rpz_cmp L (L.length * 2) b 0 0 u x w at_ (wordsN (bytN (dgL u x L))) (wordsN_lt _) 5 0 (by decide) rfl (fun j hj => by omega)
    refine ⟨k + 1, ?_⟩
    rw [FnD.H_succ, rpz_l0]
    dsimp only
    rw [if_neg (by rintro (g | g | g | g) <;> contradiction), List.take_length, e, natL_castL, es]
    rw [a4] at hk
    refine condF (by rw [rowsT_len]; omega) (condF (fun e => z2 (a2.symm.trans e)) (condF (fun e => z3 (a3.symm.trans e)) (condF (fun e => z4 (a4.symm.trans e)) (condF (fun e => z5 (a5.symm.trans e)) (condB (by simp) (condT ⟨by omega, by omega, hg⟩ (condB ?_ (condT ⟨castB (bytN_lt _), by rw [castL_length, bytN_len]; omega⟩ (condB (by simp) hk)))))))))
    rw [bytesI_tx, castL_length, bytN_len, tx_size]; simp
  | succ d ih =>
    intro i hi hd L p b u x w at_ m hg hu hx hat h5
    have h : i < ls.length := by omega
    have hsz : (ls.getD i []).length ≤ 65536 := by
      rw [List.getD_eq_getElem?_getD, List.getElem?_eq_getElem h]; exact hls _ (List.getElem_mem h)
    have hdr : ls.drop i = ls.getD i [] :: ls.drop (i + 1) := by
      rw [List.drop_eq_getElem_cons h, List.getD_eq_getElem?_getD, List.getElem?_eq_getElem h]; rfl
    have hin : inB (i : Int) (rowsT ls).length = true := (inB_iff _ _).2 (by rw [rowsT_len]; omega)
    have hlt : (i : Int) < ((rowsT ls).length : Int) := by rw [rowsT_len]; omega
    have e1 : IntKind.i64.wrap ((i : Int) + 1) = ((i + 1 : Nat) : Int) := by rw [IntWalk.i64_in _ (by omega)]; omega
    have ti : ((i : Int) + 1) = ((i + 1 : Nat) : Int) := by omega
    rw [hdr, rsGo, ti]
    cases ho : scanP (ls.getD i []) with
    | none =>
      refine ⟨1, ?_⟩
      rw [FnD.H_succ, rpz_l0]
      dsimp only
      rw [Int.toNat_natCast, rowsT_at h, e1]
      simp only [D.toS, tx_toList, tx_size]
      rw [ho]
      refine condT hlt (condB hin (condT (by omega) (condB rfl ?_)))
      rfl
    | some v =>
      have hq := scanQ_some ho
      obtain ⟨hkind, hrange⟩ := scan_facts ho
      simp only [Option.getD_some]
      have gl := goodTo_last hg (Nat.le_refl _)
      rw [List.take_length] at gl
      rcases hkind with k1 | k2 | k3 | k4 | k5
      · have hE : adE (some v) m L = 0 := by
          unfold adE; dsimp only
          rw [if_neg (fun g => g.1 k1), if_neg (fun g => by rw [k1] at g; exact absurd g.1 (by decide))]
        have hU : rsUpd ⟨u, x, w, m, L⟩ v ((i + 1 : Nat) : Int) = ⟨u, x, w, mapSet m 1 ((i + 1 : Nat) : Int), L⟩ := by
          unfold rsUpd; rw [k1]; rfl
        rw [if_pos hE, hU]
        obtain ⟨k, hk⟩ := ih (i + 1) (by omega) (by omega) L p b u x w (setD 6 at_ 1 ((i + 1 : Nat) : Int)) (mapSet m 1 ((i + 1 : Nat) : Int)) hg hu hx (atOk_set hat (k := 1) (by decide) _) (by rw [mapGet_set, if_neg (by decide)]; exact h5)
        refine ⟨k + 1, ?_⟩
        rw [FnD.H_succ, rpz_l0]
        dsimp only
        rw [Int.toNat_natCast, rowsT_at h, e1]
        simp only [D.toS, tx_toList, tx_size]
        rw [ho, hq, k1]
        exact condT hlt (condB hin (condT (by omega) (condN rfl (condF (by decide) (condB rfl (condT (by decide) (condF (by decide) (condF (by decide) (condF (by decide) (condF (by decide) (condB (by simp) hk)))))))))))
      · have hv := hrange (.inl k2)
        have ha := hat.2 2 (by decide) (by decide)
        by_cases hd2 : 0 < mapGet m 2
        · have hE : adE (some v) m L = 4 := if_pos ⟨by rw [k2]; decide, by rw [k2]; decide, by rw [k2]; exact hd2⟩
          rw [if_neg (by rw [hE]; decide), hE]
          refine ⟨1, ?_⟩
          rw [FnD.H_succ, rpz_l0]
          dsimp only
          rw [Int.toNat_natCast, rowsT_at h, e1]
          simp only [D.toS, tx_toList, tx_size]
          rw [ho, hq, k2]
          exact condT hlt (condB hin (condT (by omega) (condN rfl (condT (by decide) (condT (by decide) (condB rfl (condT (by decide) (condT (by show 0 < at_.getD 2 0; rw [ha]; exact hd2) rfl))))))))
        · have hE : adE (some v) m L = 0 := by
            unfold adE; dsimp only
            rw [if_neg (fun g => by rw [k2] at g; exact hd2 g.2.2), if_neg (fun g => by rw [k2] at g; exact absurd g.1 (by decide))]
          have hU : rsUpd ⟨u, x, w, m, L⟩ v ((i + 1 : Nat) : Int) = ⟨v.a, x, w, mapSet m 2 ((i + 1 : Nat) : Int), L⟩ := by
            unfold rsUpd; rw [k2]; rfl
          rw [if_pos hE, hU]
          obtain ⟨k, hk⟩ := ih (i + 1) (by omega) (by omega) L p b v.a x w (setD 6 at_ 2 ((i + 1 : Nat) : Int)) (mapSet m 2 ((i + 1 : Nat) : Int)) hg hv hx (atOk_set hat (k := 2) (by decide) _) (by rw [mapGet_set, if_neg (by decide)]; exact h5)
          refine ⟨k + 1, ?_⟩
          rw [FnD.H_succ, rpz_l0]
          dsimp only
          rw [Int.toNat_natCast, rowsT_at h, e1]
          simp only [D.toS, tx_toList, tx_size]
          rw [ho, hq, k2]
          exact condT hlt (condB hin (condT (by omega) (condN rfl (condT (by decide) (condT (by decide) (condB rfl (condT (by decide) (condF (by show ¬ 0 < at_.getD 2 0; rw [ha]; exact hd2) (condB rfl (condT (by decide) (condT (by decide) (condB (by simp) hk))))))))))))
      · have hv := hrange (.inr k3)
        have ha := hat.2 3 (by decide) (by decide)
        by_cases hd2 : 0 < mapGet m 3
        · have hE : adE (some v) m L = 4 := if_pos ⟨by rw [k3]; decide, by rw [k3]; decide, by rw [k3]; exact hd2⟩
          rw [if_neg (by rw [hE]; decide), hE]
          refine ⟨1, ?_⟩
          rw [FnD.H_succ, rpz_l0]
          dsimp only
          rw [Int.toNat_natCast, rowsT_at h, e1]
          simp only [D.toS, tx_toList, tx_size]
          rw [ho, hq, k3]
          exact condT hlt (condB hin (condT (by omega) (condN rfl (condT (by decide) (condT (by decide) (condB rfl (condT (by decide) (condT (by show 0 < at_.getD 3 0; rw [ha]; exact hd2) rfl))))))))
        · have hE : adE (some v) m L = 0 := by
            unfold adE; dsimp only
            rw [if_neg (fun g => by rw [k3] at g; exact hd2 g.2.2), if_neg (fun g => by rw [k3] at g; exact absurd g.1 (by decide))]
          have hU : rsUpd ⟨u, x, w, m, L⟩ v ((i + 1 : Nat) : Int) = ⟨u, v.a, w, mapSet m 3 ((i + 1 : Nat) : Int), L⟩ := by
            unfold rsUpd; rw [k3]; rfl
          rw [if_pos hE, hU]
          obtain ⟨k, hk⟩ := ih (i + 1) (by omega) (by omega) L p b u v.a w (setD 6 at_ 3 ((i + 1 : Nat) : Int)) (mapSet m 3 ((i + 1 : Nat) : Int)) hg hu hv (atOk_set hat (k := 3) (by decide) _) (by rw [mapGet_set, if_neg (by decide)]; exact h5)
          refine ⟨k + 1, ?_⟩
          rw [FnD.H_succ, rpz_l0]
          dsimp only
          rw [Int.toNat_natCast, rowsT_at h, e1]
          simp only [D.toS, tx_toList, tx_size]
          rw [ho, hq, k3]
          exact condT hlt (condB hin (condT (by omega) (condN rfl (condT (by decide) (condT (by decide) (condB rfl (condT (by decide) (condF (by show ¬ 0 < at_.getD 3 0; rw [ha]; exact hd2) (condB rfl (condT (by decide) (condF (by decide) (condT (by decide) (condB (by simp) hk)))))))))))))
      · have ha := hat.2 4 (by decide) (by decide)
        by_cases hd2 : 0 < mapGet m 4
        · have hE : adE (some v) m L = 4 := if_pos ⟨by rw [k4]; decide, by rw [k4]; decide, by rw [k4]; exact hd2⟩
          rw [if_neg (by rw [hE]; decide), hE]
          refine ⟨1, ?_⟩
          rw [FnD.H_succ, rpz_l0]
          dsimp only
          rw [Int.toNat_natCast, rowsT_at h, e1]
          simp only [D.toS, tx_toList, tx_size]
          rw [ho, hq, k4]
          exact condT hlt (condB hin (condT (by omega) (condN rfl (condT (by decide) (condT (by decide) (condB rfl (condT (by decide) (condT (by show 0 < at_.getD 4 0; rw [ha]; exact hd2) rfl))))))))
        · have hE : adE (some v) m L = 0 := by
            unfold adE; dsimp only
            rw [if_neg (fun g => by rw [k4] at g; exact hd2 g.2.2), if_neg (fun g => by rw [k4] at g; exact absurd g.1 (by decide))]
          have hU : rsUpd ⟨u, x, w, m, L⟩ v ((i + 1 : Nat) : Int) = ⟨u, x, v.w, mapSet m 4 ((i + 1 : Nat) : Int), L⟩ := by
            unfold rsUpd; rw [k4]; rfl
          rw [if_pos hE, hU]
          obtain ⟨k, hk⟩ := ih (i + 1) (by omega) (by omega) L p b u x v.w (setD 6 at_ 4 ((i + 1 : Nat) : Int)) (mapSet m 4 ((i + 1 : Nat) : Int)) hg hu hx (atOk_set hat (k := 4) (by decide) _) (by rw [mapGet_set, if_neg (by decide)]; exact h5)
          refine ⟨k + 1, ?_⟩
          rw [FnD.H_succ, rpz_l0]
          dsimp only
          rw [Int.toNat_natCast, rowsT_at h, e1]
          simp only [D.toS, tx_toList, tx_size]
          rw [ho, hq, k4]
          exact condT hlt (condB hin (condT (by omega) (condN rfl (condT (by decide) (condT (by decide) (condB rfl (condT (by decide) (condF (by show ¬ 0 < at_.getD 4 0; rw [ha]; exact hd2) (condB rfl (condT (by decide) (condF (by decide) (condF (by decide) (condT (by decide) (condB (by simp) hk))))))))))))))
      · cases hb : behP L v.a v.b with
        | false =>
          have hE : adE (some v) m L = 10 := by
            unfold adE; dsimp only
            rw [if_neg (fun g => g.2.1 k5), if_pos ⟨k5, hb⟩]
          rw [if_neg (by rw [hE]; decide), hE]
          refine ⟨1, ?_⟩
          rw [FnD.H_succ, rpz_l0]
          dsimp only
          rw [Int.toNat_natCast, rowsT_at h, e1]
          simp only [D.toS, tx_toList, tx_size]
          rw [ho, hq, k5, List.take_length, hb]
          exact condT hlt (condB hin (condT (by omega) (condN rfl (condT (by decide) (condF (by decide) (condB rfl (condT (by decide) (condF (by decide) (condF (by decide) (condF (by decide) (condT (by decide) (condB (by simp) (condT gl (condB rfl rfl))))))))))))))
        | true =>
          have hE : adE (some v) m L = 0 := adE_data k5 hb
          have hU : rsUpd ⟨u, x, w, m, L⟩ v ((i + 1 : Nat) : Int) = ⟨u, x, w, mapSet m 5 ((i + 1 : Nat) : Int), L ++ [[D.i v.a, D.i v.b]]⟩ := by
            unfold rsUpd; rw [k5]; rfl
          rw [if_pos hE, hU]
          have hl64 := (behP_len hb).1
          obtain ⟨k, hk⟩ := ih (i + 1) (by omega) (by omega) (L ++ [[D.i v.a, D.i v.b]]) (L.length * 2) (nlAfter b 1) u x w (setD 6 at_ 5 ((i + 1 : Nat) : Int)) (mapSet m 5 ((i + 1 : Nat) : Int)) (goodTo_app hg hb) hu hx (atOk_set hat (k := 5) (by decide) _) (fun _ => by simp)
          refine ⟨k + 1, ?_⟩
          rw [FnD.H_succ, rpz_l0]
          dsimp only
          rw [Int.toNat_natCast, rowsT_at h, e1]
          simp only [D.toS, tx_toList, tx_size]
          rw [ho, hq, k5, List.take_length, hb]
          refine condT hlt (condB hin (condT (by omega) (condN rfl (condT (by decide) (condF (by decide) (condB rfl (condT (by decide) (condF (by decide) (condF (by decide) (condF (by decide) (condT (by decide) (condB (by simp) (condT gl (condN rfl (condB ?_ (condB ?_ hk))))))))))))))))
          · rw [pubOk_self]
            simp only [BEq.rfl, Nat.le_refl, decide_true, Bool.true_and]
            unfold roomB; rw [Bool.and_eq_true, decide_eq_true_eq, decide_eq_true_eq]; constructor <;> omega
          · simp
theorem rpz_run (s : ByteArray) : ∃ fu, rpz_f.run rpz_e [] fu [vS s] [] = some ⟨.tup [.agg [gI (parT s.data.toList).1.1, gI (parT s.data.toList).1.2.1, .c (.rows [.int .i64, .int .i64] (parT s.data.toList).1.2.2)], tI (parT s.data.toList).2.1, tI (parT s.data.toList).2.2], []⟩ := by
  obtain ⟨l, rfl, hl⟩ := tx_get s
  rw [tx_toList]
  have hb := linesP_bound l
  unfold parT
  by_cases h : 65536 < l.length
  · refine ⟨0, ?_⟩
    rw [FnD.run, rpz_ent, tx_toList, tx_size, if_pos h]
    exact condT (by omega) rfl
  · rw [if_neg h]
    obtain ⟨k, hk⟩ := rpz_loop (linesP l) (by omega) (fun x hx => by have := hb.2 x hx; omega) _ 0 (Nat.zero_le _) rfl [] 0 true 0 0 [0, 0, 0, 0, 0] [0, 0, 0, 0, 0, 0] [] (fun j hj => by simp at hj) (by decide) (by decide) ⟨rfl, fun k k1 k5 => by
      match k, k5 with
      | 0, _ => rfl
      | 1, _ => rfl
      | 2, _ => rfl
      | 3, _ => rfl
      | 4, _ => rfl
      | 5, _ => rfl⟩ (fun g => absurd rfl g)
    refine ⟨k, ?_⟩
    rw [FnD.run, rpz_ent, tx_toList, tx_size]
    refine condF (by omega) (condT (by omega) ?_)
    exact hk
theorem rpz_ok (s : ByteArray) : FnOk cfg 32 ([vS s].map SV.den) (.tup [.agg [gI (parT s.data.toList).1.1, gI (parT s.data.toList).1.2.1, .c (.rows [.int .i64, .int .i64] (parT s.data.toList).1.2.2)], tI (parT s.data.toList).2.1, tI (parT s.data.toList).2.2] : SV).den := by
  obtain ⟨nn, h⟩ := rpz_run s
  exact FnD.ok rpz_g rpz_f mixed Tryz.func32 rfl rfl rfl rfl rfl rfl h
noncomputable def c_rpz : SpecF := fun args _ K => match args with
  | [.one (.c (.str s))] => K (.tup [.agg [gI (parT s.data.toList).1.1, gI (parT s.data.toList).1.2.1, .c (.rows [.int .i64, .int .i64] (parT s.data.toList).1.2.2)], tI (parT s.data.toList).2.1, tI (parT s.data.toList).2.2]) []
  | _ => none
theorem c_rpz_ok : SpecOk cfg 32 c_rpz := by
  intro args bx K out h
  unfold c_rpz at h
  split at h
  · exact ⟨_, _, h, .inl (rpz_ok _ _), by simp [isTupS]⟩
  · cases h
end Go.Proofs.YtldofkogmkfpjaaGreatDoor
