/-
  The contracts of layer 11 (list): sum, Parse.
-/
import Derived.Test.YtldofkogmkfpjaaGreatDoorWLzSyList2
import Derived.Test.YtldofkogmkfpjaaGreatDoorWLzSySha2
namespace Go.Proofs.YtldofkogmkfpjaaGreatDoor
open Go Go.Ev Go.Sy
set_option linter.unusedSimpArgs false
set_option linter.unusedVariables false
set_option maxRecDepth 10000
set_option maxHeartbeats 4000000
open Go.Sy.Sh
/-! ### list.sum -/
noncomputable def lsm_e : Ev' := ⟨Tryz.prog, glob, Γof [(27, c_ldg), (110, c_shwd)]⟩
theorem lsm_g : Gd cfg lsm_e := gd (env_cons c_ldg_ok (env_cons c_shwd_ok (env_nil _)))
noncomputable def lsm_f : FnD := ⟨74, Tryz.f74, noSh, Tryz.f74.resultTypes.toList, 0⟩
theorem lsm_ent (h : Hd) (u : Int) (x : Int) (L : List (List D)) : lsm_f.ent lsm_e [] h [agg [.c (.int .i64 u), .c (.int .i64 x), .c (.rows [.int .i64, .int .i64] L)]] [] = bif decide ((tx (dgP u x L)).size ≤ (bytesI (tx (dgP u x L))).length) && true then bif decide (bytesOk (List.take (tx (dgP u x L)).size (bytesI (tx (dgP u x L)))) ∧ (List.take (tx (dgP u x L)).size (bytesI (tx (dgP u x L)))).length ≤ (1000000 : Nat)) then ret (agg [Sg.arr IntKind.u32 (5 : Nat) (castL (wordsN (natL (List.take (tx (dgP u x L)).size (bytesI (tx (dgP u x L)))))))]) else none else none := by kernel_rfl

theorem bytesI_tx (l : List UInt8) : bytesI (tx l) = castL (bytN l) := by
  unfold bytesI castL bytN
  rw [tx_toList, List.map_map]; rfl
theorem bytN_lt (l : List UInt8) : ∀ x ∈ bytN l, x < 256 := fun x hx => by
  unfold bytN at hx
  obtain ⟨c, _, rfl⟩ := List.mem_map.1 hx
  exact c.toNat_lt
theorem bytN_len (l : List UInt8) : (bytN l).length = l.length := by simp [bytN]
theorem lsm_run (u : Int) (x : Int) (L : List (List D)) : ∃ fu, lsm_f.run lsm_e [] fu [agg [.c (.int .i64 u), .c (.int .i64 x), .c (.rows [.int .i64, .int .i64] L)]] [] = some ⟨agg [.arr .u32 5 (sumW u x L)], []⟩ := by
  refine ⟨0, ?_⟩
  rw [FnD.run, lsm_ent]
  have hl := dgP_len u x L
  have e : List.take (tx (dgP u x L)).size (bytesI (tx (dgP u x L))) = castL (bytN (dgP u x L)) := by
    rw [bytesI_tx, tx_size, List.take_of_length_le (by rw [castL_length, bytN_len]; exact Nat.le_refl _)]
  rw [e]
  refine condB ?_ (condT ⟨castB (bytN_lt _), by rw [castL_length, bytN_len]; omega⟩ ?_)
  · rw [bytesI_tx, castL_length, bytN_len, tx_size]; simp
  · rw [natL_castL]; rfl
theorem lsm_ok (u : Int) (x : Int) (L : List (List D)) : FnOk cfg 74 ([agg [.c (.int .i64 u), .c (.int .i64 x), .c (.rows [.int .i64, .int .i64] L)]].map SV.den) (agg [.arr .u32 5 (sumW u x L)] : SV).den := by
  obtain ⟨nn, h⟩ := lsm_run u x L
  exact FnD.ok lsm_g lsm_f mixed Tryz.func74 rfl rfl rfl rfl rfl rfl h
noncomputable def c_lsm : SpecF := fun args _ K => match args with
  | [.one (.agg [.c (.int .i64 u), .c (.int .i64 x), .c (.rows [.int .i64, .int .i64] L)])] => K (agg [.arr .u32 5 (sumW u x L)]) []
  | _ => none
theorem c_lsm_ok : SpecOk cfg 74 c_lsm := by
  intro args bx K out h
  unfold c_lsm at h
  split at h
  · exact ⟨_, _, h, .inl (lsm_ok _ _ _ _), by simp [isTupS]⟩
  · cases h
noncomputable def c_add19 : SpecF := c_add 19
theorem c_add19_ok : SpecOk cfg 78 c_add19 := c_add_ok 19
/-! ### list.Parse -/
noncomputable def lprs_e : Ev' := ⟨Tryz.prog, glob, Γof [(77, c_llines), (78, c_add19), (74, c_lsm)]⟩
theorem lprs_g : Gd cfg lprs_e := gd (env_cons c_llines_ok (env_cons c_add19_ok (env_cons c_lsm_ok (env_nil _))))
noncomputable def lprs_f : FnD := ⟨28, Tryz.f28, shOf [(0, ⟨78, [(17, ⟨.rows [.int .i64, .int .i64], true, true⟩), (16, ⟨.mp .i64 .i64, false, false⟩)], [(2, [.c (.int .i64), .c (.int .i64), .c .nils]), (18, [.c (.int .i64), .c (.int .i64), .c (.sl 17 2), .arr .u32 5, .c (.mref 16)])], [(2, .c (.ptr 2 0)), (5, .c (.ptr 18 0)), (6, .c (.rows [.str])), (21, .c (.rows [.str])), (22, .c (.int .i64)), (23, .c (.int .i64))]⟩), (1, ⟨78, [(40, ⟨.ints .i64, false, false⟩), (17, ⟨.rows [.int .i64, .int .i64], true, true⟩), (16, ⟨.mp .i64 .i64, false, false⟩)], [(2, [.c (.int .i64), .c (.int .i64), .c .nils]), (18, [.c (.int .i64), .c (.int .i64), .c (.sl 17 2), .arr .u32 5, .c (.mref 16)])], [(2, .c (.ptr 2 0)), (5, .c (.ptr 18 0)), (6, .c (.rows [.str])), (40, .c (.sl 40 1)), (41, .c (.int .i64)), (42, .c (.int .i64))]⟩)], Tryz.f28.resultTypes.toList, 0⟩
theorem lprs_ent (h : Hd) (s : ByteArray) : lprs_f.ent lprs_e [] h [vS s] [] = bif decide ((65536 : Int) < (↑s.size : Int)) then ret (SV.tup [S1.agg [gI (0 : Int), gI (0 : Int), Sg.c (Cl.rows [Kd.int IntKind.i64, Kd.int IntKind.i64] [])], tI (0 : Int), tI (2 : Int)]) else bif decide (s.size ≤ (1000000000 : Nat)) then h (0 : Nat) [Lf.r [], Lf.n (0 : Nat), Lf.b true, Lf.m [], Lf.i (0 : Int), Lf.i (0 : Int), Lf.i (0 : Int), Lf.i (0 : Int), Lf.l [(0 : Int), (0 : Int), (0 : Int), (0 : Int), (0 : Int)], Lf.r (List.map (fun l => [D.s (tx l)]) (linesP s.data.toList)), Lf.r (List.map (fun l => [D.s (tx l)]) (linesP s.data.toList)), Lf.i (↑(List.map (fun l => [D.s (tx l)]) (linesP s.data.toList)).length : Int), Lf.i (0 : Int)] else none := by kernel_rfl
theorem lprs_l0 (h : Hd) (L : List (List D)) (p : Nat) (b : Bool) (m : List (Int × Int)) (z1 : Int) (z2 : Int) (u : Int) (x : Int) (w : List Int) (q : List (List D)) (o : List (List D)) (n : Int) (i : Int) : lprs_f.seg lprs_e [] h 0 [.r L, .n p, .b b, .m m, .i z1, .i z2, .i u, .i x, .l w, .r q, .r o, .i n, .i i] = let v1 : Int := adE (scanP ((o.getD i.toNat []).getD (0 : Nat) (D.i (0 : Int))).toS.data.toList) m L; let v2 : Int := ((scanP ((o.getD i.toNat []).getD (0 : Nat) (D.i (0 : Int))).toS.data.toList).getD ln0).k; let v3 : Int := ((scanP ((o.getD i.toNat []).getD (0 : Nat) (D.i (0 : Int))).toS.data.toList).getD ln0).a; let v4 : List (List D) := L ++ [[D.i v3, D.i ((scanP ((o.getD i.toNat []).getD (0 : Nat) (D.i (0 : Int))).toS.data.toList).getD ln0).b]]; let v5 : Nat := v4.length; let v6 : List (Int × Int) := mapSet m v2 (IntKind.i64.wrap (i + (1 : Int))); let v7 : Int := if v2 = (2 : Int) then v3 else u; let v8 : Int := if v2 = (3 : Int) then v3 else x; let v9 : List Int := if v2 = (4 : Int) then ((scanP ((o.getD i.toNat []).getD (0 : Nat) (D.i (0 : Int))).toS.data.toList).getD ln0).w else w; bif decide (i < n) then bif inB i o.length then bif decide (((o.getD i.toNat []).getD (0 : Nat) (D.i (0 : Int))).toS.size ≤ (9223372036854775807 : Nat)) then bif decide (b = b) && decide (L.length = L.length) then bif b then bif decide (L = []) then bif decide (v1 = (0 : Int)) then bif decide (v2 = (5 : Int)) then bif decide (L.length + (1 : Nat) = v5) then h (0 : Nat) [Lf.r v4, Lf.n (L.length * (2 : Nat)), Lf.b false, Lf.m (mapSet m (5 : Int) (IntKind.i64.wrap (i + (1 : Int)))), Lf.i z1, Lf.i z2, Lf.i u, Lf.i x, Lf.l w, Lf.r q, Lf.r o, Lf.i n, Lf.i (IntKind.i64.wrap (i + (1 : Int)))] else none else h (0 : Nat) [Lf.r [], Lf.n (0 : Nat), Lf.b true, Lf.m v6, Lf.i z1, Lf.i z2, Lf.i v7, Lf.i v8, Lf.l v9, Lf.r q, Lf.r o, Lf.i n, Lf.i (IntKind.i64.wrap (i + (1 : Int)))] else bif !decide (v1 = (0 : Int)) then ret (SV.tup [S1.agg [gI (0 : Int), gI (0 : Int), Sg.c (Cl.rows [Kd.int IntKind.i64, Kd.int IntKind.i64] [])], tI (IntKind.i64.wrap (i + (1 : Int))), tI v1]) else none else none else bif decide (L.length ≤ (64 : Nat) ∧ lastOk L ∧ p ≤ L.length * (2 : Nat)) then bif decide (v1 = (0 : Int)) then bif decide (v2 = (5 : Int)) then bif decide (L.length + (1 : Nat) = v5) then h (0 : Nat) [Lf.r v4, Lf.n (L.length * (2 : Nat)), Lf.b false, Lf.m (mapSet m (5 : Int) (IntKind.i64.wrap (i + (1 : Int)))), Lf.i z1, Lf.i z2, Lf.i u, Lf.i x, Lf.l w, Lf.r q, Lf.r o, Lf.i n, Lf.i (IntKind.i64.wrap (i + (1 : Int)))] else none else bif decide (L.length = L.length) then h (0 : Nat) [Lf.r L, Lf.n p, Lf.b false, Lf.m v6, Lf.i z1, Lf.i z2, Lf.i v7, Lf.i v8, Lf.l v9, Lf.r q, Lf.r o, Lf.i n, Lf.i (IntKind.i64.wrap (i + (1 : Int)))] else none else bif !decide (v1 = (0 : Int)) then ret (SV.tup [S1.agg [gI (0 : Int), gI (0 : Int), Sg.c (Cl.rows [Kd.int IntKind.i64, Kd.int IntKind.i64] [])], tI (IntKind.i64.wrap (i + (1 : Int))), tI v1]) else none else none else none else none else none else bif b == b && (decide (L.length = L.length) && true) then h (1 : Nat) [Lf.l [(2 : Int), (3 : Int), (4 : Int), (5 : Int)], Lf.r L, Lf.n p, Lf.b b, Lf.m m, Lf.i z1, Lf.i z2, Lf.i u, Lf.i x, Lf.l w, Lf.r q, Lf.i (↑(4 : Nat) : Int), Lf.i (0 : Int)] else none := by kernel_rfl
theorem lprs_l1 (h : Hd) (c : List Int) (L : List (List D)) (p : Nat) (b : Bool) (m : List (Int × Int)) (z1 : Int) (z2 : Int) (u : Int) (x : Int) (w : List Int) (q : List (List D)) (n : Int) (i : Int) : lprs_f.seg lprs_e [] h 1 [.l c, .r L, .n p, .b b, .m m, .i z1, .i z2, .i u, .i x, .l w, .r q, .i n, .i i] = bif decide (i < n) then bif inB i c.length then bif decide (i.toNat < c.length) then bif decide (mapGet m (c.getD i.toNat (0 : Int)) = (0 : Int)) then ret (SV.tup [S1.agg [gI (0 : Int), gI (0 : Int), Sg.c (Cl.rows [Kd.int IntKind.i64, Kd.int IntKind.i64] [])], tI (IntKind.i64.wrap ((↑q.length : Int) + (1 : Int))), tI (4 : Int)]) else bif b == b && (decide (L.length = L.length) && decide (c.length = c.length)) then h (1 : Nat) [Lf.l c, Lf.r L, Lf.n p, Lf.b b, Lf.m m, Lf.i z1, Lf.i z2, Lf.i u, Lf.i x, Lf.l w, Lf.r q, Lf.i n, Lf.i (IntKind.i64.wrap (i + (1 : Int)))] else none else none else none else bif b == b && decide (L.length ≤ L.length) && true && true then bif !decide (nrm (5 : Nat) (sumW u x (List.take L.length L)) = nrm (5 : Nat) w) then ret (SV.tup [S1.agg [gI (0 : Int), gI (0 : Int), Sg.c (Cl.rows [Kd.int IntKind.i64, Kd.int IntKind.i64] [])], tI (mapGet m (4 : Int)), tI (11 : Int)]) else bif b == b && decide (L.length ≤ L.length) && true && true then ret (SV.tup [S1.agg [gI u, gI x, Sg.c (Cl.rows [Kd.int IntKind.i64, Kd.int IntKind.i64] (List.take L.length L))], tI (0 : Int), tI (0 : Int)]) else none else none := by kernel_rfl

def prV (p : PR) : SV := .tup [.agg [gI p.1.1, gI p.1.2.1, .c (.rows [.int .i64, .int .i64] p.1.2.2)], tI p.2.1, tI p.2.2]
theorem retP {v : SV} {p q : PR} (h : p = q) (hv : v = prV p) : ret v = some ⟨prV q, []⟩ := by rw [hv, h]
theorem lprs_kind (c : Int) (cs : List Int) (i : Nat) (hc : cs.getD i 0 = c) (hi : i < cs.length) (L : List (List D)) (p : Nat) (b : Bool) (m : List (Int × Int)) (z1 z2 u x : Int) (w : List Int) (q : List (List D)) (hq : q.length ≤ 70000) (k : Nat) (hl : cs.length ≤ 4) :
    lprs_f.H lprs_e [] (k + 1) 1 [.l cs, .r L, .n p, .b b, .m m, .i z1, .i z2, .i u, .i x, .l w, .r q, .i (cs.length : Int), .i (i : Int)] =
      if mapGet m c = 0 then some ⟨prV ((0, 0, []), ((q.length : Int) + 1, 4)), []⟩ else lprs_f.H lprs_e [] k 1 [.l cs, .r L, .n p, .b b, .m m, .i z1, .i z2, .i u, .i x, .l w, .r q, .i (cs.length : Int), .i ((i + 1 : Nat) : Int)] := by
  rw [FnD.H_succ, lprs_l1]
  rw [Int.toNat_natCast, hc, show IntKind.i64.wrap ((i : Int) + 1) = ((i + 1 : Nat) : Int) by rw [show (i : Int) + 1 = ((i + 1 : Nat) : Int) by omega]; exact IntWalk.i64_in _ (by omega)]
  refine condT (by omega) (condB ((inB_iff _ _).2 (by omega)) (condT hi ?_))
  by_cases h : mapGet m c = 0
  · rw [if_pos h]
    refine condT h ?_
    rw [IntWalk.i64_in _ (by omega)]; rfl
  · rw [if_neg h]
    exact condF h (condB (by simp) rfl)
theorem lprs_end (L : List (List D)) (p : Nat) (b : Bool) (m : List (Int × Int)) (z1 z2 u x : Int) (w : List Int) (q : List (List D)) (hq : q.length ≤ 70000) (k : Nat) :
    lprs_f.H lprs_e [] (k + 5) 1 [.l [2, 3, 4, 5], .r L, .n p, .b b, .m m, .i z1, .i z2, .i u, .i x, .l w, .r q, .i 4, .i 0] = some ⟨prV (rsFin q.length ⟨u, x, w, m, L⟩), []⟩ := by
  have s0 := lprs_kind 2 [2, 3, 4, 5] 0 rfl (by decide) L p b m z1 z2 u x w q hq (k + 4) (by decide)
  have s1 := lprs_kind 3 [2, 3, 4, 5] 1 rfl (by decide) L p b m z1 z2 u x w q hq (k + 3) (by decide)
  have s2 := lprs_kind 4 [2, 3, 4, 5] 2 rfl (by decide) L p b m z1 z2 u x w q hq (k + 2) (by decide)
  have s3 := lprs_kind 5 [2, 3, 4, 5] 3 rfl (by decide) L p b m z1 z2 u x w q hq (k + 1) (by decide)
  refine s0.trans ?_
  unfold rsFin
  dsimp only
  by_cases h0 : mapGet m 2 = 0
  · rw [if_pos h0, if_pos (.inl h0)]
  rw [if_neg h0]
  refine s1.trans ?_
  by_cases h1 : mapGet m 3 = 0
  · rw [if_pos h1, if_pos (.inr (.inl h1))]
  rw [if_neg h1]
  refine s2.trans ?_
  by_cases h2 : mapGet m 4 = 0
  · rw [if_pos h2, if_pos (.inr (.inr (.inl h2)))]
  rw [if_neg h2]
  refine s3.trans ?_
  by_cases h3 : mapGet m 5 = 0
  · rw [if_pos h3, if_pos (.inr (.inr (.inr h3)))]
  rw [if_neg h3, if_neg (by rintro (h | h | h | h) <;> contradiction)]
  rw [FnD.H_succ, lprs_l1]
  rw [List.take_length]
  refine condF (by decide) (condB (by simp) ?_)
  by_cases hw : nrm 5 (sumW u x L) = nrm 5 w
  · rw [if_pos hw, decide_eq_true hw]
    exact condN rfl (condB (by simp) rfl)
  · rw [if_neg hw, decide_eq_false hw]; rfl
def rowsT (ls : List (List UInt8)) : List (List D) := ls.map fun l => [D.s (tx l)]
theorem rowsT_at {ls : List (List UInt8)} {i : Nat} (h : i < ls.length) : ((rowsT ls).getD i []).getD 0 (D.i 0) = D.s (tx (ls.getD i [])) := by
  unfold rowsT
  simp only [List.getD_eq_getElem?_getD, List.getElem?_map, List.getElem?_eq_getElem h, Option.map_some, Option.getD_some]
  rfl
theorem rowsT_len (ls : List (List UInt8)) : (rowsT ls).length = ls.length := by simp [rowsT]
theorem adE_beh {v : LnV} {m : List (Int × Int)} {L : List (List D)} (h : adE (some v) m L = 0) (h5 : v.k = 5) : behP L v.a v.b = true := by
  cases hb : behP L v.a v.b with
  | true => rfl
  | false =>
    have : adE (some v) m L = 10 := (if_neg (fun g => g.2.1 h5)).trans (if_pos ⟨h5, hb⟩)
    rw [this] at h; cases h
theorem lprs_loop (ls : List (List UInt8)) (hn : ls.length ≤ 65536) (hls : ∀ l ∈ ls, l.length ≤ 65536) : ∀ k i, i ≤ ls.length → ls.length - i < k → ∀ (L : List (List D)) (p : Nat) (b : Bool) (m : List (Int × Int)) (u x : Int) (w : List Int),
    L.length ≤ 64 → lastOk L → p ≤ L.length * 2 → (b = true ↔ L = []) →
    lprs_f.H lprs_e [] (k + 5) 0 [.r L, .n p, .b b, .m m, .i 0, .i 0, .i u, .i x, .l w, .r (rowsT ls), .r (rowsT ls), .i (ls.length : Int), .i (i : Int)] = some ⟨prV (rsOut ls.length (rsGo (ls.drop i) ((i : Int) + 1) ⟨u, x, w, m, L⟩)), []⟩ := by
  intro k
  induction k with
  | zero => intro i _ h; omega
  | succ k ih =>
    intro i hi hk L p b m u x w hL hlo hp hb
    rw [show k + 1 + 5 = (k + 5) + 1 by omega, FnD.H_succ, lprs_l0]
    by_cases h : i < ls.length
    · dsimp only
      have hsz : (ls.getD i []).length ≤ 65536 := by
        rw [List.getD_eq_getElem?_getD, List.getElem?_eq_getElem h]; exact hls _ (List.getElem_mem h)
      have hd : ls.drop i = ls.getD i [] :: ls.drop (i + 1) := by
        rw [List.drop_eq_getElem_cons h, List.getD_eq_getElem?_getD, List.getElem?_eq_getElem h]; rfl
      rw [Int.toNat_natCast, rowsT_at h, rowsT_len, show IntKind.i64.wrap ((i : Int) + 1) = ((i + 1 : Nat) : Int) by rw [show (i : Int) + 1 = ((i + 1 : Nat) : Int) by omega]; exact IntWalk.i64_in _ (by omega)]
      simp only [D.toS, tx_toList, tx_size]
      rw [hd, rsGo]
      dsimp only
      have ti : ((i : Int) + 1) = ((i + 1 : Nat) : Int) := by omega
      rw [ti]
      generalize ho : scanP (ls.getD i []) = o
      refine condT (by omega) (condB ((inB_iff _ _).2 (by omega)) (condT (by omega) (condB (by simp) ?_)))
      by_cases hLn : L = []
      · have hbt : b = true := hb.2 hLn
        subst hLn hbt
        refine condB rfl (condT rfl ?_)
        by_cases e0 : adE o m [] = 0
        · refine condT e0 ?_
          rw [if_pos e0]
          unfold rsUpd
          cases o with
          | none => cases e0
          | some v =>
          simp only [Option.getD_some]
          by_cases k5 : v.k = 5
          · have hbe := beh_add (adE_beh e0 k5)
            rw [if_pos k5]
            refine condT k5 (condT rfl ?_)
            exact ih (i + 1) (by omega) (by omega) _ _ _ _ _ _ _ hbe.1 hbe.2 (by simp) (by simp)
          · rw [if_neg k5]
            refine condF k5 ?_
            exact ih (i + 1) (by omega) (by omega) _ _ _ _ _ _ _ hL hlo (by simp) (by simp)
        · refine condF e0 ?_
          rw [if_neg e0, decide_eq_false e0]; rfl
      · have hbf : b = false := by cases b with
          | false => rfl
          | true => exact absurd (hb.1 rfl) hLn
        subst hbf
        refine condN rfl (condT ⟨hL, hlo, hp⟩ ?_)
        by_cases e0 : adE o m L = 0
        · refine condT e0 ?_
          rw [if_pos e0]
          unfold rsUpd
          cases o with
          | none => cases e0
          | some v =>
          simp only [Option.getD_some]
          by_cases k5 : v.k = 5
          · have hbe := beh_add (adE_beh e0 k5)
            rw [if_pos k5]
            refine condT k5 (condT (by simp) ?_)
            exact ih (i + 1) (by omega) (by omega) _ _ _ _ _ _ _ hbe.1 hbe.2 (by simp; omega) (by simp)
          · rw [if_neg k5]
            refine condF k5 (condT (by trivial) ?_)
            exact ih (i + 1) (by omega) (by omega) _ _ _ _ _ _ _ hL hlo hp (by simp [hLn])
        · refine condF e0 ?_
          rw [if_neg e0, decide_eq_false e0]; rfl
    · have e : i = ls.length := by omega
      subst e
      rw [List.drop_length, rsGo]
      dsimp only
      refine condF (by omega) (condB (by simp) ?_)
      have := lprs_end L p b m 0 0 u x w (rowsT ls) (by rw [rowsT_len]; omega) k
      rw [rowsT_len] at this
      exact this
theorem lprs_run (s : ByteArray) : ∃ fu, lprs_f.run lprs_e [] fu [vS s] [] = some ⟨.tup [.agg [gI (parT s.data.toList).1.1, gI (parT s.data.toList).1.2.1, .c (.rows [.int .i64, .int .i64] (parT s.data.toList).1.2.2)], tI (parT s.data.toList).2.1, tI (parT s.data.toList).2.2], []⟩ := by
  obtain ⟨l, rfl, hl⟩ := tx_get s
  rw [tx_toList]
  have hb := linesP_bound l
  refine ⟨(linesP l).length + 1 + 5, ?_⟩
  rw [FnD.run, lprs_ent, tx_toList, tx_size]
  unfold parT
  by_cases h : 65536 < l.length
  · rw [if_pos h]
    exact condT (by omega) rfl
  · rw [if_neg h]
    refine condF (by omega) (condT (by omega) ?_)
    have := lprs_loop (linesP l) (by omega) (fun x hx => by have := hb.2 x hx; omega) ((linesP l).length + 1) 0 (by omega) (by omega) [] 0 true [] 0 0 [0, 0, 0, 0, 0] (by simp) (.inl rfl) (by simp) (by simp)
    rw [show ((linesP l).map fun l => [D.s (tx l)]) = rowsT (linesP l) from rfl, rowsT_len]
    exact this
theorem lprs_ok (s : ByteArray) : FnOk cfg 28 ([vS s].map SV.den) (.tup [.agg [gI (parT s.data.toList).1.1, gI (parT s.data.toList).1.2.1, .c (.rows [.int .i64, .int .i64] (parT s.data.toList).1.2.2)], tI (parT s.data.toList).2.1, tI (parT s.data.toList).2.2] : SV).den := by
  obtain ⟨nn, h⟩ := lprs_run s
  exact FnD.ok lprs_g lprs_f mixed Tryz.func28 rfl rfl rfl rfl rfl rfl h
noncomputable def c_lprs : SpecF := fun args _ K => match args with
  | [.one (.c (.str s))] => K (.tup [.agg [gI (parT s.data.toList).1.1, gI (parT s.data.toList).1.2.1, .c (.rows [.int .i64, .int .i64] (parT s.data.toList).1.2.2)], tI (parT s.data.toList).2.1, tI (parT s.data.toList).2.2]) []
  | _ => none
theorem c_lprs_ok : SpecOk cfg 28 c_lprs := by
  intro args bx K out h
  unfold c_lprs at h
  split at h
  · exact ⟨_, _, h, .inl (lprs_ok _ _), by simp [isTupS]⟩
  · cases h
end Go.Proofs.YtldofkogmkfpjaaGreatDoor
