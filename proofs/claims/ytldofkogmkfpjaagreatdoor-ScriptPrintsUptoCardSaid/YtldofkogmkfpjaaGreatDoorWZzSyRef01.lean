/-
  The contracts of the document's whole numbers (epactref01).
-/
import Derived.Test.YtldofkogmkfpjaaGreatDoorWZzSyDec
import Derived.Test.YtldofkogmkfpjaaGreatDoorWPBig
namespace Go.Proofs.YtldofkogmkfpjaaGreatDoor
open Go Go.Ev Go.Sy
set_option linter.unusedSimpArgs false
set_option linter.unusedVariables false
set_option maxRecDepth 10000
set_option maxHeartbeats 4000000
/-! ### epactref01.trim -/
noncomputable def rtrim_e : Ev' := ⟨Tryz.prog, glob, Γof []⟩
theorem rtrim_g : Gd cfg rtrim_e := gd (env_nil _)
noncomputable def rtrim_f : FnD := ⟨176, Tryz.f176, shOf [(0, ⟨21, [], [], [(0, .c (.ints .i64)), (3, .c (.int .i64))]⟩)], Tryz.f176.resultTypes.toList, 0⟩
theorem rtrim_ent (h : Hd) (l : List Int) : rtrim_f.ent rtrim_e [] h [c1 (.ints .i64 l)] [] = h (0 : Nat) [Lf.l l, Lf.i (↑l.length : Int)] := by kernel_rfl
theorem rtrim_l0 (h : Hd) (l0 : List Int) (i1 : Int) : rtrim_f.seg rtrim_e [] h 0 [.l l0, .i i1] = bif decide ((0 : Int) < i1) then bif inB (IntKind.i64.wrap (i1 - (1 : Int))) l0.length then bif decide (l0.getD (IntKind.i64.wrap (i1 - (1 : Int))).toNat (0 : Int) = (0 : Int)) then h (0 : Nat) [Lf.l l0, Lf.i (IntKind.i64.wrap (i1 - (1 : Int)))] else bif slB (0 : Int) i1 l0.length then ret (c1 (Cl.ints IntKind.i64 (piece l0 (0 : Int) i1))) else none else none else bif slB (0 : Int) i1 l0.length then ret (c1 (Cl.ints IntKind.i64 (piece l0 (0 : Int) i1))) else none := by kernel_rfl

theorem rtrim_loop (l : List Int) (hl : l.length ≤ 9223372036854775807) : ∀ (i k : Nat), i ≤ l.length → i < k → rtrim_f.H rtrim_e [] k 0 [.l l, .i i] = some ⟨c1 (.ints .i64 (trimL (l.take i))), []⟩ := by
  intro i
  induction i with
  | zero =>
    intro k hi hk
    obtain ⟨k, rfl⟩ : ∃ g, k = g + 1 := ⟨k - 1, by omega⟩
    rw [FnD.H_succ, rtrim_l0]
    refine condF (by omega) (condB (by simp [slB]) ?_)
    simp [piece, trimL]
  | succ j ih =>
    intro k hi hk
    obtain ⟨k, rfl⟩ : ∃ g, k = g + 1 := ⟨k - 1, by omega⟩
    rw [FnD.H_succ, rtrim_l0]
    rw [show IntKind.i64.wrap (((j + 1 : Nat) : Int) - 1) = (j : Int) by rw [IntWalk.i64_in _ (by omega)]; omega, Int.toNat_natCast]
    have hb : inB (j : Int) l.length = true := (inB_iff _ _).2 (by omega)
    have e : l.getD j 0 = l[j] := by rw [List.getD_eq_getElem?_getD, List.getElem?_eq_getElem (by omega)]; rfl
    have et : l.take (j + 1) = l.take j ++ [l[j]] := List.take_succ_eq_append_getElem (by omega)
    refine condT (by omega) (condB hb ?_)
    rw [e, et]
    by_cases h : l[j] = 0
    · refine condT h ?_
      rw [h, trim_snoc0]
      exact ih k (by omega) (by omega)
    · refine condF h (condB (by simp [slB]; omega) ?_)
      rw [trim_snoc h, ← et]
      simp [piece]
theorem rtrim_run (l : List Int) (hp : l.length ≤ 9223372036854775807) : ∃ fu, rtrim_f.run rtrim_e [] fu [c1 (.ints .i64 l)] [] = some ⟨c1 (.ints .i64 (trimL l)), []⟩ := by
  refine ⟨l.length + 1, ?_⟩
  rw [FnD.run, rtrim_ent, rtrim_loop l hp l.length _ (by omega) (by omega), List.take_length]
theorem rtrim_ok (l : List Int) (hp : l.length ≤ 9223372036854775807) : FnOk cfg 176 ([c1 (.ints .i64 l)].map SV.den) (c1 (.ints .i64 (trimL l)) : SV).den := by
  obtain ⟨nn, h⟩ := rtrim_run l hp
  exact FnD.ok rtrim_g rtrim_f mixed Tryz.func176 rfl rfl rfl rfl rfl rfl h
noncomputable def c_rtrim : SpecF := fun args _ K => match args with
  | [.one (.c (.ints .i64 l))] => bif decide (l.length ≤ 9223372036854775807) then K (c1 (.ints .i64 (trimL l))) [] else none
  | _ => none
theorem c_rtrim_ok : SpecOk cfg 176 c_rtrim := by
  intro args bx K out h
  unfold c_rtrim at h
  split at h
  · obtain ⟨hp, h⟩ := bif_some h
    exact ⟨_, _, h, .inl (rtrim_ok _ (of_decide_eq_true hp) _), by simp [isTupS]⟩
  · cases h
/-! ### epactref01.Word -/
noncomputable def rword_e : Ev' := ⟨Tryz.prog, glob, Γof [(176, c_rtrim)]⟩
theorem rword_g : Gd cfg rword_e := gd (env_cons c_rtrim_ok (env_nil _))
noncomputable def rword_f : FnD := ⟨171, Tryz.f171, noSh, Tryz.f171.resultTypes.toList, 0⟩
theorem rword_ent (h : Hd) (n : Int) : rword_f.ent rword_e [] h [c1 (.int .u64 n)] [] = ret (agg [Sg.c (Cl.bool false), Sg.c (Cl.ints IntKind.i64 (trimL [IntKind.i64.wrap (andI IntKind.u64 n (65535 : Int)), IntKind.i64.wrap (andI IntKind.u64 (shrI IntKind.u64 n (16 : Int)) (65535 : Int)), IntKind.i64.wrap (andI IntKind.u64 (shrI IntKind.u64 n (32 : Int)) (65535 : Int)), IntKind.i64.wrap (shrI IntKind.u64 n (48 : Int))]))]) := by kernel_rfl
theorem rword_run (n : Int) (hp : isW n) : ∃ fu, rword_f.run rword_e [] fu [c1 (.int .u64 n)] [] = some ⟨agg [.c (.bool false), .c (.ints .i64 (bigD n.toNat))], []⟩ := by
  refine ⟨0, ?_⟩
  rw [FnD.run, rword_ent]
  have h1 : isW (n / 65536) := by unfold isW at hp ⊢; omega
  have h2 : isW (n / 4294967296) := by unfold isW at hp ⊢; omega
  have hp' := hp
  unfold isW at hp'
  simp only [shr16, shr32, shr48, and16 hp, and16 h1, and16 h2]
  rw [IntWalk.i64_in _ (by omega), IntWalk.i64_in _ (by omega), IntWalk.i64_in _ (by omega), IntWalk.i64_in _ (by omega)]
  have hd : dgt [n % 65536, n / 65536 % 65536, n / 4294967296 % 65536, n / 281474976710656] := by
    intro d hd
    simp only [List.mem_cons, List.not_mem_nil, or_false] at hd
    omega
  rw [trim_bigD hd, show valD [n % 65536, n / 65536 % 65536, n / 4294967296 % 65536, n / 281474976710656] = n by simp only [valD]; omega]
theorem rword_ok (n : Int) (hp : isW n) : FnOk cfg 171 ([c1 (.int .u64 n)].map SV.den) (agg [.c (.bool false), .c (.ints .i64 (bigD n.toNat))] : SV).den := by
  obtain ⟨nn, h⟩ := rword_run n hp
  exact FnD.ok rword_g rword_f mixed Tryz.func171 rfl rfl rfl rfl rfl rfl h
noncomputable def c_rword : SpecF := fun args _ K => match args with
  | [.one (.c (.int .u64 n))] => bif decide (isW n) then K (agg [.c (.bool false), .c (.ints .i64 (bigD n.toNat))]) [] else none
  | _ => none
theorem c_rword_ok : SpecOk cfg 171 c_rword := by
  intro args bx K out h
  unfold c_rword at h
  split at h
  · obtain ⟨hp, h⟩ := bif_some h
    exact ⟨_, _, h, .inl (rword_ok _ (of_decide_eq_true hp) _), by simp [isTupS]⟩
  · cases h
/-! ### epactref01.cmp -/
noncomputable def rcmp_e : Ev' := ⟨Tryz.prog, glob, Γof []⟩
theorem rcmp_g : Gd cfg rcmp_e := gd (env_nil _)
noncomputable def rcmp_f : FnD := ⟨174, Tryz.f174, shOf [(0, ⟨41, [], [], [(0, .c (.ints .i64)), (1, .c (.ints .i64)), (5, .c (.int .i64))]⟩)], Tryz.f174.resultTypes.toList, 0⟩
theorem rcmp_ent (h : Hd) (a : List Int) (b : List Int) : rcmp_f.ent rcmp_e [] h [c1 (.ints .i64 a), c1 (.ints .i64 b)] [] = bif !decide ((↑a.length : Int) = (↑b.length : Int)) then bif decide ((↑a.length : Int) < (↑b.length : Int)) then ret (vI (-1 : Int)) else ret (vI (1 : Int)) else h (0 : Nat) [Lf.l a, Lf.l b, Lf.i (IntKind.i64.wrap ((↑a.length : Int) - (1 : Int)))] := by kernel_rfl
theorem rcmp_l0 (h : Hd) (l0 : List Int) (l1 : List Int) (i2 : Int) : rcmp_f.seg rcmp_e [] h 0 [.l l0, .l l1, .i i2] = bif decide ((0 : Int) ≤ i2) then bif inB i2 l0.length then bif inB i2 l1.length then bif decide (l0.getD i2.toNat (0 : Int) < l1.getD i2.toNat (0 : Int)) then ret (vI (-1 : Int)) else bif inB i2 l0.length then bif inB i2 l1.length then bif decide (l1.getD i2.toNat (0 : Int) < l0.getD i2.toNat (0 : Int)) then ret (vI (1 : Int)) else h (0 : Nat) [Lf.l l0, Lf.l l1, Lf.i (IntKind.i64.wrap (i2 - (1 : Int)))] else none else none else none else none else ret (vI (0 : Int)) := by kernel_rfl

theorem rcmp_loop (a b : List Int) (ha : dgt a) (hb : dgt b) (hl : a.length = b.length) (hL : a.length ≤ 9223372036854775807) : ∀ (j k : Nat), j ≤ a.length → j < k →
    rcmp_f.H rcmp_e [] k 0 [.l a, .l b, .i ((j : Int) - 1)] = ret (vI (cmpV (valD (a.take j)) (valD (b.take j)))) := by
  intro j
  induction j with
  | zero =>
    intro k hj hk
    obtain ⟨k, rfl⟩ : ∃ g, k = g + 1 := ⟨k - 1, by omega⟩
    rw [FnD.H_succ, rcmp_l0]
    exact condF (by omega) rfl
  | succ j ih =>
    intro k hj hk
    obtain ⟨k, rfl⟩ : ∃ g, k = g + 1 := ⟨k - 1, by omega⟩
    rw [FnD.H_succ, rcmp_l0, show ((j + 1 : Nat) : Int) - 1 = (j : Int) by omega, Int.toNat_natCast, IntWalk.i64_in _ (by omega)]
    have h1 : inB (j : Int) a.length = true := (inB_iff _ _).2 (by omega)
    have h2 : inB (j : Int) b.length = true := (inB_iff _ _).2 (by omega)
    have e1 : a.getD j 0 = a[j] := by rw [List.getD_eq_getElem?_getD, List.getElem?_eq_getElem (by omega)]; rfl
    have e2 : b.getD j 0 = b[j] := by rw [List.getD_eq_getElem?_getD, List.getElem?_eq_getElem (by omega)]; rfl
    have t1 : a.take (j + 1) = a.take j ++ [a[j]] := List.take_succ_eq_append_getElem (by omega)
    have t2 : b.take (j + 1) = b.take j ++ [b[j]] := List.take_succ_eq_append_getElem (by omega)
    obtain ⟨q1, c2, c3⟩ := cmp_snoc (x := a[j]) (y := b[j]) (dgt_take ha j) (dgt_take hb j) (by simp [hl])
    rw [e1, e2, t1, t2]
    refine condT (by omega) (condB h1 (condB h2 ?_))
    by_cases g : a[j] < b[j]
    · exact condT g (by rw [c2 g])
    · refine condF g (condB h1 (condB h2 ?_))
      by_cases g2 : b[j] < a[j]
      · exact condT g2 (by rw [c3 g2])
      · refine condF g2 ?_
        rw [q1 (by omega)]
        exact ih k (by omega) (by omega)
theorem rcmp_run (a : List Int) (b : List Int) (hp : canon a ∧ canon b ∧ a.length ≤ 9223372036854775807 ∧ b.length ≤ 9223372036854775807) : ∃ fu, rcmp_f.run rcmp_e [] fu [c1 (.ints .i64 a), c1 (.ints .i64 b)] [] = some ⟨vI (cmpV (valD a) (valD b)), []⟩ := by
  obtain ⟨h1, h2, h3, h4⟩ := hp
  obtain ⟨m, rfl⟩ := canon_ex h1
  obtain ⟨n, rfl⟩ := canon_ex h2
  refine ⟨(bigD m).length + 1, ?_⟩
  rw [FnD.run, rcmp_ent]
  by_cases hl : (bigD m).length = (bigD n).length
  · refine condN (by rw [decide_eq_true (by omega)]; rfl) ?_
    have := rcmp_loop (bigD m) (bigD n) (dgt_bigD m) (dgt_bigD n) hl h3 (bigD m).length ((bigD m).length + 1) (by omega) (by omega)
    rw [List.take_length, hl, List.take_length] at this
    rw [hl, IntWalk.i64_in _ (by omega)]
    exact this
  · refine condB (by rw [decide_eq_false (by omega)]; rfl) ?_
    rw [valD_bigD, valD_bigD]
    rcases Nat.lt_or_ge (bigD m).length (bigD n).length with h | h
    · have := big_len h
      refine condT (by omega) ?_
      rw [show cmpV (m : Int) n = -1 by unfold cmpV; rw [if_neg (by omega), if_pos (by omega)]]
    · have := big_len (show (bigD n).length < (bigD m).length by omega)
      refine condF (by omega) ?_
      rw [show cmpV (m : Int) n = 1 by unfold cmpV; rw [if_neg (by omega), if_neg (by omega)]]
theorem rcmp_ok (a : List Int) (b : List Int) (hp : canon a ∧ canon b ∧ a.length ≤ 9223372036854775807 ∧ b.length ≤ 9223372036854775807) : FnOk cfg 174 ([c1 (.ints .i64 a), c1 (.ints .i64 b)].map SV.den) (vI (cmpV (valD a) (valD b)) : SV).den := by
  obtain ⟨nn, h⟩ := rcmp_run a b hp
  exact FnD.ok rcmp_g rcmp_f mixed Tryz.func174 rfl rfl rfl rfl rfl rfl h
noncomputable def c_rcmp : SpecF := fun args _ K => match args with
  | [.one (.c (.ints .i64 a)), .one (.c (.ints .i64 b))] => bif decide (canon a ∧ canon b ∧ a.length ≤ 9223372036854775807 ∧ b.length ≤ 9223372036854775807) then K (vI (cmpV (valD a) (valD b))) [] else none
  | _ => none
theorem c_rcmp_ok : SpecOk cfg 174 c_rcmp := by
  intro args bx K out h
  unfold c_rcmp at h
  split at h
  · obtain ⟨hp, h⟩ := bif_some h
    exact ⟨_, _, h, .inl (rcmp_ok _ _ (of_decide_eq_true hp) _), by simp [isTupS]⟩
  · cases h
/-! ### epactref01.add -/
noncomputable def radd_e : Ev' := ⟨Tryz.prog, glob, Γof [(176, c_rtrim)]⟩
theorem radd_g : Gd cfg radd_e := gd (env_cons c_rtrim_ok (env_nil _))
noncomputable def radd_f : FnD := ⟨173, Tryz.f173, shOf [(0, ⟨53, [(5, ⟨.ints .i64, false, true⟩)], [], [(0, .c (.ints .i64)), (1, .c (.ints .i64)), (5, .c (.sl 5 1)), (6, .c (.int .i64)), (7, .c (.int .i64))]⟩)], Tryz.f173.resultTypes.toList, 0⟩
theorem radd_ent (h : Hd) (a : List Int) (b : List Int) : radd_f.ent radd_e [] h [c1 (.ints .i64 a), c1 (.ints .i64 b)] [] = h (0 : Nat) [Lf.l [], Lf.b true, Lf.l a, Lf.l b, Lf.i (0 : Int), Lf.i (0 : Int)] := by kernel_rfl
theorem radd_l0 (h : Hd) (l0 : List Int) (b1 : Bool) (l2 : List Int) (l3 : List Int) (i4 : Int) (i5 : Int) : radd_f.seg radd_e [] h 0 [.l l0, .b b1, .l l2, .l l3, .i i4, .i i5] = let v1 : Int := IntKind.i64.wrap (IntKind.i64.wrap (i4 + l2.getD i5.toNat (0 : Int)) + l3.getD i5.toNat (0 : Int)); let v2 : List Int := List.take l0.length l0 ++ [v1.tmod (65536 : Int)]; let v3 : Nat := v2.length; let v4 : Int := IntKind.i64.wrap (v1.tdiv (65536 : Int)); let v5 : List Int := List.take l0.length l0 ++ [(IntKind.i64.wrap (i4 + l2.getD i5.toNat (0 : Int))).tmod (65536 : Int)]; let v6 : Nat := v5.length; let v7 : Int := IntKind.i64.wrap ((IntKind.i64.wrap (i4 + l2.getD i5.toNat (0 : Int))).tdiv (65536 : Int)); let v8 : List Int := List.take l0.length l0 ++ [(IntKind.i64.wrap (i4 + l3.getD i5.toNat (0 : Int))).tmod (65536 : Int)]; let v9 : Nat := v8.length; let v10 : Int := IntKind.i64.wrap ((IntKind.i64.wrap (i4 + l3.getD i5.toNat (0 : Int))).tdiv (65536 : Int)); let v11 : List Int := List.take l0.length l0 ++ [i4.tmod (65536 : Int)]; let v12 : Nat := v11.length; bif decide (i5 < (↑l2.length : Int)) then bif decide (i5 < (↑l2.length : Int)) then bif inB i5 l2.length then bif decide (i5 < (↑l3.length : Int)) then bif inB i5 l3.length then bif b1 == b1 && true && decide (l0.length ≤ l0.length) && roomB (l0.length + (1 : Nat)) (8 : Nat) then bif nlAfter b1 (1 : Nat) == nlAfter b1 (1 : Nat) && decide (l0.length + (1 : Nat) = v3) then h (0 : Nat) [Lf.l v2, Lf.b (nlAfter b1 (1 : Nat)), Lf.l l2, Lf.l l3, Lf.i v4, Lf.i (IntKind.i64.wrap (i5 + (1 : Int)))] else none else none else none else bif b1 == b1 && true && decide (l0.length ≤ l0.length) && roomB (l0.length + (1 : Nat)) (8 : Nat) then bif nlAfter b1 (1 : Nat) == nlAfter b1 (1 : Nat) && decide (l0.length + (1 : Nat) = v6) then h (0 : Nat) [Lf.l v5, Lf.b (nlAfter b1 (1 : Nat)), Lf.l l2, Lf.l l3, Lf.i v7, Lf.i (IntKind.i64.wrap (i5 + (1 : Int)))] else none else none else none else bif decide (i5 < (↑l3.length : Int)) then bif inB i5 l3.length then bif b1 == b1 && true && decide (l0.length ≤ l0.length) && roomB (l0.length + (1 : Nat)) (8 : Nat) then bif nlAfter b1 (1 : Nat) == nlAfter b1 (1 : Nat) && decide (l0.length + (1 : Nat) = v9) then h (0 : Nat) [Lf.l v8, Lf.b (nlAfter b1 (1 : Nat)), Lf.l l2, Lf.l l3, Lf.i v10, Lf.i (IntKind.i64.wrap (i5 + (1 : Int)))] else none else none else none else bif b1 == b1 && true && decide (l0.length ≤ l0.length) && roomB (l0.length + (1 : Nat)) (8 : Nat) then bif nlAfter b1 (1 : Nat) == nlAfter b1 (1 : Nat) && decide (l0.length + (1 : Nat) = v12) then h (0 : Nat) [Lf.l v11, Lf.b (nlAfter b1 (1 : Nat)), Lf.l l2, Lf.l l3, Lf.i (IntKind.i64.wrap (i4.tdiv (65536 : Int))), Lf.i (IntKind.i64.wrap (i5 + (1 : Int)))] else none else none else bif decide (i5 < (↑l3.length : Int)) then bif decide (i5 < (↑l2.length : Int)) then bif inB i5 l2.length then bif decide (i5 < (↑l3.length : Int)) then bif inB i5 l3.length then bif b1 == b1 && true && decide (l0.length ≤ l0.length) && roomB (l0.length + (1 : Nat)) (8 : Nat) then bif nlAfter b1 (1 : Nat) == nlAfter b1 (1 : Nat) && decide (l0.length + (1 : Nat) = v3) then h (0 : Nat) [Lf.l v2, Lf.b (nlAfter b1 (1 : Nat)), Lf.l l2, Lf.l l3, Lf.i v4, Lf.i (IntKind.i64.wrap (i5 + (1 : Int)))] else none else none else none else bif b1 == b1 && true && decide (l0.length ≤ l0.length) && roomB (l0.length + (1 : Nat)) (8 : Nat) then bif nlAfter b1 (1 : Nat) == nlAfter b1 (1 : Nat) && decide (l0.length + (1 : Nat) = v6) then h (0 : Nat) [Lf.l v5, Lf.b (nlAfter b1 (1 : Nat)), Lf.l l2, Lf.l l3, Lf.i v7, Lf.i (IntKind.i64.wrap (i5 + (1 : Int)))] else none else none else none else bif decide (i5 < (↑l3.length : Int)) then bif inB i5 l3.length then bif b1 == b1 && true && decide (l0.length ≤ l0.length) && roomB (l0.length + (1 : Nat)) (8 : Nat) then bif nlAfter b1 (1 : Nat) == nlAfter b1 (1 : Nat) && decide (l0.length + (1 : Nat) = v9) then h (0 : Nat) [Lf.l v8, Lf.b (nlAfter b1 (1 : Nat)), Lf.l l2, Lf.l l3, Lf.i v10, Lf.i (IntKind.i64.wrap (i5 + (1 : Int)))] else none else none else none else bif b1 == b1 && true && decide (l0.length ≤ l0.length) && roomB (l0.length + (1 : Nat)) (8 : Nat) then bif nlAfter b1 (1 : Nat) == nlAfter b1 (1 : Nat) && decide (l0.length + (1 : Nat) = v12) then h (0 : Nat) [Lf.l v11, Lf.b (nlAfter b1 (1 : Nat)), Lf.l l2, Lf.l l3, Lf.i (IntKind.i64.wrap (i4.tdiv (65536 : Int))), Lf.i (IntKind.i64.wrap (i5 + (1 : Int)))] else none else none else bif decide ((0 : Int) < i4) then bif decide (i5 < (↑l2.length : Int)) then bif inB i5 l2.length then bif decide (i5 < (↑l3.length : Int)) then bif inB i5 l3.length then bif b1 == b1 && true && decide (l0.length ≤ l0.length) && roomB (l0.length + (1 : Nat)) (8 : Nat) then bif nlAfter b1 (1 : Nat) == nlAfter b1 (1 : Nat) && decide (l0.length + (1 : Nat) = v3) then h (0 : Nat) [Lf.l v2, Lf.b (nlAfter b1 (1 : Nat)), Lf.l l2, Lf.l l3, Lf.i v4, Lf.i (IntKind.i64.wrap (i5 + (1 : Int)))] else none else none else none else bif b1 == b1 && true && decide (l0.length ≤ l0.length) && roomB (l0.length + (1 : Nat)) (8 : Nat) then bif nlAfter b1 (1 : Nat) == nlAfter b1 (1 : Nat) && decide (l0.length + (1 : Nat) = v6) then h (0 : Nat) [Lf.l v5, Lf.b (nlAfter b1 (1 : Nat)), Lf.l l2, Lf.l l3, Lf.i v7, Lf.i (IntKind.i64.wrap (i5 + (1 : Int)))] else none else none else none else bif decide (i5 < (↑l3.length : Int)) then bif inB i5 l3.length then bif b1 == b1 && true && decide (l0.length ≤ l0.length) && roomB (l0.length + (1 : Nat)) (8 : Nat) then bif nlAfter b1 (1 : Nat) == nlAfter b1 (1 : Nat) && decide (l0.length + (1 : Nat) = v9) then h (0 : Nat) [Lf.l v8, Lf.b (nlAfter b1 (1 : Nat)), Lf.l l2, Lf.l l3, Lf.i v10, Lf.i (IntKind.i64.wrap (i5 + (1 : Int)))] else none else none else none else bif b1 == b1 && true && decide (l0.length ≤ l0.length) && roomB (l0.length + (1 : Nat)) (8 : Nat) then bif nlAfter b1 (1 : Nat) == nlAfter b1 (1 : Nat) && decide (l0.length + (1 : Nat) = v12) then h (0 : Nat) [Lf.l v11, Lf.b (nlAfter b1 (1 : Nat)), Lf.l l2, Lf.l l3, Lf.i (IntKind.i64.wrap (i4.tdiv (65536 : Int))), Lf.i (IntKind.i64.wrap (i5 + (1 : Int)))] else none else none else bif b1 == b1 && decide (l0.length ≤ l0.length) && true then bif decide ((List.take l0.length l0).length ≤ (9223372036854775807 : Nat)) then ret (c1 (Cl.ints IntKind.i64 (trimL (List.take l0.length l0)))) else none else none := by kernel_rfl

theorem radd_loop (a b : List Int) (ha : dgt a) (hb : dgt b) (hla : a.length ≤ 1000000000) (hlb : b.length ≤ 1000000000) : ∀ (k i : Nat) (out : List Int) (c : Int) (nl : Bool), out.length = i → dgt out → 0 ≤ c → c ≤ 1 →
    valD out + 65536 ^ i * (c + valD (a.drop i) + valD (b.drop i)) = valD a + valD b → i ≤ 1000000001 → (i ≤ a.length ∨ i ≤ b.length ∨ c = 0) → 2000000010 - i < k →
    radd_f.H radd_e [] k 0 [.l out, .b nl, .l a, .l b, .i c, .i i] = some ⟨c1 (.ints .i64 (bigD (valD a + valD b).toNat)), []⟩ := by
  intro k
  induction k with
  | zero => intro i out c nl _ _ _ _ _ _ _ h; omega
  | succ k ih =>
    intro i out c nl hl hd q0 q1 hT hi hor hk
    have hs := add_step (a := a) (b := b) hl hT q0
    have da := dgt_getD ha i
    have db := dgt_getD hb i
    have hroom : roomB (out.length + 1) 8 = true := room_ok (by omega)
    have hw : IntKind.i64.wrap ((i : Int) + 1) = ((i + 1 : Nat) : Int) := by rw [IntWalk.i64_in _ (by omega)]; omega
    have go : ∀ (s q : Int) (nl' : Bool), s = (c + a.getD i 0 + b.getD i 0) % 65536 → q = (c + a.getD i 0 + b.getD i 0) / 65536 → (i < a.length ∨ i < b.length ∨ 0 < c) →
        radd_f.H radd_e [] k 0 [.l (List.take out.length out ++ [s]), .b nl', .l a, .l b, .i q, .i ((i + 1 : Nat) : Int)] = some ⟨c1 (.ints .i64 (bigD (valD a + valD b).toNat)), []⟩ := by
      intro s q nl' e1 e2 h3
      rw [List.take_length]
      subst e1 e2
      refine ih (i + 1) _ _ nl' (by simp [hl]) (dgt_snoc hd (by omega)) (by omega) (by omega) hs (by omega) ?_ (by omega)
      by_cases g1 : i < a.length
      · exact .inl (by omega)
      · by_cases g2 : i < b.length
        · exact .inr (.inl (by omega))
        · refine .inr (.inr ?_)
          have x1 : a.getD i 0 = 0 := by rw [List.getD_eq_getElem?_getD, List.getElem?_eq_none (by omega)]; rfl
          have x2 : b.getD i 0 = 0 := by rw [List.getD_eq_getElem?_getD, List.getElem?_eq_none (by omega)]; rfl
          omega
    rw [FnD.H_succ, radd_l0]
    dsimp only
    rw [hw, Int.toNat_natCast]
    have w1 : IntKind.i64.wrap (c + a.getD i 0) = c + a.getD i 0 := IntWalk.i64_in _ (by omega)
    have w2 : IntKind.i64.wrap (c + b.getD i 0) = c + b.getD i 0 := IntWalk.i64_in _ (by omega)
    have w3 : IntKind.i64.wrap (c + a.getD i 0 + b.getD i 0) = c + a.getD i 0 + b.getD i 0 := IntWalk.i64_in _ (by omega)
    have tm : ∀ x : Int, 0 ≤ x → x ≤ 200000 → x.tmod 65536 = x % 65536 ∧ IntKind.i64.wrap (x.tdiv 65536) = x / 65536 := fun x h0 h1 => ⟨IntWalk.rem_in _ _ h0, IntWalk.i64_quo x 65536 ⟨h0, by omega, by omega⟩⟩
    rw [w1, w2, w3]
    obtain ⟨m1, m2⟩ := tm (c + a.getD i 0) (by omega) (by omega)
    obtain ⟨m3, m4⟩ := tm (c + b.getD i 0) (by omega) (by omega)
    obtain ⟨m5, m6⟩ := tm (c + a.getD i 0 + b.getD i 0) (by omega) (by omega)
    obtain ⟨m7, m8⟩ := tm c (by omega) (by omega)
    rw [m1, m2, m3, m4, m5, m6, m7, m8]
    have za : ¬ i < a.length → a.getD i 0 = 0 := fun h => by rw [List.getD_eq_getElem?_getD, List.getElem?_eq_none (by omega)]; rfl
    have zb : ¬ i < b.length → b.getD i 0 = 0 := fun h => by rw [List.getD_eq_getElem?_getD, List.getElem?_eq_none (by omega)]; rfl
    have ia : i < a.length → inB (i : Int) a.length = true := fun h => (inB_iff _ _).2 (by omega)
    have ib : i < b.length → inB (i : Int) b.length = true := fun h => (inB_iff _ _).2 (by omega)
    by_cases h1 : i < a.length
    · refine condT (by omega) (condT (by omega) (condB (ia h1) ?_))
      by_cases h2 : i < b.length
      · refine condT (by omega) (condB (ib h2) ?_)
        rw [push_ok hroom]
        exact go _ _ _ rfl rfl (.inl h1)
      · refine condF (by omega) ?_
        rw [push_ok hroom]
        exact go _ _ _ (by rw [zb h2, Int.add_zero]) (by rw [zb h2, Int.add_zero]) (.inl h1)
    · refine condF (by omega) ?_
      by_cases h2 : i < b.length
      · refine condT (by omega) (condF (by omega) (condT (by omega) (condB (ib h2) ?_)))
        rw [push_ok hroom]
        exact go _ _ _ (by rw [za h1, Int.add_zero]) (by rw [za h1, Int.add_zero]) (.inr (.inl h2))
      · refine condF (by omega) ?_
        by_cases h3 : 0 < c
        · refine condT h3 (condF (by omega) (condF (by omega) ?_))
          rw [push_ok hroom]
          exact go _ _ _ (by rw [za h1, zb h2, Int.add_zero, Int.add_zero]) (by rw [za h1, zb h2, Int.add_zero, Int.add_zero]) (.inr (.inr h3))
        · refine condF h3 ?_
          have hc : c = 0 := by omega
          subst hc
          rw [List.drop_eq_nil_of_le (by omega), List.drop_eq_nil_of_le (by omega)] at hT
          have hv : valD out = valD a + valD b := by
            have : valD [] = 0 := rfl
            rw [this] at hT; simpa using hT
          rw [List.take_length]
          refine condB (by simp) (condT (by omega) ?_)
          rw [trim_bigD hd, hv]
theorem radd_run (a : List Int) (b : List Int) (hp : canon a ∧ canon b ∧ a.length ≤ 1000000000 ∧ b.length ≤ 1000000000) : ∃ fu, radd_f.run radd_e [] fu [c1 (.ints .i64 a), c1 (.ints .i64 b)] [] = some ⟨c1 (.ints .i64 (bigD (valD a + valD b).toNat)), []⟩ := by
  obtain ⟨h1, h2, h3, h4⟩ := hp
  obtain ⟨m, rfl⟩ := canon_ex h1
  obtain ⟨n, rfl⟩ := canon_ex h2
  refine ⟨2000000011, ?_⟩
  rw [FnD.run, radd_ent]
  exact radd_loop _ _ (dgt_bigD m) (dgt_bigD n) h3 h4 2000000011 0 [] 0 true rfl (by intro d hd; cases hd) (by omega) (by omega) (by simp [valD]) (by omega) (.inl (by omega)) (by omega)
theorem radd_ok (a : List Int) (b : List Int) (hp : canon a ∧ canon b ∧ a.length ≤ 1000000000 ∧ b.length ≤ 1000000000) : FnOk cfg 173 ([c1 (.ints .i64 a), c1 (.ints .i64 b)].map SV.den) (c1 (.ints .i64 (bigD (valD a + valD b).toNat)) : SV).den := by
  obtain ⟨nn, h⟩ := radd_run a b hp
  exact FnD.ok radd_g radd_f mixed Tryz.func173 rfl rfl rfl rfl rfl rfl h
noncomputable def c_radd : SpecF := fun args _ K => match args with
  | [.one (.c (.ints .i64 a)), .one (.c (.ints .i64 b))] => bif decide (canon a ∧ canon b ∧ a.length ≤ 1000000000 ∧ b.length ≤ 1000000000) then K (c1 (.ints .i64 (bigD (valD a + valD b).toNat))) [] else none
  | _ => none
theorem c_radd_ok : SpecOk cfg 173 c_radd := by
  intro args bx K out h
  unfold c_radd at h
  split at h
  · obtain ⟨hp, h⟩ := bif_some h
    exact ⟨_, _, h, .inl (radd_ok _ _ (of_decide_eq_true hp) _), by simp [isTupS]⟩
  · cases h
/-! ### epactref01.sub -/
noncomputable def rsub_e : Ev' := ⟨Tryz.prog, glob, Γof [(176, c_rtrim)]⟩
theorem rsub_g : Gd cfg rsub_e := gd (env_cons c_rtrim_ok (env_nil _))
noncomputable def rsub_f : FnD := ⟨175, Tryz.f175, shOf [(0, ⟨41, [(5, ⟨.ints .i64, false, true⟩)], [], [(0, .c (.ints .i64)), (1, .c (.ints .i64)), (5, .c (.sl 5 1)), (6, .c (.int .i64)), (7, .c (.int .i64))]⟩)], Tryz.f175.resultTypes.toList, 0⟩
theorem rsub_ent (h : Hd) (a : List Int) (b : List Int) : rsub_f.ent rsub_e [] h [c1 (.ints .i64 a), c1 (.ints .i64 b)] [] = h (0 : Nat) [Lf.l [], Lf.b true, Lf.l a, Lf.l b, Lf.i (0 : Int), Lf.i (0 : Int)] := by kernel_rfl
theorem rsub_l0 (h : Hd) (l0 : List Int) (b1 : Bool) (l2 : List Int) (l3 : List Int) (i4 : Int) (i5 : Int) : rsub_f.seg rsub_e [] h 0 [.l l0, .b b1, .l l2, .l l3, .i i4, .i i5] = let v1 : Int := IntKind.i64.wrap (IntKind.i64.wrap (l2.getD i5.toNat (0 : Int) - i4) - l3.getD i5.toNat (0 : Int)); let v2 : List Int := List.take l0.length l0 ++ [IntKind.i64.wrap (v1 + (65536 : Int))]; let v3 : Nat := v2.length; let v4 : List Int := List.take l0.length l0 ++ [v1]; let v5 : Nat := v4.length; let v6 : List Int := List.take l0.length l0 ++ [IntKind.i64.wrap (IntKind.i64.wrap (l2.getD i5.toNat (0 : Int) - i4) + (65536 : Int))]; let v7 : Nat := v6.length; let v8 : List Int := List.take l0.length l0 ++ [IntKind.i64.wrap (l2.getD i5.toNat (0 : Int) - i4)]; let v9 : Nat := v8.length; bif decide (i5 < (↑l2.length : Int)) then bif inB i5 l2.length then bif decide (i5 < (↑l3.length : Int)) then bif inB i5 l3.length then bif decide (v1 < (0 : Int)) then bif b1 == b1 && true && decide (l0.length ≤ l0.length) && roomB (l0.length + (1 : Nat)) (8 : Nat) then bif nlAfter b1 (1 : Nat) == nlAfter b1 (1 : Nat) && decide (l0.length + (1 : Nat) = v3) then h (0 : Nat) [Lf.l v2, Lf.b (nlAfter b1 (1 : Nat)), Lf.l l2, Lf.l l3, Lf.i (1 : Int), Lf.i (IntKind.i64.wrap (i5 + (1 : Int)))] else none else none else bif b1 == b1 && true && decide (l0.length ≤ l0.length) && roomB (l0.length + (1 : Nat)) (8 : Nat) then bif nlAfter b1 (1 : Nat) == nlAfter b1 (1 : Nat) && decide (l0.length + (1 : Nat) = v5) then h (0 : Nat) [Lf.l v4, Lf.b (nlAfter b1 (1 : Nat)), Lf.l l2, Lf.l l3, Lf.i (0 : Int), Lf.i (IntKind.i64.wrap (i5 + (1 : Int)))] else none else none else none else bif decide (IntKind.i64.wrap (l2.getD i5.toNat (0 : Int) - i4) < (0 : Int)) then bif b1 == b1 && true && decide (l0.length ≤ l0.length) && roomB (l0.length + (1 : Nat)) (8 : Nat) then bif nlAfter b1 (1 : Nat) == nlAfter b1 (1 : Nat) && decide (l0.length + (1 : Nat) = v7) then h (0 : Nat) [Lf.l v6, Lf.b (nlAfter b1 (1 : Nat)), Lf.l l2, Lf.l l3, Lf.i (1 : Int), Lf.i (IntKind.i64.wrap (i5 + (1 : Int)))] else none else none else bif b1 == b1 && true && decide (l0.length ≤ l0.length) && roomB (l0.length + (1 : Nat)) (8 : Nat) then bif nlAfter b1 (1 : Nat) == nlAfter b1 (1 : Nat) && decide (l0.length + (1 : Nat) = v9) then h (0 : Nat) [Lf.l v8, Lf.b (nlAfter b1 (1 : Nat)), Lf.l l2, Lf.l l3, Lf.i (0 : Int), Lf.i (IntKind.i64.wrap (i5 + (1 : Int)))] else none else none else none else bif b1 == b1 && decide (l0.length ≤ l0.length) && true then bif decide ((List.take l0.length l0).length ≤ (9223372036854775807 : Nat)) then ret (c1 (Cl.ints IntKind.i64 (trimL (List.take l0.length l0)))) else none else none := by kernel_rfl

theorem rsub_loop (a b : List Int) (ha : dgt a) (hb : dgt b) (hla : a.length ≤ 1000000000) (hlb : b.length ≤ a.length) (hle : valD b ≤ valD a) : ∀ (k i : Nat) (out : List Int) (c : Int) (nl : Bool), out.length = i → dgt out → 0 ≤ c → c ≤ 1 →
    valD out + 65536 ^ i * (valD (a.drop i) - valD (b.drop i) - c) = valD a - valD b → i ≤ a.length → a.length - i < k →
    rsub_f.H rsub_e [] k 0 [.l out, .b nl, .l a, .l b, .i c, .i i] = some ⟨c1 (.ints .i64 (bigD (valD a - valD b).toNat)), []⟩ := by
  intro k
  induction k with
  | zero => intro i out c nl _ _ _ _ _ _ h; omega
  | succ k ih =>
    intro i out c nl hl hd q0 q1 hT hi hk
    have hs := sub_step (a := a) (b := b) hl hT
    have da := dgt_getD ha i
    have db := dgt_getD hb i
    have hroom : roomB (out.length + 1) 8 = true := room_ok (by omega)
    have hw : IntKind.i64.wrap ((i : Int) + 1) = ((i + 1 : Nat) : Int) := by rw [IntWalk.i64_in _ (by omega)]; omega
    rw [FnD.H_succ, rsub_l0]
    dsimp only
    rw [hw, Int.toNat_natCast]
    have w1 : IntKind.i64.wrap (a.getD i 0 - c) = a.getD i 0 - c := IntWalk.i64_in _ (by omega)
    have w2 : IntKind.i64.wrap (a.getD i 0 - c - b.getD i 0) = a.getD i 0 - c - b.getD i 0 := IntWalk.i64_in _ (by omega)
    have w3 : IntKind.i64.wrap (a.getD i 0 - c + 65536) = a.getD i 0 - c + 65536 := IntWalk.i64_in _ (by omega)
    have w4 : IntKind.i64.wrap (a.getD i 0 - c - b.getD i 0 + 65536) = a.getD i 0 - c - b.getD i 0 + 65536 := IntWalk.i64_in _ (by omega)
    rw [w1, w2, w3, w4]
    have zb : ¬ i < b.length → b.getD i 0 = 0 := fun h => by rw [List.getD_eq_getElem?_getD, List.getElem?_eq_none (by omega)]; rfl
    by_cases h1 : i < a.length
    · have go : ∀ (s q : Int) (nl' : Bool), s = (a.getD i 0 - c - b.getD i 0) % 65536 → q = -((a.getD i 0 - c - b.getD i 0) / 65536) →
          rsub_f.H rsub_e [] k 0 [.l (List.take out.length out ++ [s]), .b nl', .l a, .l b, .i q, .i ((i + 1 : Nat) : Int)] = some ⟨c1 (.ints .i64 (bigD (valD a - valD b).toNat)), []⟩ := by
        intro s q nl' e1 e2
        rw [List.take_length]
        subst e1 e2
        exact ih (i + 1) _ _ nl' (by simp [hl]) (dgt_snoc hd (by omega)) (by omega) (by omega) hs (by omega) (by omega)
      have ia : inB (i : Int) a.length = true := (inB_iff _ _).2 (by omega)
      refine condT (by omega) (condB ia ?_)
      by_cases h2 : i < b.length
      · refine condT (by omega) (condB ((inB_iff _ _).2 (by omega)) ?_)
        by_cases h3 : a.getD i 0 - c - b.getD i 0 < 0
        · refine condT h3 ?_
          rw [push_ok hroom]
          exact go _ _ _ (by omega) (by omega)
        · refine condF h3 ?_
          rw [push_ok hroom]
          exact go _ _ _ (by omega) (by omega)
      · have hz := zb h2
        refine condF (by omega) ?_
        by_cases h3 : a.getD i 0 - c < 0
        · refine condT h3 ?_
          rw [push_ok hroom]
          exact go _ _ _ (by omega) (by omega)
        · refine condF h3 ?_
          rw [push_ok hroom]
          exact go _ _ _ (by omega) (by omega)
    · refine condF (by omega) ?_
      rw [List.drop_eq_nil_of_le (by omega), List.drop_eq_nil_of_le (by omega)] at hT
      have hv : valD out = valD a - valD b := by
        have e : valD [] = 0 := rfl
        rw [e] at hT
        exact sub_end hd hl hT (by omega) q0 q1
      rw [List.take_length]
      refine condB (by simp) (condT (by omega) ?_)
      rw [trim_bigD hd, hv]
theorem rsub_run (a : List Int) (b : List Int) (hp : canon a ∧ canon b ∧ valD b ≤ valD a ∧ a.length ≤ 1000000000) : ∃ fu, rsub_f.run rsub_e [] fu [c1 (.ints .i64 a), c1 (.ints .i64 b)] [] = some ⟨c1 (.ints .i64 (bigD (valD a - valD b).toNat)), []⟩ := by
  obtain ⟨h1, h2, h3, h4⟩ := hp
  have hl := len_le h1 h2 h3
  obtain ⟨m, rfl⟩ := canon_ex h1
  obtain ⟨n, rfl⟩ := canon_ex h2
  refine ⟨1000000011, ?_⟩
  rw [FnD.run, rsub_ent]
  exact rsub_loop _ _ (dgt_bigD m) (dgt_bigD n) h4 hl h3 1000000011 0 [] 0 true rfl (by intro d hd; cases hd) (by omega) (by omega) (by simp [valD]) (by omega) (by omega)
theorem rsub_ok (a : List Int) (b : List Int) (hp : canon a ∧ canon b ∧ valD b ≤ valD a ∧ a.length ≤ 1000000000) : FnOk cfg 175 ([c1 (.ints .i64 a), c1 (.ints .i64 b)].map SV.den) (c1 (.ints .i64 (bigD (valD a - valD b).toNat)) : SV).den := by
  obtain ⟨nn, h⟩ := rsub_run a b hp
  exact FnD.ok rsub_g rsub_f mixed Tryz.func175 rfl rfl rfl rfl rfl rfl h
noncomputable def c_rsub : SpecF := fun args _ K => match args with
  | [.one (.c (.ints .i64 a)), .one (.c (.ints .i64 b))] => bif decide (canon a ∧ canon b ∧ valD b ≤ valD a ∧ a.length ≤ 1000000000) then K (c1 (.ints .i64 (bigD (valD a - valD b).toNat))) [] else none
  | _ => none
theorem c_rsub_ok : SpecOk cfg 175 c_rsub := by
  intro args bx K out h
  unfold c_rsub at h
  split at h
  · obtain ⟨hp, h⟩ := bif_some h
    exact ⟨_, _, h, .inl (rsub_ok _ _ (of_decide_eq_true hp) _), by simp [isTupS]⟩
  · cases h

theorem bigR {s : Bool} {l : List Int} {v : Int} (h1 : s = decide (v < 0)) (h2 : l = bigD v.natAbs) : (ret (agg [.c (.bool s), .c (.ints .i64 l)])) = some ⟨.one (.agg [.c (.bool (decide (v < 0))), .c (.ints .i64 (bigD (v).natAbs))]), []⟩ := by rw [h1, h2]
/-! ### epactref01.Neg -/
noncomputable def rbneg_e : Ev' := ⟨Tryz.prog, glob, Γof []⟩
theorem rbneg_g : Gd cfg rbneg_e := gd (env_nil _)
noncomputable def rbneg_f : FnD := ⟨133, Tryz.f133, noSh, Tryz.f133.resultTypes.toList, 0⟩
theorem rbneg_ent (h : Hd) (s : Bool) (a : List Int) : rbneg_f.ent rbneg_e [] h [agg [.c (.bool s), .c (.ints .i64 a)]] [] = bif !s then ret (agg [Sg.c (Cl.bool (decide ((0 : Int) < (↑a.length : Int)))), Sg.c (Cl.ints IntKind.i64 a)]) else ret (agg [Sg.c (Cl.bool false), Sg.c (Cl.ints IntKind.i64 a)]) := by kernel_rfl
theorem rbneg_run (s : Bool) (a : List Int) (hp : isBig s a) : ∃ fu, rbneg_f.run rbneg_e [] fu [agg [.c (.bool s), .c (.ints .i64 a)]] [] = some ⟨.one (.agg [.c (.bool (decide ((-bV s a) < 0))), .c (.ints .i64 (bigD ((-bV s a)).natAbs))]), []⟩ := by
  refine ⟨0, ?_⟩
  rw [FnD.run, rbneg_ent]
  obtain ⟨n, rfl, h2, h3⟩ := big_sgn hp
  have hz := big_pos n
  rw [h3]
  cases s with
  | false =>
    refine condB rfl (bigR ?_ ?_)
    · rw [Bool.eq_iff_iff, decide_eq_true_eq, decide_eq_true_eq, hz]; simp; omega
    · simp
  | true =>
    refine condN rfl (bigR ?_ ?_)
    · have := h2 rfl
      symm; rw [decide_eq_false_iff_not]; simp
    · simp
theorem rbneg_ok (s : Bool) (a : List Int) (hp : isBig s a) : FnOk cfg 133 ([agg [.c (.bool s), .c (.ints .i64 a)]].map SV.den) (.one (.agg [.c (.bool (decide ((-bV s a) < 0))), .c (.ints .i64 (bigD ((-bV s a)).natAbs))]) : SV).den := by
  obtain ⟨nn, h⟩ := rbneg_run s a hp
  exact FnD.ok rbneg_g rbneg_f mixed Tryz.func133 rfl rfl rfl rfl rfl rfl h
noncomputable def c_rbneg : SpecF := fun args _ K => match args with
  | [.one (.agg [.c (.bool s), .c (.ints .i64 a)])] => bif decide (isBig s a) then K (.one (.agg [.c (.bool (decide ((-bV s a) < 0))), .c (.ints .i64 (bigD ((-bV s a)).natAbs))])) [] else none
  | _ => none
theorem c_rbneg_ok : SpecOk cfg 133 c_rbneg := by
  intro args bx K out h
  unfold c_rbneg at h
  split at h
  · obtain ⟨hp, h⟩ := bif_some h
    exact ⟨_, _, h, .inl (rbneg_ok _ _ (of_decide_eq_true hp) _), by simp [isTupS]⟩
  · cases h
/-! ### epactref01.Add -/
noncomputable def rbadd_e : Ev' := ⟨Tryz.prog, glob, Γof [(174, c_rcmp), (173, c_radd), (175, c_rsub)]⟩
theorem rbadd_g : Gd cfg rbadd_e := gd (env_cons c_rcmp_ok (env_cons c_radd_ok (env_cons c_rsub_ok (env_nil _))))
noncomputable def rbadd_f : FnD := ⟨130, Tryz.f130, noSh, Tryz.f130.resultTypes.toList, 0⟩
theorem rbadd_ent (h : Hd) (s : Bool) (a : List Int) (t : Bool) (b : List Int) : rbadd_f.ent rbadd_e [] h [agg [.c (.bool s), .c (.ints .i64 a)], agg [.c (.bool t), .c (.ints .i64 b)]] [] = bif s == t then bif decide (canon a ∧ canon b ∧ a.length ≤ (1000000000 : Nat) ∧ b.length ≤ (1000000000 : Nat)) then ret (agg [Sg.c (Cl.bool s), Sg.c (Cl.ints IntKind.i64 (bigD (valD a + valD b).toNat))]) else none else bif decide (canon a ∧ canon b ∧ a.length ≤ (9223372036854775807 : Nat) ∧ b.length ≤ (9223372036854775807 : Nat)) then bif decide (cmpV (valD a) (valD b) < (0 : Int)) then bif decide (canon b ∧ canon a ∧ valD a ≤ valD b ∧ b.length ≤ (1000000000 : Nat)) then bif t then ret (agg [Sg.c (Cl.bool (decide ((0 : Int) < (↑(bigD (valD b - valD a).toNat).length : Int)))), Sg.c (Cl.ints IntKind.i64 (bigD (valD b - valD a).toNat))]) else ret (agg [Sg.c (Cl.bool false), Sg.c (Cl.ints IntKind.i64 (bigD (valD b - valD a).toNat))]) else none else bif decide (canon a ∧ canon b ∧ valD b ≤ valD a ∧ a.length ≤ (1000000000 : Nat)) then bif s then ret (agg [Sg.c (Cl.bool (decide ((0 : Int) < (↑(bigD (valD a - valD b).toNat).length : Int)))), Sg.c (Cl.ints IntKind.i64 (bigD (valD a - valD b).toNat))]) else ret (agg [Sg.c (Cl.bool false), Sg.c (Cl.ints IntKind.i64 (bigD (valD a - valD b).toNat))]) else none else none := by kernel_rfl
theorem rbadd_run (s : Bool) (a : List Int) (t : Bool) (b : List Int) (hp : isBig s a ∧ isBig t b ∧ a.length ≤ 1000000000 ∧ b.length ≤ 1000000000) : ∃ fu, rbadd_f.run rbadd_e [] fu [agg [.c (.bool s), .c (.ints .i64 a)], agg [.c (.bool t), .c (.ints .i64 b)]] [] = some ⟨.one (.agg [.c (.bool (decide ((bV s a + bV t b) < 0))), .c (.ints .i64 (bigD ((bV s a + bV t b)).natAbs))]), []⟩ := by
  refine ⟨0, ?_⟩
  rw [FnD.run, rbadd_ent]
  obtain ⟨p1, p2, p3, p4⟩ := hp
  have ca := p1.1
  have cb := p2.1
  obtain ⟨m, rfl, m2, m3⟩ := big_sgn p1
  obtain ⟨n, rfl, n2, n3⟩ := big_sgn p2
  rw [m3, n3]
  simp only [valD_bigD]
  by_cases hst : s = t
  · subst hst
    refine condB (by simp) (condT ⟨ca, cb, p3, p4⟩ (bigR ?_ ?_))
    · cases s
      · simp; omega
      · have := m2 rfl
        simp; omega
    · congr 1
      cases s
      · simp
        omega
      · simp; omega
  · refine condN (by simpa using hst) (condT ⟨ca, cb, by omega, by omega⟩ ?_)
    by_cases hlt : (m : Int) < n
    · have e : ((n : Int) - m).toNat = n - m := by omega
      refine condT ((cmpV_lt _ _).2 hlt) (condT ⟨cb, ca, by omega, p4⟩ ?_)
      have hz := big_pos (n - m)
      rw [e]
      cases t with
      | true =>
        refine condB rfl (bigR ?_ ?_)
        · cases s <;> simp at hst ⊢
          omega
        · cases s <;> simp at hst ⊢
          congr 1; omega
      | false =>
        refine condN rfl (bigR ?_ ?_)
        · cases s <;> simp at hst ⊢
          omega
        · cases s <;> simp at hst ⊢
          congr 1; omega
    · have e : ((m : Int) - n).toNat = m - n := by omega
      refine condF (fun h => hlt ((cmpV_lt _ _).1 h)) (condT ⟨ca, cb, by omega, p3⟩ ?_)
      have hz := big_pos (m - n)
      rw [e]
      cases s with
      | true =>
        refine condB rfl (bigR ?_ ?_)
        · cases t <;> simp at hst ⊢
          omega
        · cases t <;> simp at hst ⊢
          congr 1; omega
      | false =>
        refine condN rfl (bigR ?_ ?_)
        · cases t <;> simp at hst ⊢
          omega
        · cases t <;> simp at hst ⊢
          congr 1; omega
theorem rbadd_ok (s : Bool) (a : List Int) (t : Bool) (b : List Int) (hp : isBig s a ∧ isBig t b ∧ a.length ≤ 1000000000 ∧ b.length ≤ 1000000000) : FnOk cfg 130 ([agg [.c (.bool s), .c (.ints .i64 a)], agg [.c (.bool t), .c (.ints .i64 b)]].map SV.den) (.one (.agg [.c (.bool (decide ((bV s a + bV t b) < 0))), .c (.ints .i64 (bigD ((bV s a + bV t b)).natAbs))]) : SV).den := by
  obtain ⟨nn, h⟩ := rbadd_run s a t b hp
  exact FnD.ok rbadd_g rbadd_f mixed Tryz.func130 rfl rfl rfl rfl rfl rfl h
noncomputable def c_rbadd : SpecF := fun args _ K => match args with
  | [.one (.agg [.c (.bool s), .c (.ints .i64 a)]), .one (.agg [.c (.bool t), .c (.ints .i64 b)])] => bif decide (isBig s a ∧ isBig t b ∧ a.length ≤ 1000000000 ∧ b.length ≤ 1000000000) then K (.one (.agg [.c (.bool (decide ((bV s a + bV t b) < 0))), .c (.ints .i64 (bigD ((bV s a + bV t b)).natAbs))])) [] else none
  | _ => none
theorem c_rbadd_ok : SpecOk cfg 130 c_rbadd := by
  intro args bx K out h
  unfold c_rbadd at h
  split at h
  · obtain ⟨hp, h⟩ := bif_some h
    exact ⟨_, _, h, .inl (rbadd_ok _ _ _ _ (of_decide_eq_true hp) _), by simp [isTupS]⟩
  · cases h
/-! ### epactref01.Sub -/
noncomputable def rbsub_e : Ev' := ⟨Tryz.prog, glob, Γof [(133, c_rbneg), (130, c_rbadd)]⟩
theorem rbsub_g : Gd cfg rbsub_e := gd (env_cons c_rbneg_ok (env_cons c_rbadd_ok (env_nil _)))
noncomputable def rbsub_f : FnD := ⟨136, Tryz.f136, noSh, Tryz.f136.resultTypes.toList, 0⟩
theorem rbsub_ent (h : Hd) (s : Bool) (a : List Int) (t : Bool) (b : List Int) : rbsub_f.ent rbsub_e [] h [agg [.c (.bool s), .c (.ints .i64 a)], agg [.c (.bool t), .c (.ints .i64 b)]] [] = let v1 : Int := bV s a + bV (decide (-bV t b < (0 : Int))) (bigD (-bV t b).natAbs); bif decide (isBig t b) then bif decide (isBig s a ∧ isBig (decide (-bV t b < (0 : Int))) (bigD (-bV t b).natAbs) ∧ a.length ≤ (1000000000 : Nat) ∧ (bigD (-bV t b).natAbs).length ≤ (1000000000 : Nat)) then ret (agg [Sg.c (Cl.bool (decide (v1 < (0 : Int)))), Sg.c (Cl.ints IntKind.i64 (bigD v1.natAbs))]) else none else none := by kernel_rfl
theorem rbsub_run (s : Bool) (a : List Int) (t : Bool) (b : List Int) (hp : isBig s a ∧ isBig t b ∧ a.length ≤ 1000000000 ∧ b.length ≤ 1000000000) : ∃ fu, rbsub_f.run rbsub_e [] fu [agg [.c (.bool s), .c (.ints .i64 a)], agg [.c (.bool t), .c (.ints .i64 b)]] [] = some ⟨.one (.agg [.c (.bool (decide ((bV s a - bV t b) < 0))), .c (.ints .i64 (bigD ((bV s a - bV t b)).natAbs))]), []⟩ := by
  refine ⟨0, ?_⟩
  rw [FnD.run, rbsub_ent]
  obtain ⟨p1, p2, p3, p4⟩ := hp
  obtain ⟨n, rfl, n2, n3⟩ := big_sgn p2
  have e : (-bV t (bigD n)).natAbs = n := by rw [n3]; cases t <;> simp
  rw [bV_mk, ← Int.sub_eq_add_neg]
  refine condT p2 (condT ⟨p1, (isBig_mk _).1, p3, by rw [e]; exact p4⟩ rfl)
theorem rbsub_ok (s : Bool) (a : List Int) (t : Bool) (b : List Int) (hp : isBig s a ∧ isBig t b ∧ a.length ≤ 1000000000 ∧ b.length ≤ 1000000000) : FnOk cfg 136 ([agg [.c (.bool s), .c (.ints .i64 a)], agg [.c (.bool t), .c (.ints .i64 b)]].map SV.den) (.one (.agg [.c (.bool (decide ((bV s a - bV t b) < 0))), .c (.ints .i64 (bigD ((bV s a - bV t b)).natAbs))]) : SV).den := by
  obtain ⟨nn, h⟩ := rbsub_run s a t b hp
  exact FnD.ok rbsub_g rbsub_f mixed Tryz.func136 rfl rfl rfl rfl rfl rfl h
noncomputable def c_rbsub : SpecF := fun args _ K => match args with
  | [.one (.agg [.c (.bool s), .c (.ints .i64 a)]), .one (.agg [.c (.bool t), .c (.ints .i64 b)])] => bif decide (isBig s a ∧ isBig t b ∧ a.length ≤ 1000000000 ∧ b.length ≤ 1000000000) then K (.one (.agg [.c (.bool (decide ((bV s a - bV t b) < 0))), .c (.ints .i64 (bigD ((bV s a - bV t b)).natAbs))])) [] else none
  | _ => none
theorem c_rbsub_ok : SpecOk cfg 136 c_rbsub := by
  intro args bx K out h
  unfold c_rbsub at h
  split at h
  · obtain ⟨hp, h⟩ := bif_some h
    exact ⟨_, _, h, .inl (rbsub_ok _ _ _ _ (of_decide_eq_true hp) _), by simp [isTupS]⟩
  · cases h
/-! ### epactref01.Mul -/
noncomputable def rbmul_e : Ev' := ⟨Tryz.prog, glob, Γof [(176, c_rtrim)]⟩
theorem rbmul_g : Gd cfg rbmul_e := gd (env_cons c_rtrim_ok (env_nil _))
noncomputable def rbmul_f : FnD := ⟨131, Tryz.f131, shOf [(0, ⟨83, [(5, ⟨.ints .i64, false, false⟩)], [(2, [.c .bool, .c (.ints .i64)]), (3, [.c .bool, .c (.ints .i64)]), (4, [.c .bool, .c .nils])], [(2, .c (.ptr 2 0)), (3, .c (.ptr 3 0)), (4, .c (.ptr 4 0)), (5, .c (.sl 5 1)), (6, .c (.int .i64))]⟩), (1, ⟨83, [(5, ⟨.ints .i64, false, false⟩)], [(2, [.c .bool, .c (.ints .i64)]), (3, [.c .bool, .c (.ints .i64)]), (4, [.c .bool, .c .nils])], [(2, .c (.ptr 2 0)), (3, .c (.ptr 3 0)), (4, .c (.ptr 4 0)), (5, .c (.sl 5 1)), (6, .c (.int .i64)), (7, .c (.int .i64)), (8, .c (.int .i64))]⟩)], Tryz.f131.resultTypes.toList, 0⟩
theorem rbmul_ent (h : Hd) (s : Bool) (a : List Int) (t : Bool) (b : List Int) : rbmul_f.ent rbmul_e [] h [agg [.c (.bool s), .c (.ints .i64 a)], agg [.c (.bool t), .c (.ints .i64 b)]] [] = let v1 : List Int := List.replicate (IntKind.i64.wrap ((↑a.length : Int) + (↑b.length : Int))).toNat (0 : Int); let v2 : Nat := v1.length; bif roomI (IntKind.i64.wrap ((↑a.length : Int) + (↑b.length : Int))) (8 : Nat) then bif decide ((IntKind.i64.wrap ((↑a.length : Int) + (↑b.length : Int))).toNat = v2) then h (0 : Nat) [Lf.l v1, Lf.b s, Lf.l a, Lf.b t, Lf.l b, Lf.b false, Lf.i (0 : Int)] else none else none := by kernel_rfl
theorem rbmul_l0 (h : Hd) (l0 : List Int) (b1 : Bool) (l2 : List Int) (b3 : Bool) (l4 : List Int) (b5 : Bool) (i6 : Int) : rbmul_f.seg rbmul_e [] h 0 [.l l0, .b b1, .l l2, .b b3, .l l4, .b b5, .i i6] = bif decide (i6 < (↑l2.length : Int)) then bif decide (l0.length = l0.length) then h (1 : Nat) [Lf.l l0, Lf.b b1, Lf.l l2, Lf.b b3, Lf.l l4, Lf.b b5, Lf.i i6, Lf.i (0 : Int), Lf.i (0 : Int)] else none else bif decide (l0.length ≤ l0.length) && true then bif decide ((List.take l0.length l0).length ≤ (9223372036854775807 : Nat)) then bif b1 != b3 then ret (agg [Sg.c (Cl.bool (decide ((0 : Int) < (↑(trimL (List.take l0.length l0)).length : Int)))), Sg.c (Cl.ints IntKind.i64 (trimL (List.take l0.length l0)))]) else ret (agg [Sg.c (Cl.bool false), Sg.c (Cl.ints IntKind.i64 (trimL (List.take l0.length l0)))]) else none else none := by kernel_rfl
theorem rbmul_l1 (h : Hd) (l0 : List Int) (b1 : Bool) (l2 : List Int) (b3 : Bool) (l4 : List Int) (b5 : Bool) (i6 : Int) (i7 : Int) (i8 : Int) : rbmul_f.seg rbmul_e [] h 1 [.l l0, .b b1, .l l2, .b b3, .l l4, .b b5, .i i6, .i i7, .i i8] = let v1 : Int := IntKind.i64.wrap (IntKind.i64.wrap (l0.getD (IntKind.i64.wrap (i6 + i8)).toNat (0 : Int) + IntKind.i64.wrap (l2.getD i6.toNat (0 : Int) * l4.getD i8.toNat (0 : Int))) + i7); let v2 : List Int := l0.set (IntKind.i64.wrap (i6 + i8)).toNat (v1.tmod (65536 : Int)); let v3 : Nat := v2.length; bif decide (i8 < (↑l4.length : Int)) then bif inB (IntKind.i64.wrap (i6 + i8)) l0.length then bif decide ((IntKind.i64.wrap (i6 + i8)).toNat < l0.length) then bif inB i6 l2.length then bif inB i8 l4.length then bif inB (IntKind.i64.wrap (i6 + i8)) l0.length then bif decide ((IntKind.i64.wrap (i6 + i8)).toNat < l0.length) then bif decide (l0.length = v3) then h (1 : Nat) [Lf.l v2, Lf.b b1, Lf.l l2, Lf.b b3, Lf.l l4, Lf.b b5, Lf.i i6, Lf.i (IntKind.i64.wrap (v1.tdiv (65536 : Int))), Lf.i (IntKind.i64.wrap (i8 + (1 : Int)))] else none else none else none else none else none else none else none else bif inB (IntKind.i64.wrap (i6 + (↑l4.length : Int))) l0.length then bif decide ((IntKind.i64.wrap (i6 + (↑l4.length : Int))).toNat < l0.length) then bif decide (l0.length = (l0.set (IntKind.i64.wrap (i6 + (↑l4.length : Int))).toNat i7).length) then h (0 : Nat) [Lf.l (l0.set (IntKind.i64.wrap (i6 + (↑l4.length : Int))).toNat i7), Lf.b b1, Lf.l l2, Lf.b b3, Lf.l l4, Lf.b b5, Lf.i (IntKind.i64.wrap (i6 + (1 : Int)))] else none else none else none := by kernel_rfl

theorem rbmul_in (s : Bool) (a : List Int) (t : Bool) (b : List Int) (x : Bool) (ha : dgt a) (hb : dgt b) (hla : a.length ≤ 1000000000) (hlb : b.length ≤ 1000000000) (i : Nat) (hi : i < a.length) (K : Int) (f : Nat) (res : Option Out)
    (nx : ∀ (d : List Int) (c : Int), d.length = a.length + b.length → dgt d → (∀ p, i + b.length < p → d.getD p 0 = 0) → valD d = K →
      rbmul_f.H rbmul_e [] f 0 [.l d, .b s, .l a, .b t, .l b, .b x, .i ((i + 1 : Nat) : Int)] = res) :
    ∀ (k j : Nat) (d : List Int) (c : Int), d.length = a.length + b.length → dgt d → (∀ p, i + b.length ≤ p → d.getD p 0 = 0) → 0 ≤ c → c < 65536 → valD d + 65536 ^ (i + j) * (c + a.getD i 0 * valD (b.drop j)) = K →
      j + k = b.length → rbmul_f.H rbmul_e [] (f + k + 1) 1 [.l d, .b s, .l a, .b t, .l b, .b x, .i (i : Int), .i c, .i (j : Int)] = res := by
  intro k
  induction k with
  | zero =>
    intro j d c hl hd hz q0 q1 hT hj
    have hj' : j = b.length := by omega
    subst hj'
    rw [FnD.H_succ, rbmul_l1]
    have w1 : IntKind.i64.wrap ((i : Int) + (b.length : Nat)) = ((i + b.length : Nat) : Int) := by rw [IntWalk.i64_in _ (by omega)]; omega
    have w2 : IntKind.i64.wrap ((i : Int) + 1) = ((i + 1 : Nat) : Int) := by rw [IntWalk.i64_in _ (by omega)]; omega
    dsimp only
    rw [w1, w2]
    refine condF (by omega) (condB ((inB_iff _ _).2 (by omega)) (condT (by omega) (condT (by simp) ?_)))
    rw [List.drop_length] at hT
    simp only [Int.toNat_natCast]
    refine nx _ c (by simp [hl]) (dgt_set hd ⟨q0, q1⟩) (fun p hp => ?_) (mul_row (by omega) (hz _ (Nat.le_refl _)) hT)
    rw [getD_set (by omega), if_neg (by omega)]
    exact hz p (by omega)
  | succ k ih =>
    intro j d c hl hd hz q0 q1 hT hj
    rw [FnD.H_succ, rbmul_l1]
    have w1 : IntKind.i64.wrap ((i : Int) + (j : Int)) = ((i + j : Nat) : Int) := by rw [IntWalk.i64_in _ (by omega)]; omega
    have w2 : IntKind.i64.wrap ((j : Int) + 1) = ((j + 1 : Nat) : Int) := by rw [IntWalk.i64_in _ (by omega)]; omega
    have hx := dgt_getD ha i
    have hy := dgt_getD hb j
    have hdd := dgt_getD hd (i + j)
    obtain ⟨m1, m2, m3, m4⟩ := mul_dig hx hy hdd ⟨q0, q1⟩
    have hs := mul_step (d := d) (b := b) (x := a.getD i 0) (i := i) (j := j) (by omega) hT
    dsimp only
    rw [w1, w2]
    have w3 : IntKind.i64.wrap (a.getD i 0 * b.getD j 0) = a.getD i 0 * b.getD j 0 := IntWalk.i64_in _ (by omega)
    have w4 : IntKind.i64.wrap (d.getD (i + j) 0 + a.getD i 0 * b.getD j 0) = d.getD (i + j) 0 + a.getD i 0 * b.getD j 0 := IntWalk.i64_in _ (by omega)
    have w5 : IntKind.i64.wrap (d.getD (i + j) 0 + a.getD i 0 * b.getD j 0 + c) = d.getD (i + j) 0 + a.getD i 0 * b.getD j 0 + c := IntWalk.i64_in _ (by omega)
    have tm : ∀ y : Int, 0 ≤ y → y ≤ 4295000000 → y.tmod 65536 = y % 65536 ∧ IntKind.i64.wrap (y.tdiv 65536) = y / 65536 := fun y h0 h1 => ⟨IntWalk.rem_in _ _ h0, IntWalk.i64_quo y 65536 ⟨h0, by omega, by omega⟩⟩
    obtain ⟨t1, t2⟩ := tm (d.getD (i + j) 0 + a.getD i 0 * b.getD j 0 + c) m3 (by omega)
    refine condT (by omega) (condB ((inB_iff _ _).2 (by omega)) (condT (by omega) (condB ((inB_iff _ _).2 (by omega)) (condB ((inB_iff _ _).2 (by omega)) (condB ((inB_iff _ _).2 (by omega)) (condT (by omega) (condT (by simp) ?_)))))))
    simp only [Int.toNat_natCast]
    rw [w3, w4, w5, t1, t2]
    generalize hn : d.getD (i + j) 0 + a.getD i 0 * b.getD j 0 + c = n at *
    refine ih (j + 1) _ _ (by simp [hl]) (dgt_set hd (by omega)) (fun p hp => ?_) (by omega) m4 hs (by omega)
    rw [getD_set (by omega), if_neg (by omega)]
    exact hz p hp
theorem rbmul_out (s : Bool) (a : List Int) (t : Bool) (b : List Int) (x : Bool) (ha : dgt a) (hb : dgt b) (hla : a.length ≤ 1000000000) (hlb : b.length ≤ 1000000000) (res : Option Out)
    (fin : ∀ l : List Int, l = bigD (valD a * valD b).toNat → (bif s != t then ret (agg [.c (.bool (decide ((0 : Int) < (l.length : Nat)))), .c (.ints .i64 l)]) else ret (agg [.c (.bool false), .c (.ints .i64 l)])) = res) :
    ∀ (k i : Nat) (d : List Int), d.length = a.length + b.length → dgt d → (∀ p, i + b.length ≤ p → d.getD p 0 = 0) → valD d + 65536 ^ i * (valD (a.drop i) * valD b) = valD a * valD b →
      i + k = a.length → rbmul_f.H rbmul_e [] (k * (b.length + 2) + 1) 0 [.l d, .b s, .l a, .b t, .l b, .b x, .i (i : Int)] = res := by
  intro k
  induction k with
  | zero =>
    intro i d hl hd hz hT hi
    rw [FnD.H_succ, rbmul_l0]
    rw [List.drop_eq_nil_of_le (by omega)] at hT
    have hv : valD d = valD a * valD b := by
      rw [show valD [] = 0 from rfl, Int.zero_mul, Int.mul_zero, Int.add_zero] at hT; exact hT
    rw [List.take_length]
    refine condF (by omega) (condB (by simp) (condT (by omega) ?_))
    exact fin _ (by rw [trim_bigD hd, hv])
  | succ k ih =>
    intro i d hl hd hz hT hi
    rw [FnD.H_succ, rbmul_l0]
    refine condT (by omega) (condT rfl ?_)
    have e : (k + 1) * (b.length + 2) = k * (b.length + 2) + 1 + b.length + 1 := by rw [Nat.succ_mul]; omega
    rw [e]
    refine rbmul_in s a t b x ha hb hla hlb i (by omega) (valD d + 65536 ^ i * (a.getD i 0 * valD b)) (k * (b.length + 2) + 1) res ?_ b.length 0 d 0 hl hd hz (by omega) (by omega) (by simp) (by omega)
    intro d' c' hl' hd' hz' hv'
    refine ih (i + 1) d' hl' hd' (fun p hp => hz' p (by omega)) ?_ (by omega)
    rw [hv', ← hT, drop_val (a := a) i, Int.pow_succ, Int.mul_assoc (65536 ^ i), Int.add_assoc, ← Int.mul_add, Int.add_mul, Int.mul_assoc 65536]
theorem rbmul_run (s : Bool) (a : List Int) (t : Bool) (b : List Int) (hp : isBig s a ∧ isBig t b ∧ a.length ≤ 1000000000 ∧ b.length ≤ 1000000000) : ∃ fu, rbmul_f.run rbmul_e [] fu [agg [.c (.bool s), .c (.ints .i64 a)], agg [.c (.bool t), .c (.ints .i64 b)]] [] = some ⟨.one (.agg [.c (.bool (decide ((bV s a * bV t b) < 0))), .c (.ints .i64 (bigD ((bV s a * bV t b)).natAbs))]), []⟩ := by
  obtain ⟨p1, p2, p3, p4⟩ := hp
  obtain ⟨m, rfl, m2, m3⟩ := big_sgn p1
  obtain ⟨n, rfl, n2, n3⟩ := big_sgn p2
  rw [m3, n3]
  refine ⟨(bigD m).length * ((bigD n).length + 2) + 1, ?_⟩
  rw [FnD.run, rbmul_ent]
  have w : IntKind.i64.wrap (((bigD m).length : Int) + ((bigD n).length : Nat)) = (((bigD m).length + (bigD n).length : Nat) : Int) := by rw [IntWalk.i64_in _ (by omega)]; omega
  dsimp only
  rw [w, Int.toNat_natCast]
  refine condB (by unfold roomI; simp only [Bool.and_eq_true, decide_eq_true_eq]; omega) (condT (by simp) ?_)
  refine rbmul_out s _ t _ false (dgt_bigD m) (dgt_bigD n) p3 p4 _ ?_ (bigD m).length 0 _ (by simp) (dgt_zeros _) (fun p _ => ?_) (by rw [valD_zeros]; simp) (by omega)
  · intro l hl
    have e : (valD (bigD m) * valD (bigD n)).toNat = m * n := by rw [valD_bigD, valD_bigD]; exact Int.toNat_natCast (m * n)
    rw [e] at hl
    subst hl
    have hz := big_pos (m * n)
    have hmn : (m * n : Nat) = 0 ↔ m = 0 ∨ n = 0 := Nat.mul_eq_zero
    by_cases hst : s = t
    · subst hst
      refine condN (by simp) (bigR ?_ ?_)
      · symm; rw [decide_eq_false_iff_not]
        have : 0 ≤ (m : Int) * n := Int.mul_nonneg (by omega) (by omega)
        cases s
        · simpa using this
        · simpa [Int.neg_mul_neg] using this
      · congr 1
        cases s
        · simp [Int.natAbs_mul]
        · simp [Int.natAbs_mul]
    · refine condB (by simpa using hst) (bigR ?_ ?_)
      · rw [Bool.eq_iff_iff, decide_eq_true_eq, decide_eq_true_eq, hz]
        have e2 : ((m * n : Nat) : Int) = (m : Int) * n := by simp
        cases s <;> cases t <;> simp [Int.neg_mul, Int.mul_neg] at hst ⊢ <;> omega
      · congr 1
        cases s <;> cases t <;> simp [Int.natAbs_mul] at hst ⊢
  · rw [List.getD_eq_getElem?_getD]
    by_cases h : p < (bigD m).length + (bigD n).length
    · rw [List.getElem?_replicate, if_pos h]; rfl
    · rw [List.getElem?_eq_none (by simp; omega)]; rfl
theorem rbmul_ok (s : Bool) (a : List Int) (t : Bool) (b : List Int) (hp : isBig s a ∧ isBig t b ∧ a.length ≤ 1000000000 ∧ b.length ≤ 1000000000) : FnOk cfg 131 ([agg [.c (.bool s), .c (.ints .i64 a)], agg [.c (.bool t), .c (.ints .i64 b)]].map SV.den) (.one (.agg [.c (.bool (decide ((bV s a * bV t b) < 0))), .c (.ints .i64 (bigD ((bV s a * bV t b)).natAbs))]) : SV).den := by
  obtain ⟨nn, h⟩ := rbmul_run s a t b hp
  exact FnD.ok rbmul_g rbmul_f mixed Tryz.func131 rfl rfl rfl rfl rfl rfl h
noncomputable def c_rbmul : SpecF := fun args _ K => match args with
  | [.one (.agg [.c (.bool s), .c (.ints .i64 a)]), .one (.agg [.c (.bool t), .c (.ints .i64 b)])] => bif decide (isBig s a ∧ isBig t b ∧ a.length ≤ 1000000000 ∧ b.length ≤ 1000000000) then K (.one (.agg [.c (.bool (decide ((bV s a * bV t b) < 0))), .c (.ints .i64 (bigD ((bV s a * bV t b)).natAbs))])) [] else none
  | _ => none
theorem c_rbmul_ok : SpecOk cfg 131 c_rbmul := by
  intro args bx K out h
  unfold c_rbmul at h
  split at h
  · obtain ⟨hp, h⟩ := bif_some h
    exact ⟨_, _, h, .inl (rbmul_ok _ _ _ _ (of_decide_eq_true hp) _), by simp [isTupS]⟩
  · cases h
end Go.Proofs.YtldofkogmkfpjaaGreatDoor
