/-
  The contracts of the document's answer for layer 10 (epactref10).
-/
import Derived.Test.YtldofkogmkfpjaaGreatDoorWLzSyLex
import Derived.Test.YtldofkogmkfpjaaGreatDoorWPDecLaw
namespace Go.Proofs.YtldofkogmkfpjaaGreatDoor
open Go Go.Ev Go.Sy
set_option linter.unusedSimpArgs false
set_option linter.unusedVariables false
set_option maxRecDepth 10000
set_option maxHeartbeats 4000000

theorem getD_drop (l : List UInt8) (i j : Nat) : l.getD (i + j) 0 = (l.drop i).getD j 0 := by rw [List.getD_eq_getElem?_getD, List.getD_eq_getElem?_getD, List.getElem?_drop]
theorem bl_cond (c : UInt8) : (decide ((c.toNat : Int) = 32) || decide ((c.toNat : Int) = 9)) = isBl c := by
  unfold isBl
  have h1 := byte_eq c 32 (by omega)
  have h2 := byte_eq c 9 (by omega)
  rw [Bool.eq_iff_iff]; simp only [Bool.or_eq_true, decide_eq_true_eq]
  exact or_congr h1 h2
theorem tw_next {p : UInt8 → Bool} {d : List UInt8} {j : Nat} (hj : j ≤ (d.takeWhile p).length) : (j < d.length → p (d.getD j 0) = true → j < (d.takeWhile p).length) ∧ ((j < d.length → p (d.getD j 0) = false) → j = (d.takeWhile p).length) := by
  have hl := tw_len p d
  refine ⟨fun h hp => ?_, fun h => ?_⟩
  · rcases Nat.lt_or_ge j (d.takeWhile p).length with g | g
    · exact g
    · have e : j = (d.takeWhile p).length := by omega
      have := tw_end (p := p) (l := d) (by omega)
      rw [← e, hp] at this; cases this
  · rcases Nat.lt_or_ge j (d.takeWhile p).length with g | g
    · have := tw_lt g
      have h2 := h this.1
      rw [this.2] at h2; cases h2
    · omega
/-! ### epactref10.blank -/
noncomputable def rblank_e : Ev' := ⟨Tryz.prog, glob, Γof []⟩
theorem rblank_g : Gd cfg rblank_e := gd (env_nil _)
noncomputable def rblank_f : FnD := ⟨162, Tryz.f162, noSh, Tryz.f162.resultTypes.toList, 0⟩
theorem rblank_ent (h : Hd) (c : Int) : rblank_f.ent rblank_e [] h [c1 (.int .u8 c)] [] = bif decide (c = (32 : Int)) then ret (vB true) else ret (vB (decide (c = (9 : Int)))) := by kernel_rfl
theorem rblank_run (c : Int) : ∃ fu, rblank_f.run rblank_e [] fu [c1 (.int .u8 c)] [] = some ⟨vB (decide (c = 32) || decide (c = 9)), []⟩ := by
  refine ⟨0, ?_⟩
  rw [FnD.run, rblank_ent]
  by_cases h : c = 32
  · exact condT h (retV (by rw [decide_eq_true h]; rfl))
  · exact condF h (retV (by rw [decide_eq_false h]; rfl))
theorem rblank_ok (c : Int) : FnOk cfg 162 ([c1 (.int .u8 c)].map SV.den) (vB (decide (c = 32) || decide (c = 9)) : SV).den := by
  obtain ⟨nn, h⟩ := rblank_run c
  exact FnD.ok rblank_g rblank_f mixed Tryz.func162 rfl rfl rfl rfl rfl rfl h
noncomputable def c_rblank : SpecF := fun args _ K => match args with
  | [.one (.c (.int .u8 c))] => K (vB (decide (c = 32) || decide (c = 9))) []
  | _ => none
theorem c_rblank_ok : SpecOk cfg 162 c_rblank := by
  intro args bx K out h
  unfold c_rblank at h
  split at h
  · exact ⟨_, _, h, .inl (rblank_ok _ _), by simp [isTupS]⟩
  · cases h
/-! ### epactref10.blanks -/
noncomputable def rblanks_e : Ev' := ⟨Tryz.prog, glob, Γof [(162, c_rblank)]⟩
theorem rblanks_g : Gd cfg rblanks_e := gd (env_cons c_rblank_ok (env_nil _))
noncomputable def rblanks_f : FnD := ⟨114, Tryz.f114, shOf [(0, ⟨18, [], [], [(0, .c (.str)), (1, .c (.int .i64))]⟩)], Tryz.f114.resultTypes.toList, 0⟩
theorem rblanks_ent (h : Hd) (s : ByteArray) (i : Int) : rblanks_f.ent rblanks_e [] h [vS s, vI i] [] = h (0 : Nat) [Lf.s s, Lf.i i] := by kernel_rfl
theorem rblanks_l0 (h : Hd) (s0 : ByteArray) (i1 : Int) : rblanks_f.seg rblanks_e [] h 0 [.s s0, .i i1] = bif decide (i1 < (↑s0.size : Int)) then bif inB i1 s0.size then bif decide ((bytesI s0).getD i1.toNat (0 : Int) = (32 : Int)) || decide ((bytesI s0).getD i1.toNat (0 : Int) = (9 : Int)) then h (0 : Nat) [Lf.s s0, Lf.i (IntKind.i64.wrap (i1 + (1 : Int)))] else ret (vI i1) else none else ret (vI i1) := by kernel_rfl

theorem rblanks_loop (l : List UInt8) (i : Nat) (hl : l.length ≤ 9223372036854775807) (hi : i ≤ l.length) : ∀ (k j : Nat), j ≤ ((l.drop i).takeWhile isBl).length → ((l.drop i).takeWhile isBl).length - j < k →
    rblanks_f.H rblanks_e [] k 0 [.s (tx l), .i ((i + j : Nat) : Int)] = ret (vI ((i + ((l.drop i).takeWhile isBl).length : Nat) : Int)) := by
  have hdl : (l.drop i).length = l.length - i := List.length_drop
  have hg := getD_drop l i
  generalize l.drop i = d at *
  have hlen := tw_len isBl d
  intro k
  induction k with
  | zero => intro j _ h; omega
  | succ k ih =>
    intro j hj hk
    obtain ⟨n1, n2⟩ := tw_next hj
    rw [FnD.H_succ, rblanks_l0]
    simp only [bytes_get, tx_size, Int.toNat_natCast, hg, bl_cond]
    by_cases h : j < d.length
    · refine condT (by omega) (condB ((inB_iff _ _).2 (by omega)) ?_)
      cases hp : isBl (d.getD j 0) with
      | true =>
        have := n1 h hp
        rw [show IntKind.i64.wrap (((i + j : Nat) : Int) + 1) = ((i + (j + 1) : Nat) : Int) by rw [IntWalk.i64_in _ (by omega)]; omega]
        exact ih (j + 1) (by omega) (by omega)
      | false =>
        have := n2 fun _ => hp
        exact condN rfl (retV (by rw [this]))
    · have := n2 fun g => absurd g h
      exact condF (by omega) (retV (by rw [this]))
theorem rblanks_run (s : ByteArray) (i : Int) (hp : 0 ≤ i ∧ i ≤ s.size ∧ s.size ≤ 9223372036854775807) : ∃ fu, rblanks_f.run rblanks_e [] fu [vS s, vI i] [] = some ⟨vI (i + (((s.data.toList.drop i.toNat).takeWhile isBl).length : Nat)), []⟩ := by
  obtain ⟨l, rfl, hl⟩ := tx_get s
  obtain ⟨h1, h2, h3⟩ := hp
  obtain ⟨i, rfl⟩ := Int.eq_ofNat_of_zero_le h1
  rw [tx_size] at h2 h3
  rw [tx_toList, Int.toNat_natCast]
  have := tw_len isBl (l.drop i)
  refine ⟨((l.drop i).takeWhile isBl).length + 1, ?_⟩
  rw [FnD.run, rblanks_ent]
  refine (rblanks_loop l i h3 (by omega) _ 0 (by omega) (by omega)).trans (retV (by rw [Int.natCast_add]))
theorem rblanks_ok (s : ByteArray) (i : Int) (hp : 0 ≤ i ∧ i ≤ s.size ∧ s.size ≤ 9223372036854775807) : FnOk cfg 114 ([vS s, vI i].map SV.den) (vI (i + (((s.data.toList.drop i.toNat).takeWhile isBl).length : Nat)) : SV).den := by
  obtain ⟨nn, h⟩ := rblanks_run s i hp
  exact FnD.ok rblanks_g rblanks_f mixed Tryz.func114 rfl rfl rfl rfl rfl rfl h
noncomputable def c_rblanks : SpecF := fun args _ K => match args with
  | [.one (.c (.str s)), .one (.c (.int .i64 i))] => bif decide (0 ≤ i ∧ i ≤ s.size ∧ s.size ≤ 9223372036854775807) then K (vI (i + (((s.data.toList.drop i.toNat).takeWhile isBl).length : Nat))) [] else none
  | _ => none
theorem c_rblanks_ok : SpecOk cfg 114 c_rblanks := by
  intro args bx K out h
  unfold c_rblanks at h
  split at h
  · obtain ⟨hp, h⟩ := bif_some h
    exact ⟨_, _, h, .inl (rblanks_ok _ _ (of_decide_eq_true hp) _), by simp [isTupS]⟩
  · cases h
/-! ### epactref10.number -/
noncomputable def rnumb_e : Ev' := ⟨Tryz.prog, glob, Γof []⟩
theorem rnumb_g : Gd cfg rnumb_e := gd (env_nil _)
noncomputable def rnumb_f : FnD := ⟨116, Tryz.f116, shOf [(0, ⟨57, [], [], [(0, .c (.str)), (1, .c (.int .i64)), (7, .c (.int .i64)), (8, .c (.int .i64))]⟩)], Tryz.f116.resultTypes.toList, 0⟩
theorem rnumb_ent (h : Hd) (s : ByteArray) (i : Int) : rnumb_f.ent rnumb_e [] h [vS s, vI i] [] = h (0 : Nat) [Lf.s s, Lf.i i, Lf.i (0 : Int), Lf.i i] := by kernel_rfl
theorem rnumb_l0 (h : Hd) (s0 : ByteArray) (i1 : Int) (i2 : Int) (i3 : Int) : rnumb_f.seg rnumb_e [] h 0 [.s s0, .i i1, .i i2, .i i3] = bif decide (i1 < (↑s0.size : Int)) then bif inB i1 s0.size then bif decide ((48 : Int) ≤ (bytesI s0).getD i1.toNat (0 : Int)) then bif inB i1 s0.size then bif decide ((bytesI s0).getD i1.toNat (0 : Int) ≤ (57 : Int)) then bif decide ((18 : Int) ≤ IntKind.i64.wrap (i1 - i3)) then ret (SV.tup [tI (0 : Int), tI (0 : Int), S1.c (Cl.bool false)]) else bif inB i1 s0.size then h (0 : Nat) [Lf.s s0, Lf.i (IntKind.i64.wrap (i1 + (1 : Int))), Lf.i (IntKind.i64.wrap (IntKind.i64.wrap (i2 * (10 : Int)) + IntKind.i64.wrap (IntKind.u8.wrap ((bytesI s0).getD i1.toNat (0 : Int) - (48 : Int))))), Lf.i i3] else none else bif decide (i3 < i1) then bif inB i3 s0.size then bif !decide ((bytesI s0).getD i3.toNat (0 : Int) = (48 : Int)) then ret (SV.tup [tI i2, tI i1, S1.c (Cl.bool true)]) else ret (SV.tup [tI i2, tI i1, S1.c (Cl.bool (decide (i1 = IntKind.i64.wrap (i3 + (1 : Int)))))]) else none else ret (SV.tup [tI i2, tI i1, S1.c (Cl.bool false)]) else none else bif decide (i3 < i1) then bif inB i3 s0.size then bif !decide ((bytesI s0).getD i3.toNat (0 : Int) = (48 : Int)) then ret (SV.tup [tI i2, tI i1, S1.c (Cl.bool true)]) else ret (SV.tup [tI i2, tI i1, S1.c (Cl.bool (decide (i1 = IntKind.i64.wrap (i3 + (1 : Int)))))]) else none else ret (SV.tup [tI i2, tI i1, S1.c (Cl.bool false)]) else none else bif decide (i3 < i1) then bif inB i3 s0.size then bif !decide ((bytesI s0).getD i3.toNat (0 : Int) = (48 : Int)) then ret (SV.tup [tI i2, tI i1, S1.c (Cl.bool true)]) else ret (SV.tup [tI i2, tI i1, S1.c (Cl.bool (decide (i1 = IntKind.i64.wrap (i3 + (1 : Int)))))]) else none else ret (SV.tup [tI i2, tI i1, S1.c (Cl.bool false)]) := by kernel_rfl

theorem numbR {a b a' b' : Int} {t t' : Bool} (h1 : a = a') (h2 : b = b') (h3 : t = t') : (ret (.tup [tI a, tI b, .c (.bool t)])) = some ⟨.tup [tI a', tI b', tB t'], []⟩ := by rw [h1, h2, h3]
theorem rnumb_loop (l : List UInt8) (i : Nat) (hl : l.length ≤ 9223372036854775807) (hi : i ≤ l.length) : ∀ (k j : Nat), j ≤ ((l.drop i).takeWhile isDig).length → j ≤ 18 → ((l.drop i).takeWhile isDig).length - j < k →
    rnumb_f.H rnumb_e [] k 0 [.s (tx l), .i ((i + j : Nat) : Int), .i (dval ((l.drop i).take j)), .i i] = some ⟨.tup [tI (if 18 < ((l.drop i).takeWhile isDig).length then 0 else dval ((l.drop i).takeWhile isDig)), tI (if 18 < ((l.drop i).takeWhile isDig).length then 0 else (i : Int) + (((l.drop i).takeWhile isDig).length : Nat)), tB (okN ((l.drop i).takeWhile isDig))], []⟩ := by
  have hdl : (l.drop i).length = l.length - i := List.length_drop
  have hg := getD_drop l i
  have hg0 : l.getD i 0 = (l.drop i).getD 0 0 := hg 0
  generalize l.drop i = d at *
  have hlen := tw_len isDig d
  have hall := tw_all isDig d
  have ht := tw_take isDig d
  intro k
  induction k with
  | zero => intro j _ _ h; omega
  | succ k ih =>
    intro j hj hj18 hk
    obtain ⟨n1, n2⟩ := tw_next hj
    rw [FnD.H_succ, rnumb_l0]
    simp only [bytes_get, tx_size, Int.toNat_natCast, hg, hg0]
    have fin : j = (d.takeWhile isDig).length → (bif decide ((i : Int) < ((i + j : Nat) : Int)) then bif inB (i : Int) l.length then bif !decide (((d.getD 0 0).toNat : Int) = 48) then (ret (.tup [tI (dval (d.take j)), tI ((i + j : Nat) : Int), .c (.bool true)])) else (ret (.tup [tI (dval (d.take j)), tI ((i + j : Nat) : Int), .c (.bool (decide (((i + j : Nat) : Int) = IntKind.i64.wrap ((i : Int) + 1))))])) else none else (ret (.tup [tI (dval (d.take j)), tI ((i + j : Nat) : Int), .c (.bool false)]))) = some ⟨.tup [tI (if 18 < (d.takeWhile isDig).length then 0 else dval (d.takeWhile isDig)), tI (if 18 < (d.takeWhile isDig).length then 0 else (i : Int) + ((d.takeWhile isDig).length : Nat)), tB (okN (d.takeWhile isDig))], []⟩ := fun e => by
      rw [e, ht, if_neg (by omega), if_neg (by omega)]
      rw [e] at hj18
      generalize hw : d.takeWhile isDig = w at *
      unfold okN
      by_cases h0 : w = []
      · have : w.length = 0 := by rw [h0]; rfl
        exact condF (by omega) (numbR rfl (by omega) (by rw [decide_eq_true h0]; rfl))
      · have hne : w.length ≠ 0 := fun e => h0 (List.length_eq_zero_iff.1 e)
        have hd0 : d.getD 0 0 = w.getD 0 0 := by
          rw [← ht, List.getD_eq_getElem?_getD, List.getD_eq_getElem?_getD, List.getElem?_take, if_pos (by omega)]
        rw [hd0, decide_eq_false h0, decide_eq_true hj18]
        refine condT (by omega) (condB ((inB_iff _ _).2 (by omega)) ?_)
        have e48 : ((w.getD 0 0).toNat : Int) = 48 ↔ w.getD 0 0 = 48 := byte_eq _ 48 (by omega)
        by_cases h48 : w.getD 0 0 = 48
        · refine condN (by rw [decide_eq_true (e48.2 h48)]; rfl) (numbR rfl (by omega) ?_)
          rw [decide_eq_true h48, IntWalk.i64_in _ (by omega)]
          rw [Bool.eq_iff_iff]; simp; omega
        · exact condB (by rw [decide_eq_false (fun h => h48 (e48.1 h))]; rfl) (numbR rfl (by omega) (by rw [decide_eq_false h48]; rfl))
    by_cases h : j < d.length
    · have hin : inB ((i + j : Nat) : Int) l.length = true := (inB_iff _ _).2 (by omega)
      refine condT (by omega) (condB hin ?_)
      cases hp : isDig (d.getD j 0) with
      | true =>
        have hlt := n1 h hp
        have hd := dig_in hp
        have hp' := hp
        unfold isDig at hp'
        simp only [Bool.and_eq_true, decide_eq_true_eq] at hp'
        refine condT (by omega) (condB hin (condT (by omega) ?_))
        have w1 : IntKind.i64.wrap (((i + j : Nat) : Int) - i) = j := by rw [IntWalk.i64_in _ (by omega)]; omega
        rw [w1]
        by_cases h18 : 18 ≤ j
        · refine condT (by omega) (numbR (by rw [if_pos (by omega)]) (by rw [if_pos (by omega)]) ?_)
          unfold okN
          rw [decide_eq_false (show ¬ (d.takeWhile isDig).length ≤ 18 by omega)]; simp
        · have e1 : d.take (j + 1) = d.take j ++ [d.getD j 0] := by rw [List.take_succ_eq_append_getElem h, List.getD_eq_getElem?_getD, List.getElem?_eq_getElem h]; rfl
          have hx : dval (d.take (j + 1)) = dval (d.take j) * 10 + dig (d.getD j 0) := by rw [e1, dval_snoc]
          have hta : (d.take j).all isDig = true := by
            have : d.take j = (d.takeWhile isDig).take j := by rw [← ht, List.take_take, Nat.min_eq_left hj]
            rw [this]; exact all_take hall j
          obtain ⟨x0, x1⟩ := dval_bound hta
          rw [List.length_take, Nat.min_eq_left (by omega)] at x1
          have p17 : (10 : Int) ^ j ≤ 100000000000000000 := by
            have := Nat.pow_le_pow_right (n := 10) (by omega) (show j ≤ 17 by omega)
            have e : ∀ j : Nat, (10 : Int) ^ j = ((10 ^ j : Nat) : Int) := fun j => by rw [Int.natCast_pow]; rfl
            rw [e]; exact Int.ofNat_le.2 this
          have hdg : dig (d.getD j 0) = ((d.getD j 0).toNat : Int) - 48 := rfl
          have w2 : IntKind.i64.wrap (IntKind.u8.wrap (((d.getD j 0).toNat : Int) - 48)) = dig (d.getD j 0) := by rw [IntWalk.u8_in _ (by omega), IntWalk.i64_in _ (by omega)]; rfl
          have w3 : IntKind.i64.wrap (dval (d.take j) * 10) = dval (d.take j) * 10 := IntWalk.i64_in _ (by omega)
          have w4 : IntKind.i64.wrap (dval (d.take j) * 10 + dig (d.getD j 0)) = dval (d.take j) * 10 + dig (d.getD j 0) := IntWalk.i64_in _ (by omega)
          rw [w2, w3, w4, show IntKind.i64.wrap (((i + j : Nat) : Int) + 1) = ((i + (j + 1) : Nat) : Int) by rw [IntWalk.i64_in _ (by omega)]; omega, ← hx]
          exact condF (by omega) (condB hin (ih (j + 1) (by omega) (by omega) (by omega)))
      | false =>
        have e := n2 fun _ => hp
        unfold isDig at hp
        simp only [Bool.and_eq_false_iff, decide_eq_false_iff_not] at hp
        by_cases h48 : (48 : Int) ≤ ((d.getD j 0).toNat : Int)
        · exact condT h48 (condB hin (condF (by omega) (fin e)))
        · exact condF h48 (fin e)
    · exact condF (by omega) (fin (n2 fun g => absurd g h))
theorem rnumb_run (s : ByteArray) (i : Int) (hp : 0 ≤ i ∧ i ≤ s.size ∧ s.size ≤ 9223372036854775807) : ∃ fu, rnumb_f.run rnumb_e [] fu [vS s, vI i] [] = some ⟨.tup [tI (if 18 < ((s.data.toList.drop i.toNat).takeWhile isDig).length then 0 else dval ((s.data.toList.drop i.toNat).takeWhile isDig)), tI (if 18 < ((s.data.toList.drop i.toNat).takeWhile isDig).length then 0 else i + (((s.data.toList.drop i.toNat).takeWhile isDig).length : Nat)), tB (okN ((s.data.toList.drop i.toNat).takeWhile isDig))], []⟩ := by
  obtain ⟨l, rfl, hl⟩ := tx_get s
  obtain ⟨h1, h2, h3⟩ := hp
  obtain ⟨i, rfl⟩ := Int.eq_ofNat_of_zero_le h1
  rw [tx_size] at h2 h3
  rw [tx_toList, Int.toNat_natCast]
  have := tw_len isDig (l.drop i)
  refine ⟨((l.drop i).takeWhile isDig).length + 1, ?_⟩
  rw [FnD.run, rnumb_ent]
  exact rnumb_loop l i h3 (by omega) _ 0 (by omega) (by omega) (by omega)
theorem rnumb_ok (s : ByteArray) (i : Int) (hp : 0 ≤ i ∧ i ≤ s.size ∧ s.size ≤ 9223372036854775807) : FnOk cfg 116 ([vS s, vI i].map SV.den) (.tup [tI (if 18 < ((s.data.toList.drop i.toNat).takeWhile isDig).length then 0 else dval ((s.data.toList.drop i.toNat).takeWhile isDig)), tI (if 18 < ((s.data.toList.drop i.toNat).takeWhile isDig).length then 0 else i + (((s.data.toList.drop i.toNat).takeWhile isDig).length : Nat)), tB (okN ((s.data.toList.drop i.toNat).takeWhile isDig))] : SV).den := by
  obtain ⟨nn, h⟩ := rnumb_run s i hp
  exact FnD.ok rnumb_g rnumb_f mixed Tryz.func116 rfl rfl rfl rfl rfl rfl h
noncomputable def c_rnumb : SpecF := fun args _ K => match args with
  | [.one (.c (.str s)), .one (.c (.int .i64 i))] => bif decide (0 ≤ i ∧ i ≤ s.size ∧ s.size ≤ 9223372036854775807) then K (.tup [tI (if 18 < ((s.data.toList.drop i.toNat).takeWhile isDig).length then 0 else dval ((s.data.toList.drop i.toNat).takeWhile isDig)), tI (if 18 < ((s.data.toList.drop i.toNat).takeWhile isDig).length then 0 else i + (((s.data.toList.drop i.toNat).takeWhile isDig).length : Nat)), tB (okN ((s.data.toList.drop i.toNat).takeWhile isDig))]) [] else none
  | _ => none
theorem c_rnumb_ok : SpecOk cfg 116 c_rnumb := by
  intro args bx K out h
  unfold c_rnumb at h
  split at h
  · obtain ⟨hp, h⟩ := bif_some h
    exact ⟨_, _, h, .inl (rnumb_ok _ _ (of_decide_eq_true hp) _), by simp [isTupS]⟩
  · cases h
/-! ### epactref10.word -/
noncomputable def rword_e : Ev' := ⟨Tryz.prog, glob, Γof []⟩
theorem rword_g : Gd cfg rword_e := gd (env_nil _)
noncomputable def rword_f : FnD := ⟨115, Tryz.f115, shOf [(0, ⟨72, [], [], [(0, .c (.str)), (1, .c (.int .i64)), (7, .c (.int .i64)), (8, .c (.int .i64))]⟩)], Tryz.f115.resultTypes.toList, 0⟩
theorem rword_ent (h : Hd) (s : ByteArray) (i : Int) : rword_f.ent rword_e [] h [vS s, vI i] [] = h (0 : Nat) [Lf.s s, Lf.i i, Lf.i (0 : Int), Lf.i i] := by kernel_rfl
theorem rword_l0 (h : Hd) (s0 : ByteArray) (i1 : Int) (i2 : Int) (i3 : Int) : rword_f.seg rword_e [] h 0 [.s s0, .i i1, .i i2, .i i3] = let v1 : Int := IntKind.i64.wrap (IntKind.i64.wrap (IntKind.u8.wrap ((bytesI s0).getD i1.toNat (0 : Int) - (97 : Int))) + (10 : Int)); let v2 : Int := IntKind.i64.wrap (IntKind.i64.wrap (i2 * (16 : Int)) + v1); let v3 : Int := IntKind.i64.wrap (IntKind.u8.wrap ((bytesI s0).getD i1.toNat (0 : Int) - (48 : Int))); let v4 : Int := IntKind.i64.wrap (IntKind.i64.wrap (i2 * (16 : Int)) + v3); bif decide (i1 < (↑s0.size : Int)) then bif decide (IntKind.i64.wrap (i1 - i3) ≤ (8 : Int)) then bif inB i1 s0.size then bif decide ((48 : Int) ≤ (bytesI s0).getD i1.toNat (0 : Int)) then bif inB i1 s0.size then bif decide ((bytesI s0).getD i1.toNat (0 : Int) ≤ (57 : Int)) then bif inB i1 s0.size then bif inB i1 s0.size then bif decide ((97 : Int) ≤ (bytesI s0).getD i1.toNat (0 : Int)) then bif inB i1 s0.size then bif decide ((bytesI s0).getD i1.toNat (0 : Int) ≤ (102 : Int)) then bif inB i1 s0.size then bif decide (v1 < (0 : Int)) then bif decide (i3 < i1) then ret (SV.tup [S1.c (Cl.int IntKind.u32 (IntKind.u32.wrap i2)), tI i1, S1.c (Cl.bool (decide (IntKind.i64.wrap (i1 - i3) ≤ (8 : Int))))]) else ret (SV.tup [S1.c (Cl.int IntKind.u32 (IntKind.u32.wrap i2)), tI i1, S1.c (Cl.bool false)]) else h (0 : Nat) [Lf.s s0, Lf.i (IntKind.i64.wrap (i1 + (1 : Int))), Lf.i v2, Lf.i i3] else none else bif decide (v3 < (0 : Int)) then bif decide (i3 < i1) then ret (SV.tup [S1.c (Cl.int IntKind.u32 (IntKind.u32.wrap i2)), tI i1, S1.c (Cl.bool (decide (IntKind.i64.wrap (i1 - i3) ≤ (8 : Int))))]) else ret (SV.tup [S1.c (Cl.int IntKind.u32 (IntKind.u32.wrap i2)), tI i1, S1.c (Cl.bool false)]) else h (0 : Nat) [Lf.s s0, Lf.i (IntKind.i64.wrap (i1 + (1 : Int))), Lf.i v4, Lf.i i3] else none else bif decide (v3 < (0 : Int)) then bif decide (i3 < i1) then ret (SV.tup [S1.c (Cl.int IntKind.u32 (IntKind.u32.wrap i2)), tI i1, S1.c (Cl.bool (decide (IntKind.i64.wrap (i1 - i3) ≤ (8 : Int))))]) else ret (SV.tup [S1.c (Cl.int IntKind.u32 (IntKind.u32.wrap i2)), tI i1, S1.c (Cl.bool false)]) else h (0 : Nat) [Lf.s s0, Lf.i (IntKind.i64.wrap (i1 + (1 : Int))), Lf.i v4, Lf.i i3] else none else none else bif inB i1 s0.size then bif decide ((97 : Int) ≤ (bytesI s0).getD i1.toNat (0 : Int)) then bif inB i1 s0.size then bif decide ((bytesI s0).getD i1.toNat (0 : Int) ≤ (102 : Int)) then bif inB i1 s0.size then bif decide (v1 < (0 : Int)) then bif decide (i3 < i1) then ret (SV.tup [S1.c (Cl.int IntKind.u32 (IntKind.u32.wrap i2)), tI i1, S1.c (Cl.bool (decide (IntKind.i64.wrap (i1 - i3) ≤ (8 : Int))))]) else ret (SV.tup [S1.c (Cl.int IntKind.u32 (IntKind.u32.wrap i2)), tI i1, S1.c (Cl.bool false)]) else h (0 : Nat) [Lf.s s0, Lf.i (IntKind.i64.wrap (i1 + (1 : Int))), Lf.i v2, Lf.i i3] else none else bif decide (i3 < i1) then ret (SV.tup [S1.c (Cl.int IntKind.u32 (IntKind.u32.wrap i2)), tI i1, S1.c (Cl.bool (decide (IntKind.i64.wrap (i1 - i3) ≤ (8 : Int))))]) else ret (SV.tup [S1.c (Cl.int IntKind.u32 (IntKind.u32.wrap i2)), tI i1, S1.c (Cl.bool false)]) else none else bif decide (i3 < i1) then ret (SV.tup [S1.c (Cl.int IntKind.u32 (IntKind.u32.wrap i2)), tI i1, S1.c (Cl.bool (decide (IntKind.i64.wrap (i1 - i3) ≤ (8 : Int))))]) else ret (SV.tup [S1.c (Cl.int IntKind.u32 (IntKind.u32.wrap i2)), tI i1, S1.c (Cl.bool false)]) else none else none else bif inB i1 s0.size then bif decide ((97 : Int) ≤ (bytesI s0).getD i1.toNat (0 : Int)) then bif inB i1 s0.size then bif decide ((bytesI s0).getD i1.toNat (0 : Int) ≤ (102 : Int)) then bif inB i1 s0.size then bif decide (v1 < (0 : Int)) then bif decide (i3 < i1) then ret (SV.tup [S1.c (Cl.int IntKind.u32 (IntKind.u32.wrap i2)), tI i1, S1.c (Cl.bool (decide (IntKind.i64.wrap (i1 - i3) ≤ (8 : Int))))]) else ret (SV.tup [S1.c (Cl.int IntKind.u32 (IntKind.u32.wrap i2)), tI i1, S1.c (Cl.bool false)]) else h (0 : Nat) [Lf.s s0, Lf.i (IntKind.i64.wrap (i1 + (1 : Int))), Lf.i v2, Lf.i i3] else none else bif decide (i3 < i1) then ret (SV.tup [S1.c (Cl.int IntKind.u32 (IntKind.u32.wrap i2)), tI i1, S1.c (Cl.bool (decide (IntKind.i64.wrap (i1 - i3) ≤ (8 : Int))))]) else ret (SV.tup [S1.c (Cl.int IntKind.u32 (IntKind.u32.wrap i2)), tI i1, S1.c (Cl.bool false)]) else none else bif decide (i3 < i1) then ret (SV.tup [S1.c (Cl.int IntKind.u32 (IntKind.u32.wrap i2)), tI i1, S1.c (Cl.bool (decide (IntKind.i64.wrap (i1 - i3) ≤ (8 : Int))))]) else ret (SV.tup [S1.c (Cl.int IntKind.u32 (IntKind.u32.wrap i2)), tI i1, S1.c (Cl.bool false)]) else none else none else bif decide (i3 < i1) then ret (SV.tup [S1.c (Cl.int IntKind.u32 (IntKind.u32.wrap i2)), tI i1, S1.c (Cl.bool (decide (IntKind.i64.wrap (i1 - i3) ≤ (8 : Int))))]) else ret (SV.tup [S1.c (Cl.int IntKind.u32 (IntKind.u32.wrap i2)), tI i1, S1.c (Cl.bool false)]) else bif decide (i3 < i1) then ret (SV.tup [S1.c (Cl.int IntKind.u32 (IntKind.u32.wrap i2)), tI i1, S1.c (Cl.bool (decide (IntKind.i64.wrap (i1 - i3) ≤ (8 : Int))))]) else ret (SV.tup [S1.c (Cl.int IntKind.u32 (IntKind.u32.wrap i2)), tI i1, S1.c (Cl.bool false)]) := by kernel_rfl

theorem wordR {a a' b b' : Int} {t t' : Bool} (h1 : a = a') (h2 : b = b') (h3 : t = t') : (ret (.tup [.c (.int .u32 a), tI b, .c (.bool t)])) = some ⟨.tup [.c (.int .u32 a'), tI b', tB t'], []⟩ := by rw [h1, h2, h3]
theorem rword_loop (l : List UInt8) (i : Nat) (hl : l.length ≤ 9223372036854775807) (hi : i ≤ l.length) : ∀ (k j : Nat), j ≤ ((l.drop i).takeWhile isHex).length → j ≤ 9 → 9 - j < k →
    rword_f.H rword_e [] k 0 [.s (tx l), .i ((i + j : Nat) : Int), .i (hval ((l.drop i).take j)), .i i] = some ⟨.tup [.c (.int .u32 (IntKind.u32.wrap (hval (((l.drop i).takeWhile isHex).take 9)))), tI ((i : Int) + (min ((l.drop i).takeWhile isHex).length 9 : Nat)), tB (okH ((l.drop i).takeWhile isHex))], []⟩ := by
  have hdl : (l.drop i).length = l.length - i := List.length_drop
  have hg := getD_drop l i
  generalize l.drop i = d at *
  have hlen := tw_len isHex d
  have hall := tw_all isHex d
  have ht := tw_take isHex d
  intro k
  induction k with
  | zero => intro j _ _ h; omega
  | succ k ih =>
    intro j hj hj9 hk
    obtain ⟨n1, n2⟩ := tw_next hj
    rw [FnD.H_succ, rword_l0]
    dsimp only
    simp only [bytes_get, tx_size, Int.toNat_natCast, hg]
    have w1 : IntKind.i64.wrap (((i + j : Nat) : Int) - i) = j := by rw [IntWalk.i64_in _ (by omega)]; omega
    rw [w1]
    have fin : j = min (d.takeWhile isHex).length 9 → (bif decide ((i : Int) < ((i + j : Nat) : Int)) then (ret (.tup [.c (.int .u32 (IntKind.u32.wrap (hval (d.take j)))), tI ((i + j : Nat) : Int), .c (.bool (decide ((j : Int) ≤ 8)))])) else (ret (.tup [.c (.int .u32 (IntKind.u32.wrap (hval (d.take j)))), tI ((i + j : Nat) : Int), .c (.bool false)]))) = some ⟨.tup [.c (.int .u32 (IntKind.u32.wrap (hval ((d.takeWhile isHex).take 9)))), tI ((i : Int) + (min (d.takeWhile isHex).length 9 : Nat)), tB (okH (d.takeWhile isHex))], []⟩ := fun e => by
      have e1 : d.take j = (d.takeWhile isHex).take 9 := by
        rw [← ht, List.take_take, Nat.min_comm, ← e]
      rw [e1, ← e]
      unfold okH
      by_cases h0 : d.takeWhile isHex = []
      · have : (d.takeWhile isHex).length = 0 := by rw [h0]; rfl
        exact condF (by omega) (wordR rfl (by omega) (by rw [decide_eq_true h0]; rfl))
      · have hne : (d.takeWhile isHex).length ≠ 0 := fun e => h0 (List.length_eq_zero_iff.1 e)
        refine condT (by omega) (wordR rfl (by omega) ?_)
        rw [decide_eq_false h0, Bool.eq_iff_iff]; simp; omega
    by_cases h : j < d.length
    · have hin : inB ((i + j : Nat) : Int) l.length = true := (inB_iff _ _).2 (by omega)
      refine condT (by omega) ?_
      by_cases h8 : j ≤ 8
      · refine condT (by omega) (condB hin ?_)
        cases hp : isHex (d.getD j 0) with
        | true =>
          have hlt := n1 h hp
          have hd := hexd_in hp
          have e1 : d.take (j + 1) = d.take j ++ [d.getD j 0] := by rw [List.take_succ_eq_append_getElem h, List.getD_eq_getElem?_getD, List.getElem?_eq_getElem h]; rfl
          have hx : hval (d.take (j + 1)) = hval (d.take j) * 16 + hexd (d.getD j 0) := by rw [e1, hval_snoc]
          have hta : (d.take j).all isHex = true := by
            have : d.take j = (d.takeWhile isHex).take j := by rw [← ht, List.take_take, Nat.min_eq_left hj]
            rw [this]
            rw [List.all_eq_true] at hall ⊢
            exact fun x hx => hall x (List.mem_of_mem_take hx)
          obtain ⟨x0, x1⟩ := hval_bound hta
          rw [List.length_take, Nat.min_eq_left (by omega)] at x1
          have p8 : (16 : Int) ^ j ≤ 4294967296 := by
            have := Nat.pow_le_pow_right (n := 16) (by omega) h8
            have e : ∀ j : Nat, (16 : Int) ^ j = ((16 ^ j : Nat) : Int) := fun j => by rw [Int.natCast_pow]; rfl
            rw [e]; exact Int.ofNat_le.2 this
          have nx := ih (j + 1) (by omega) (by omega) (by omega)
          rw [hx] at nx
          have w3 : IntKind.i64.wrap (hval (d.take j) * 16) = hval (d.take j) * 16 := IntWalk.i64_in _ (by omega)
          have w5 : IntKind.i64.wrap (((i + j : Nat) : Int) + 1) = ((i + (j + 1) : Nat) : Int) := by rw [IntWalk.i64_in _ (by omega)]; omega
          have w4 : IntKind.i64.wrap (hval (d.take j) * 16 + hexd (d.getD j 0)) = hval (d.take j) * 16 + hexd (d.getD j 0) := IntWalk.i64_in _ (by omega)
          unfold isHex isDig at hp
          simp only [Bool.or_eq_true, Bool.and_eq_true, decide_eq_true_eq] at hp
          generalize d.getD j 0 = c at *
          rw [w3, w5]
          by_cases hle : c.toNat ≤ 57
          · have wd : IntKind.i64.wrap (IntKind.u8.wrap ((c.toNat : Int) - 48)) = hexd c := by
              unfold hexd; rw [if_pos hle, IntWalk.u8_in _ (by omega), IntWalk.i64_in _ (by omega)]
            rw [wd, w4]
            exact condT (by omega) (condB hin (condT (by omega) (condB hin (condB hin (condF (by omega) (condF (by omega) nx))))))
          · have wd : IntKind.i64.wrap (IntKind.i64.wrap (IntKind.u8.wrap ((c.toNat : Int) - 97)) + 10) = hexd c := by
              unfold hexd; rw [if_neg hle, IntWalk.u8_in _ (by omega), IntWalk.i64_in ((c.toNat : Int) - 97) (by omega), IntWalk.i64_in _ (by omega)]; omega
            rw [wd, w4]
            exact condT (by omega) (condB hin (condF (by omega) (condB hin (condT (by omega) (condB hin (condT (by omega) (condB hin (condF (by omega) nx))))))))
        | false =>
          have e := n2 fun _ => hp
          have fe := fin (by omega)
          unfold isHex isDig at hp
          simp only [Bool.or_eq_false_iff, Bool.and_eq_false_iff, decide_eq_false_iff_not] at hp
          generalize d.getD j 0 = c at *
          by_cases h48 : (48 : Int) ≤ (c.toNat : Int)
          · refine condT h48 (condB hin (condF (by omega) (condB hin ?_)))
            by_cases h97 : (97 : Int) ≤ (c.toNat : Int)
            · exact condT h97 (condB hin (condF (by omega) fe))
            · exact condF h97 fe
          · exact condF h48 (condB hin (condF (by omega) fe))
      · exact condF (by omega) (fin (by omega))
    · have e := n2 fun g => absurd g h
      exact condF (by omega) (fin (by omega))
theorem rword_run (s : ByteArray) (i : Int) (hp : 0 ≤ i ∧ i ≤ s.size ∧ s.size ≤ 9223372036854775807) : ∃ fu, rword_f.run rword_e [] fu [vS s, vI i] [] = some ⟨.tup [.c (.int .u32 (IntKind.u32.wrap (hval (((s.data.toList.drop i.toNat).takeWhile isHex).take 9)))), tI (i + (min ((s.data.toList.drop i.toNat).takeWhile isHex).length 9 : Nat)), tB (okH ((s.data.toList.drop i.toNat).takeWhile isHex))], []⟩ := by
  obtain ⟨l, rfl, hl⟩ := tx_get s
  obtain ⟨h1, h2, h3⟩ := hp
  obtain ⟨i, rfl⟩ := Int.eq_ofNat_of_zero_le h1
  rw [tx_size] at h2 h3
  rw [tx_toList, Int.toNat_natCast]
  refine ⟨10, ?_⟩
  rw [FnD.run, rword_ent]
  exact rword_loop l i h3 (by omega) 10 0 (by omega) (by omega) (by omega)
theorem rword_ok (s : ByteArray) (i : Int) (hp : 0 ≤ i ∧ i ≤ s.size ∧ s.size ≤ 9223372036854775807) : FnOk cfg 115 ([vS s, vI i].map SV.den) (.tup [.c (.int .u32 (IntKind.u32.wrap (hval (((s.data.toList.drop i.toNat).takeWhile isHex).take 9)))), tI (i + (min ((s.data.toList.drop i.toNat).takeWhile isHex).length 9 : Nat)), tB (okH ((s.data.toList.drop i.toNat).takeWhile isHex))] : SV).den := by
  obtain ⟨nn, h⟩ := rword_run s i hp
  exact FnD.ok rword_g rword_f mixed Tryz.func115 rfl rfl rfl rfl rfl rfl h
noncomputable def c_rword : SpecF := fun args _ K => match args with
  | [.one (.c (.str s)), .one (.c (.int .i64 i))] => bif decide (0 ≤ i ∧ i ≤ s.size ∧ s.size ≤ 9223372036854775807) then K (.tup [.c (.int .u32 (IntKind.u32.wrap (hval (((s.data.toList.drop i.toNat).takeWhile isHex).take 9)))), tI (i + (min ((s.data.toList.drop i.toNat).takeWhile isHex).length 9 : Nat)), tB (okH ((s.data.toList.drop i.toNat).takeWhile isHex))]) [] else none
  | _ => none
theorem c_rword_ok : SpecOk cfg 115 c_rword := by
  intro args bx K out h
  unfold c_rword at h
  split at h
  · obtain ⟨hp, h⟩ := bif_some h
    exact ⟨_, _, h, .inl (rword_ok _ _ (of_decide_eq_true hp) _), by simp [isTupS]⟩
  · cases h
/-! ### epactref10.Lines -/
noncomputable def rlines_e : Ev' := ⟨Tryz.prog, glob, Γof []⟩
theorem rlines_g : Gd cfg rlines_e := gd (env_nil _)
noncomputable def rlines_f : FnD := ⟨33, Tryz.f33, shOf [(0, ⟨36, [(3, ⟨.rows [.str], false, true⟩)], [], [(0, .c (.str)), (3, .c (.sl 3 1)), (4, .c (.int .i64)), (5, .c (.int .i64))]⟩)], Tryz.f33.resultTypes.toList, 0⟩
theorem rlines_ent (h : Hd) (s : ByteArray) : rlines_f.ent rlines_e [] h [vS s] [] = h (0 : Nat) [Lf.r [], Lf.b true, Lf.s s, Lf.i (0 : Int), Lf.i (0 : Int)] := by kernel_rfl
theorem rlines_l0 (h : Hd) (r0 : List (List D)) (b1 : Bool) (s2 : ByteArray) (i3 : Int) (i4 : Int) : rlines_f.seg rlines_e [] h 0 [.r r0, .b b1, .s s2, .i i3, .i i4] = let v1 : List (List D) := List.take r0.length r0 ++ [[D.s (s2.extract i3.toNat i4.toNat)]]; let v2 : Nat := v1.length; let v3 : List (List D) := List.take r0.length r0 ++ [[D.s (s2.extract i3.toNat (↑s2.size : Int).toNat)]]; let v4 : Nat := v3.length; bif decide (i4 < (↑s2.size : Int)) then bif inB i4 s2.size then bif decide ((bytesI s2).getD i4.toNat (0 : Int) = (10 : Int)) then bif slB i3 i4 s2.size then bif b1 == b1 && true && decide (r0.length ≤ r0.length) && roomB (r0.length + (1 : Nat)) (16 : Nat) then bif nlAfter b1 (1 : Nat) == nlAfter b1 (1 : Nat) && decide (r0.length + (1 : Nat) = v2) then h (0 : Nat) [Lf.r v1, Lf.b (nlAfter b1 (1 : Nat)), Lf.s s2, Lf.i (IntKind.i64.wrap (i4 + (1 : Int))), Lf.i (IntKind.i64.wrap (i4 + (1 : Int)))] else none else none else none else bif b1 == b1 && decide (r0.length = r0.length) then h (0 : Nat) [Lf.r r0, Lf.b b1, Lf.s s2, Lf.i i3, Lf.i (IntKind.i64.wrap (i4 + (1 : Int)))] else none else none else bif decide (i3 < (↑s2.size : Int)) then bif slB i3 (↑s2.size : Int) s2.size then bif b1 == b1 && true && decide (r0.length ≤ r0.length) && roomB (r0.length + (1 : Nat)) (16 : Nat) then bif nlAfter b1 (1 : Nat) == nlAfter b1 (1 : Nat) && decide (r0.length + (1 : Nat) ≤ v4) && true then ret (c1 (Cl.rows [Kd.str] (List.take (r0.length + (1 : Nat)) v3))) else none else none else none else bif b1 == b1 && decide (r0.length ≤ r0.length) && true then ret (c1 (Cl.rows [Kd.str] (List.take r0.length r0))) else none := by kernel_rfl

theorem rowsR {a b : List (List D)} (h : a = b) : (ret (c1 (.rows [.str] a))) = some ⟨c1 (.rows [.str] b), []⟩ := by rw [h]
theorem rlines_loop (l : List UInt8) (hl : l.length ≤ 1000000000) : ∀ (k a i : Nat) (rs : List (List UInt8)) (nl : Bool), a ≤ i → i ≤ l.length → rs.length ≤ i → l.length - i < k →
    rlines_f.H rlines_e [] k 0 [.r (rs.map fun l => [.s (tx l)]), .b nl, .s (tx l), .i a, .i i] = some ⟨c1 (.rows [.str] ((rs ++ linesA ((l.drop a).take (i - a)) (l.drop i)).map fun l => [.s (tx l)])), []⟩ := by
  intro k
  induction k with
  | zero => intro a i rs nl _ _ _ h; omega
  | succ k ih =>
    intro a i rs nl ha hi hrs hk
    rw [FnD.H_succ, rlines_l0]
    dsimp only
    have hroom : roomB ((rs.map fun l => [D.s (tx l)]).length + 1) 16 = true := by
      unfold roomB; rw [List.length_map, Bool.and_eq_true, decide_eq_true_eq, decide_eq_true_eq]; omega
    have w1 : i < l.length → IntKind.i64.wrap ((i : Int) + 1) = ((i + 1 : Nat) : Int) := fun h => by rw [IntWalk.i64_in _ (by omega)]; omega
    simp only [tx_size, Int.toNat_natCast, tx_extract, bytes_get]
    by_cases h : i < l.length
    · have hd : l.drop i = l.getD i 0 :: l.drop (i + 1) := by
        rw [List.drop_eq_getElem_cons h, List.getD_eq_getElem?_getD, List.getElem?_eq_getElem h]; rfl
      have e10 : ((l.getD i 0).toNat : Int) = 10 ↔ l.getD i 0 = 10 := byte_eq _ 10 (by omega)
      rw [w1 h, hd, linesA]
      refine condT (by omega) (condB ((inB_iff _ _).2 (by omega)) ?_)
      by_cases hc : l.getD i 0 = 10
      · rw [if_pos hc]
        refine condT (e10.2 hc) (condB (by unfold slB; simp; omega) ?_)
        rw [push_rows hroom, List.take_length]
        have key := ih (i + 1) (i + 1) (rs ++ [(l.drop a).take (i - a)]) (nlAfter nl 1) (by omega) (by omega) (by rw [List.length_append, List.length_singleton]; omega) (by omega)
        rw [List.map_append, Nat.sub_self, List.take_zero, List.append_assoc] at key
        exact key
      · rw [if_neg hc]
        refine condF (fun e => hc (e10.1 e)) (condB (by simp) ?_)
        have e : (l.drop a).take (i + 1 - a) = (l.drop a).take (i - a) ++ [l.getD i 0] := by
          rw [show i + 1 - a = (i - a) + 1 by omega, List.take_succ_eq_append_getElem (by rw [List.length_drop]; omega), List.getElem_drop, List.getD_eq_getElem?_getD]
          simp only [show a + (i - a) = i by omega, List.getElem?_eq_getElem h]; rfl
        have key := ih a (i + 1) rs nl (by omega) (by omega) (by omega) (by omega)
        rw [e] at key
        exact key
    · have hil : i = l.length := by omega
      have hd : l.drop i = [] := by rw [hil, List.drop_length]
      rw [hd, linesA]
      refine condF (by omega) ?_
      by_cases h2 : a < l.length
      · have hne : (l.drop a).take (i - a) ≠ [] := by
          intro e
          have := congrArg List.length e
          rw [List.length_take, List.length_drop, List.length_nil] at this; omega
        rw [if_neg hne]
        refine condT (by omega) (condB (by unfold slB; simp; omega) (condB (by rw [hroom]; simp) (condB (by simp) (rowsR ?_))))
        rw [List.take_length, hil, List.map_append, List.take_of_length_le (by rw [List.length_append, List.length_singleton]; omega)]; rfl
      · have he : (l.drop a).take (i - a) = [] := by rw [show i - a = 0 by omega, List.take_zero]
        rw [if_pos he]
        refine condF (by omega) (condB (by simp) (rowsR ?_))
        rw [List.take_length, List.append_nil]
theorem rlines_run (s : ByteArray) (hp : s.size ≤ 1000000000) : ∃ fu, rlines_f.run rlines_e [] fu [vS s] [] = some ⟨c1 (.rows [.str] ((linesP s.data.toList).map fun l => [.s (tx l)])), []⟩ := by
  obtain ⟨l, rfl, hl⟩ := tx_get s
  rw [tx_toList]
  rw [tx_size] at hp
  refine ⟨l.length + 1, ?_⟩
  rw [FnD.run, rlines_ent]
  exact rlines_loop l hp (l.length + 1) 0 0 [] true (by omega) (by omega) (by simp) (by omega)
theorem rlines_ok (s : ByteArray) (hp : s.size ≤ 1000000000) : FnOk cfg 33 ([vS s].map SV.den) (c1 (.rows [.str] ((linesP s.data.toList).map fun l => [.s (tx l)])) : SV).den := by
  obtain ⟨nn, h⟩ := rlines_run s hp
  exact FnD.ok rlines_g rlines_f mixed Tryz.func33 rfl rfl rfl rfl rfl rfl h
noncomputable def c_rlines : SpecF := fun args _ K => match args with
  | [.one (.c (.str s))] => bif decide (s.size ≤ 1000000000) then K (c1 (.rows [.str] ((linesP s.data.toList).map fun l => [.s (tx l)]))) [] else none
  | _ => none
theorem c_rlines_ok : SpecOk cfg 33 c_rlines := by
  intro args bx K out h
  unfold c_rlines at h
  split at h
  · obtain ⟨hp, h⟩ := bif_some h
    exact ⟨_, _, h, .inl (rlines_ok _ (of_decide_eq_true hp) _), by simp [isTupS]⟩
  · cases h
end Go.Proofs.YtldofkogmkfpjaaGreatDoor
