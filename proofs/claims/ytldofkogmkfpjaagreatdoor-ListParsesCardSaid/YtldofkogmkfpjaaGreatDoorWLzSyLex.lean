/-
  The contracts of layer 10 (lex).
-/
import Derived.Test.YtldofkogmkfpjaaGreatDoorWLzSyLexShelf
namespace Go.Proofs.YtldofkogmkfpjaaGreatDoor
open Go Go.Ev Go.Sy
set_option linter.unusedSimpArgs false
set_option linter.unusedVariables false
set_option maxRecDepth 10000
set_option maxHeartbeats 4000000

theorem dig_cond (c : UInt8) : (decide ((48 : Int) ≤ (c.toNat : Int)) && decide ((c.toNat : Int) ≤ 57)) = isDig c := by
  unfold isDig
  rw [Bool.eq_iff_iff]; simp; omega
theorem hex_cond (c : UInt8) : (decide ((48 : Int) ≤ (c.toNat : Int)) && decide ((c.toNat : Int) ≤ 57) || decide ((97 : Int) ≤ (c.toNat : Int)) && decide ((c.toNat : Int) ≤ 102)) = isHex c := by
  unfold isHex isDig
  rw [Bool.eq_iff_iff]; simp; omega
theorem take_end (l : List UInt8) (p : UInt8 → Bool) (i : Nat) (hi : i = (l.takeWhile p).length) : (bif slB 0 (i : Int) l.length then bif slB (i : Int) (l.length : Nat) l.length then (some ⟨vS ((tx l).extract 0 i), [⟨.sg [.c (.str ((tx l).extract i l.length))], 0, false⟩]⟩ : Option Out) else none else none) = some ⟨vS (tx (l.takeWhile p)), [⟨.sg [.c (.str (tx (l.dropWhile p)))], 0, false⟩]⟩ := by
  have hl := tw_len p l
  subst hi
  refine condB (by unfold slB; simp; omega) (condB (by unfold slB; simp; omega) ?_)
  rw [tx_extract, tx_extract, List.drop_zero, Nat.sub_zero, tw_take, tw_drop]
  have : (l.dropWhile p).length ≤ l.length - (l.takeWhile p).length := by have := tw_dw p l; omega
  rw [List.take_of_length_le this]
theorem retV {v w : SV} (h : v = w) : (ret v) = some ⟨w, []⟩ := by rw [h]
/-! ### (*lex.reader).number$1 -/
noncomputable def tkd_e : Ev' := ⟨Tryz.prog, glob, Γof []⟩
theorem tkd_g : Gd cfg tkd_e := gd (env_nil _)
noncomputable def tkd_f : FnD := ⟨230, Tryz.f230, noSh, Tryz.f230.resultTypes.toList, 0⟩
theorem tkd_ent (h : Hd) (c : Int) : tkd_f.ent tkd_e [] h [c1 (.int .u8 c)] [] = bif decide ((48 : Int) ≤ c) then ret (vB (decide (c ≤ (57 : Int)))) else ret (vB false) := by kernel_rfl
theorem tkd_run (c : Int) : ∃ fu, tkd_f.run tkd_e [] fu [c1 (.int .u8 c)] [] = some ⟨vB (decide (48 ≤ c) && decide (c ≤ 57)), []⟩ := by
  refine ⟨0, ?_⟩
  rw [FnD.run, tkd_ent]
  by_cases h : 48 ≤ c
  · exact condT h (retV (by rw [decide_eq_true h]; rfl))
  · exact condF h (retV (by rw [decide_eq_false h]; rfl))
theorem tkd_ok (c : Int) : FnOk cfg 230 ([c1 (.int .u8 c)].map SV.den) (vB (decide (48 ≤ c) && decide (c ≤ 57)) : SV).den := by
  obtain ⟨nn, h⟩ := tkd_run c
  exact FnD.ok tkd_g tkd_f mixed Tryz.func230 rfl rfl rfl rfl rfl rfl h
noncomputable def c_tkd : SpecF := fun args _ K => match args with
  | [.one (.c (.int .u8 c))] => K (vB (decide (48 ≤ c) && decide (c ≤ 57))) []
  | _ => none
theorem c_tkd_ok : SpecOk cfg 230 c_tkd := by
  intro args bx K out h
  unfold c_tkd at h
  split at h
  · exact ⟨_, _, h, .inl (tkd_ok _ _), by simp [isTupS]⟩
  · cases h
/-! ### (*lex.reader).word$1 -/
noncomputable def tkh_e : Ev' := ⟨Tryz.prog, glob, Γof []⟩
theorem tkh_g : Gd cfg tkh_e := gd (env_nil _)
noncomputable def tkh_f : FnD := ⟨231, Tryz.f231, noSh, Tryz.f231.resultTypes.toList, 0⟩
theorem tkh_ent (h : Hd) (c : Int) : tkh_f.ent tkh_e [] h [c1 (.int .u8 c)] [] = bif decide ((48 : Int) ≤ c) then bif decide (c ≤ (57 : Int)) then ret (vB true) else bif decide ((97 : Int) ≤ c) then ret (vB (decide (c ≤ (102 : Int)))) else ret (vB false) else bif decide ((97 : Int) ≤ c) then ret (vB (decide (c ≤ (102 : Int)))) else ret (vB false) := by kernel_rfl
theorem tkh_run (c : Int) : ∃ fu, tkh_f.run tkh_e [] fu [c1 (.int .u8 c)] [] = some ⟨vB (decide (48 ≤ c) && decide (c ≤ 57) || decide (97 ≤ c) && decide (c ≤ 102)), []⟩ := by
  refine ⟨0, ?_⟩
  rw [FnD.run, tkh_ent]
  by_cases h : 48 ≤ c <;> by_cases h2 : c ≤ 57 <;> by_cases h3 : 97 ≤ c <;> simp only [h, h2, h3, decide_true, decide_false, cond_true, cond_false, Bool.true_and, Bool.false_and, Bool.true_or, Bool.false_or]
theorem tkh_ok (c : Int) : FnOk cfg 231 ([c1 (.int .u8 c)].map SV.den) (vB (decide (48 ≤ c) && decide (c ≤ 57) || decide (97 ≤ c) && decide (c ≤ 102)) : SV).den := by
  obtain ⟨nn, h⟩ := tkh_run c
  exact FnD.ok tkh_g tkh_f mixed Tryz.func231 rfl rfl rfl rfl rfl rfl h
noncomputable def c_tkh : SpecF := fun args _ K => match args with
  | [.one (.c (.int .u8 c))] => K (vB (decide (48 ≤ c) && decide (c ≤ 57) || decide (97 ≤ c) && decide (c ≤ 102))) []
  | _ => none
theorem c_tkh_ok : SpecOk cfg 231 c_tkh := by
  intro args bx K out h
  unfold c_tkh at h
  split at h
  · exact ⟨_, _, h, .inl (tkh_ok _ _), by simp [isTupS]⟩
  · cases h
/-! ### (*lex.reader).take -/
noncomputable def tk0_e : Ev' := ⟨Tryz.prog, glob, Γof [(230, c_tkd)]⟩
theorem tk0_g : Gd cfg tk0_e := gd (env_cons c_tkd_ok (env_nil _))
noncomputable def tk0_f : FnD := ⟨229, Tryz.f229, shOf [(0, ⟨42, [], [(42, [.c .str])], [(0, .c (.ptr 42 0)), (1, .c (.fn 230)), (5, .c (.int .i64))]⟩)], Tryz.f229.resultTypes.toList, 0⟩
theorem tk0_ent (h : Hd) (s : ByteArray) : tk0_f.ent tk0_e [42] h [c1 (.ptr 42 0), c1 (.clo 230 [] [])] [⟨.sg [.c (.str (s))], 0, false⟩] = h (0 : Nat) [Lf.s s, Lf.i (0 : Int)] := by kernel_rfl
theorem tk0_l0 (h : Hd) (s0 : ByteArray) (i1 : Int) : tk0_f.seg tk0_e [42] h 0 [.s s0, .i i1] = bif decide (i1 < (↑s0.size : Int)) then bif inB i1 s0.size then bif decide ((48 : Int) ≤ (bytesI s0).getD i1.toNat (0 : Int)) && decide ((bytesI s0).getD i1.toNat (0 : Int) ≤ (57 : Int)) then h (0 : Nat) [Lf.s s0, Lf.i (IntKind.i64.wrap (i1 + (1 : Int)))] else bif slB (0 : Int) i1 s0.size then bif slB i1 (↑s0.size : Int) s0.size then some { r := vS (s0.extract (0 : Nat) i1.toNat), bs := [{ ct := Ct.sg [Sg.c (Cl.str (s0.extract i1.toNat (↑s0.size : Int).toNat))], pub := (0 : Nat), nl := false }] } else none else none else none else bif slB (0 : Int) i1 s0.size then bif slB i1 (↑s0.size : Int) s0.size then some { r := vS (s0.extract (0 : Nat) i1.toNat), bs := [{ ct := Ct.sg [Sg.c (Cl.str (s0.extract i1.toNat (↑s0.size : Int).toNat))], pub := (0 : Nat), nl := false }] } else none else none := by kernel_rfl

theorem tk0_loop (l : List UInt8) (hl : l.length ≤ 9223372036854775807) : ∀ (k i : Nat), i ≤ (l.takeWhile isDig).length → (l.takeWhile isDig).length - i < k →
    tk0_f.H tk0_e [42] k 0 [.s (tx l), .i i] = some ⟨vS (tx (l.takeWhile isDig)), [⟨.sg [.c (.str (tx (l.dropWhile isDig)))], 0, false⟩]⟩ := by
  have hlen := tw_len isDig l
  intro k
  induction k with
  | zero => intro i _ h; omega
  | succ k ih =>
    intro i hi hk
    rw [FnD.H_succ, tk0_l0]
    simp only [bytes_get, tx_size, Int.toNat_natCast]
    by_cases h : i < l.length
    · refine condT (by omega) (condB ((inB_iff _ _).2 (by omega)) ?_)
      rw [dig_cond]
      cases hp : isDig (l.getD i 0) with
      | true =>
        have hlt : i < (l.takeWhile isDig).length := by
          rcases Nat.lt_or_ge i (l.takeWhile isDig).length with g | g
          · exact g
          · have e : i = (l.takeWhile isDig).length := by omega
            have := tw_end (p := isDig) (l := l) (by omega)
            rw [← e, hp] at this; cases this
        rw [show IntKind.i64.wrap ((i : Int) + 1) = ((i + 1 : Nat) : Int) by rw [IntWalk.i64_in _ (by omega)]; omega]
        exact ih (i + 1) (by omega) (by omega)
      | false =>
        have e : i = (l.takeWhile isDig).length := by
          rcases Nat.lt_or_ge i (l.takeWhile isDig).length with g | g
          · have := (tw_lt g).2; rw [hp] at this; cases this
          · omega
        exact take_end l isDig i e
    · exact condF (by omega) (take_end l isDig i (by omega))
theorem tk0_run (s : ByteArray) (hp : s.size ≤ 9223372036854775807) : ∃ fu, tk0_f.run tk0_e [42] fu [c1 (.ptr 42 0), c1 (.clo 230 [] [])] [⟨.sg [.c (.str (s))], 0, false⟩] = some ⟨vS (tx (s.data.toList.takeWhile isDig)), [⟨.sg [.c (.str (tx (s.data.toList.dropWhile isDig)))], 0, false⟩]⟩ := by
  obtain ⟨l, rfl, hl⟩ := tx_get s
  rw [tx_toList]
  refine ⟨l.length + 1, ?_⟩
  rw [FnD.run, tk0_ent]
  have hlen := tw_len isDig l
  exact tk0_loop l (by omega) (l.length + 1) 0 (by omega) (by omega)
theorem tk0_ok (s : ByteArray) (hp : s.size ≤ 9223372036854775807) (q : Nat) (pre : Nat → Option Box) (hpre : pre q = some (⟨.sg [.c (.str (s))], 0, false⟩ : SB).den) : FnOkB cfg 229 ([c1 (.ptr q 0), c1 (.clo 230 [] [])].map SV.den) pre (vS (tx (s.data.toList.takeWhile isDig)) : SV).den [(q, some (⟨.sg [.c (.str (tx (s.data.toList.dropWhile isDig)))], 0, false⟩ : SB).den)] := by
  obtain ⟨nn, h⟩ := tk0_run s hp
  exact FnD.ok1 tk0_g tk0_f mixed Tryz.func229 rfl rfl rfl rfl rfl rfl rfl rfl rfl h q pre hpre
noncomputable def c_tk0 : SpecF := fun args bx K => match args with
  | [.one (.c (.ptr q 0)), .one (.c (.clo 230 [] []))] => match bx q with
    | some ⟨.sg [.c (.str (s))], 0, false⟩ => bif decide (s.size ≤ 9223372036854775807) then K (vS (tx (s.data.toList.takeWhile isDig))) [(q, some ⟨.sg [.c (.str (tx (s.data.toList.dropWhile isDig)))], 0, false⟩)] else none
    | _ => none
  | _ => none
theorem c_tk0_ok : SpecOk cfg 229 c_tk0 := by
  intro args bx K out h
  unfold c_tk0 at h
  split at h
  · split at h
    · rename_i hb
      obtain ⟨hp, h⟩ := bif_some h
      exact ⟨_, _, h, .inl (tk0_ok _ (of_decide_eq_true hp) _ _ (by simp [denB, hb])), by simp [isTupS]⟩
    · cases h
  · cases h
/-! ### (*lex.reader).take -/
noncomputable def tk1_e : Ev' := ⟨Tryz.prog, glob, Γof [(231, c_tkh)]⟩
theorem tk1_g : Gd cfg tk1_e := gd (env_cons c_tkh_ok (env_nil _))
noncomputable def tk1_f : FnD := ⟨229, Tryz.f229, shOf [(0, ⟨42, [], [(42, [.c .str])], [(0, .c (.ptr 42 0)), (1, .c (.fn 231)), (5, .c (.int .i64))]⟩)], Tryz.f229.resultTypes.toList, 0⟩
theorem tk1_ent (h : Hd) (s : ByteArray) : tk1_f.ent tk1_e [42] h [c1 (.ptr 42 0), c1 (.clo 231 [] [])] [⟨.sg [.c (.str (s))], 0, false⟩] = h (0 : Nat) [Lf.s s, Lf.i (0 : Int)] := by kernel_rfl
theorem tk1_l0 (h : Hd) (s0 : ByteArray) (i1 : Int) : tk1_f.seg tk1_e [42] h 0 [.s s0, .i i1] = bif decide (i1 < (↑s0.size : Int)) then bif inB i1 s0.size then bif decide ((48 : Int) ≤ (bytesI s0).getD i1.toNat (0 : Int)) && decide ((bytesI s0).getD i1.toNat (0 : Int) ≤ (57 : Int)) || decide ((97 : Int) ≤ (bytesI s0).getD i1.toNat (0 : Int)) && decide ((bytesI s0).getD i1.toNat (0 : Int) ≤ (102 : Int)) then h (0 : Nat) [Lf.s s0, Lf.i (IntKind.i64.wrap (i1 + (1 : Int)))] else bif slB (0 : Int) i1 s0.size then bif slB i1 (↑s0.size : Int) s0.size then some { r := vS (s0.extract (0 : Nat) i1.toNat), bs := [{ ct := Ct.sg [Sg.c (Cl.str (s0.extract i1.toNat (↑s0.size : Int).toNat))], pub := (0 : Nat), nl := false }] } else none else none else none else bif slB (0 : Int) i1 s0.size then bif slB i1 (↑s0.size : Int) s0.size then some { r := vS (s0.extract (0 : Nat) i1.toNat), bs := [{ ct := Ct.sg [Sg.c (Cl.str (s0.extract i1.toNat (↑s0.size : Int).toNat))], pub := (0 : Nat), nl := false }] } else none else none := by kernel_rfl

theorem tk1_loop (l : List UInt8) (hl : l.length ≤ 9223372036854775807) : ∀ (k i : Nat), i ≤ (l.takeWhile isHex).length → (l.takeWhile isHex).length - i < k →
    tk1_f.H tk1_e [42] k 0 [.s (tx l), .i i] = some ⟨vS (tx (l.takeWhile isHex)), [⟨.sg [.c (.str (tx (l.dropWhile isHex)))], 0, false⟩]⟩ := by
  have hlen := tw_len isHex l
  intro k
  induction k with
  | zero => intro i _ h; omega
  | succ k ih =>
    intro i hi hk
    rw [FnD.H_succ, tk1_l0]
    simp only [bytes_get, tx_size, Int.toNat_natCast]
    by_cases h : i < l.length
    · refine condT (by omega) (condB ((inB_iff _ _).2 (by omega)) ?_)
      rw [hex_cond]
      cases hp : isHex (l.getD i 0) with
      | true =>
        have hlt : i < (l.takeWhile isHex).length := by
          rcases Nat.lt_or_ge i (l.takeWhile isHex).length with g | g
          · exact g
          · have e : i = (l.takeWhile isHex).length := by omega
            have := tw_end (p := isHex) (l := l) (by omega)
            rw [← e, hp] at this; cases this
        rw [show IntKind.i64.wrap ((i : Int) + 1) = ((i + 1 : Nat) : Int) by rw [IntWalk.i64_in _ (by omega)]; omega]
        exact ih (i + 1) (by omega) (by omega)
      | false =>
        have e : i = (l.takeWhile isHex).length := by
          rcases Nat.lt_or_ge i (l.takeWhile isHex).length with g | g
          · have := (tw_lt g).2; rw [hp] at this; cases this
          · omega
        exact take_end l isHex i e
    · exact condF (by omega) (take_end l isHex i (by omega))
theorem tk1_run (s : ByteArray) (hp : s.size ≤ 9223372036854775807) : ∃ fu, tk1_f.run tk1_e [42] fu [c1 (.ptr 42 0), c1 (.clo 231 [] [])] [⟨.sg [.c (.str (s))], 0, false⟩] = some ⟨vS (tx (s.data.toList.takeWhile isHex)), [⟨.sg [.c (.str (tx (s.data.toList.dropWhile isHex)))], 0, false⟩]⟩ := by
  obtain ⟨l, rfl, hl⟩ := tx_get s
  rw [tx_toList]
  refine ⟨l.length + 1, ?_⟩
  rw [FnD.run, tk1_ent]
  have hlen := tw_len isHex l
  exact tk1_loop l (by omega) (l.length + 1) 0 (by omega) (by omega)
theorem tk1_ok (s : ByteArray) (hp : s.size ≤ 9223372036854775807) (q : Nat) (pre : Nat → Option Box) (hpre : pre q = some (⟨.sg [.c (.str (s))], 0, false⟩ : SB).den) : FnOkB cfg 229 ([c1 (.ptr q 0), c1 (.clo 231 [] [])].map SV.den) pre (vS (tx (s.data.toList.takeWhile isHex)) : SV).den [(q, some (⟨.sg [.c (.str (tx (s.data.toList.dropWhile isHex)))], 0, false⟩ : SB).den)] := by
  obtain ⟨nn, h⟩ := tk1_run s hp
  exact FnD.ok1 tk1_g tk1_f mixed Tryz.func229 rfl rfl rfl rfl rfl rfl rfl rfl rfl h q pre hpre
noncomputable def c_tk1 : SpecF := fun args bx K => match args with
  | [.one (.c (.ptr q 0)), .one (.c (.clo 231 [] []))] => match bx q with
    | some ⟨.sg [.c (.str (s))], 0, false⟩ => bif decide (s.size ≤ 9223372036854775807) then K (vS (tx (s.data.toList.takeWhile isHex))) [(q, some ⟨.sg [.c (.str (tx (s.data.toList.dropWhile isHex)))], 0, false⟩)] else none
    | _ => none
  | _ => none
theorem c_tk1_ok : SpecOk cfg 229 c_tk1 := by
  intro args bx K out h
  unfold c_tk1 at h
  split at h
  · split at h
    · rename_i hb
      obtain ⟨hp, h⟩ := bif_some h
      exact ⟨_, _, h, .inl (tk1_ok _ (of_decide_eq_true hp) _ _ (by simp [denB, hb])), by simp [isTupS]⟩
    · cases h
  · cases h
noncomputable def c_take : SpecF := fun args bx K => match args with
  | [_, .one (.c (.clo k _ _))] => bif Nat.beq k 230 then c_tk0 args bx K else c_tk1 args bx K
  | _ => none
theorem c_take_ok : SpecOk cfg 229 c_take := by
  intro args bx K out h
  unfold c_take at h
  split at h
  · rcases bif_or h with ⟨_, h⟩ | ⟨_, h⟩
    · exact c_tk0_ok _ _ _ _ h
    · exact c_tk1_ok _ _ _ _ h
  · cases h
/-! ### (*lex.reader).skip -/
noncomputable def skp_e : Ev' := ⟨Tryz.prog, glob, Γof [(149, c_triml)]⟩
theorem skp_g : Gd cfg skp_e := gd (env_cons c_triml_ok (env_nil _))
noncomputable def skp_f : FnD := ⟨200, Tryz.f200, noSh, Tryz.f200.resultTypes.toList, 0⟩
theorem skp_ent (h : Hd) (s : ByteArray) : skp_f.ent skp_e [23] h [c1 (.ptr 23 0)] [⟨.sg [.c (.str (s))], 0, false⟩] = let v1 : ByteArray := tx (Lib.trimLeftS s.data.toList (tx [(32 : UInt8), (9 : UInt8)]).data.toList); let v2 : Nat := v1.size; some { r := vB (decide ((↑v2 : Int) < (↑s.size : Int))), bs := [{ ct := Ct.sg [Sg.c (Cl.str v1)], pub := (0 : Nat), nl := false }] } := by kernel_rfl

theorem triml_bl (l : List UInt8) : Lib.trimLeftS l [32, 9] = l.dropWhile isBl := by
  unfold Lib.trimLeftS
  congr 1
  funext c
  simp [isBl, List.contains_cons, Bool.beq_eq_decide_eq]
theorem skp_run (s : ByteArray) : ∃ fu, skp_f.run skp_e [23] fu [c1 (.ptr 23 0)] [⟨.sg [.c (.str (s))], 0, false⟩] = some ⟨vB (decide ((s.data.toList.dropWhile isBl).length < s.size)), [⟨.sg [.c (.str (tx (s.data.toList.dropWhile isBl)))], 0, false⟩]⟩ := by
  refine ⟨0, ?_⟩
  rw [FnD.run, skp_ent]
  dsimp only
  rw [show (tx [(32 : UInt8), (9 : UInt8)]).data.toList = [32, 9] from rfl, triml_bl, tx_size]
  simp
theorem skp_ok (s : ByteArray) (q : Nat) (pre : Nat → Option Box) (hpre : pre q = some (⟨.sg [.c (.str (s))], 0, false⟩ : SB).den) : FnOkB cfg 200 ([c1 (.ptr q 0)].map SV.den) pre (vB (decide ((s.data.toList.dropWhile isBl).length < s.size)) : SV).den [(q, some (⟨.sg [.c (.str (tx (s.data.toList.dropWhile isBl)))], 0, false⟩ : SB).den)] := by
  obtain ⟨nn, h⟩ := skp_run s
  exact FnD.ok1 skp_g skp_f mixed Tryz.func200 rfl rfl rfl rfl rfl rfl rfl rfl rfl h q pre hpre
noncomputable def c_skp : SpecF := fun args bx K => match args with
  | [.one (.c (.ptr q 0))] => match bx q with
    | some ⟨.sg [.c (.str (s))], 0, false⟩ => K (vB (decide ((s.data.toList.dropWhile isBl).length < s.size))) [(q, some ⟨.sg [.c (.str (tx (s.data.toList.dropWhile isBl)))], 0, false⟩)]
    | _ => none
  | _ => none
theorem c_skp_ok : SpecOk cfg 200 c_skp := by
  intro args bx K out h
  unfold c_skp at h
  split at h
  · split at h
    · rename_i hb
      exact ⟨_, _, h, .inl (skp_ok _ _ _ (by simp [denB, hb])), by simp [isTupS]⟩
    · cases h
  · cases h

theorem decFrom_dig : ∀ (l : List UInt8) (acc : Nat), l.all isDig = true → ∃ n : Nat, Lib.decFrom acc l = some n ∧ (n : Int) = l.foldl (fun s c => s * 10 + dig c) (acc : Int)
  | [], acc, _ => ⟨acc, rfl, rfl⟩
  | c :: l, acc, h => by
    rw [List.all_cons, Bool.and_eq_true] at h
    have hd := h.1
    unfold isDig at hd
    simp only [Bool.and_eq_true, decide_eq_true_eq] at hd
    obtain ⟨n, h1, h2⟩ := decFrom_dig l (acc * 10 + (c.toNat - 48)) h.2
    refine ⟨n, ?_, ?_⟩
    · rw [Lib.decFrom, show Lib.digitVal c = some (c.toNat - 48) by unfold Lib.digitVal; rw [if_pos hd]]
      exact h1
    · rw [h2, List.foldl_cons]
      congr 1
      unfold dig
      omega
theorem atoi_dig {w : List UInt8} (h : w.all isDig = true) (hne : w ≠ []) : Lib.atoi w = some (dval w) := by
  obtain ⟨n, h1, h2⟩ := decFrom_dig w 0 h
  cases w with
  | nil => exact absurd rfl hne
  | cons c l =>
    have hc : isDig c = true := by rw [List.all_cons, Bool.and_eq_true] at h; exact h.1
    have h45 : (c == 45) = false := by
      rw [beq_eq_false_iff_ne]; rintro rfl; revert hc; decide
    have h43 : (c == 43) = false := by
      rw [beq_eq_false_iff_ne]; rintro rfl; revert hc; decide
    simp only [Lib.atoi, h45, h43, Bool.false_eq_true, if_false]
    have : Lib.decNat (c :: l) = some n := h1
    rw [this]
    show some (n : Int) = _
    rw [h2]; rfl
theorem dw_len (p : UInt8 → Bool) (l : List UInt8) : (l.dropWhile p).length ≤ l.length := by have := tw_dw p l; omega
theorem byte_eq (c : UInt8) (n : Nat) (hn : n < 256) : ((c.toNat : Nat) : Int) = n ↔ c = UInt8.ofNat n := by
  rw [← UInt8.toNat_inj, UInt8.toNat_ofNat']
  omega
theorem outE {v w : SV} {b : List SB} (h : v = w) : (some ⟨v, b⟩ : Option Out) = some ⟨w, b⟩ := by rw [h]
/-! ### (*lex.reader).number -/
noncomputable def lnum_e : Ev' := ⟨Tryz.prog, glob, Γof [(229, c_take), (151, c_atoi)]⟩
theorem lnum_g : Gd cfg lnum_e := gd (env_cons c_take_ok (env_cons c_atoi_ok (env_nil _)))
noncomputable def lnum_f : FnD := ⟨201, Tryz.f201, noSh, Tryz.f201.resultTypes.toList, 0⟩
theorem lnum_ent (h : Hd) (s : ByteArray) : lnum_f.ent lnum_e [31] h [c1 (.ptr 31 0)] [⟨.sg [.c (.str (s))], 0, false⟩] = bif decide (s.size ≤ (9223372036854775807 : Nat)) then bif eqB (tx (List.takeWhile isDig s.data.toList)) (tx []) then some { r := SV.tup [tI (0 : Int), S1.c (Cl.bool false)], bs := [{ ct := Ct.sg [Sg.c (Cl.str (tx (List.dropWhile isDig s.data.toList)))], pub := (0 : Nat), nl := false }] } else bif decide ((18 : Int) < (↑(tx (List.takeWhile isDig s.data.toList)).size : Int)) then some { r := SV.tup [tI (0 : Int), S1.c (Cl.bool false)], bs := [{ ct := Ct.sg [Sg.c (Cl.str (tx (List.dropWhile isDig s.data.toList)))], pub := (0 : Nat), nl := false }] } else bif inB (0 : Int) (tx (List.takeWhile isDig s.data.toList)).size then bif decide ((bytesI (tx (List.takeWhile isDig s.data.toList))).getD (0 : Nat) (0 : Int) = (48 : Int)) then bif !eqB (tx (List.takeWhile isDig s.data.toList)) (tx [(48 : UInt8)]) then some { r := SV.tup [tI (0 : Int), S1.c (Cl.bool false)], bs := [{ ct := Ct.sg [Sg.c (Cl.str (tx (List.dropWhile isDig s.data.toList)))], pub := (0 : Nat), nl := false }] } else bif decide ((tx (List.takeWhile isDig s.data.toList)).size ≤ (18 : Nat) ∧ (Lib.atoi (tx (List.takeWhile isDig s.data.toList)).data.toList).isSome = true) then some { r := SV.tup [tI ((Lib.atoi (tx (List.takeWhile isDig s.data.toList)).data.toList).getD (0 : Int)), S1.c (Cl.bool true)], bs := [{ ct := Ct.sg [Sg.c (Cl.str (tx (List.dropWhile isDig s.data.toList)))], pub := (0 : Nat), nl := false }] } else none else bif decide ((tx (List.takeWhile isDig s.data.toList)).size ≤ (18 : Nat) ∧ (Lib.atoi (tx (List.takeWhile isDig s.data.toList)).data.toList).isSome = true) then some { r := SV.tup [tI ((Lib.atoi (tx (List.takeWhile isDig s.data.toList)).data.toList).getD (0 : Int)), S1.c (Cl.bool true)], bs := [{ ct := Ct.sg [Sg.c (Cl.str (tx (List.dropWhile isDig s.data.toList)))], pub := (0 : Nat), nl := false }] } else none else none else none := by kernel_rfl
theorem lnum_run (s : ByteArray) (hp : s.size ≤ 9223372036854775807) : ∃ fu, lnum_f.run lnum_e [31] fu [c1 (.ptr 31 0)] [⟨.sg [.c (.str (s))], 0, false⟩] = some ⟨.tup [tI (if okN (s.data.toList.takeWhile isDig) then dval (s.data.toList.takeWhile isDig) else 0), tB (okN (s.data.toList.takeWhile isDig))], [⟨.sg [.c (.str (tx (s.data.toList.dropWhile isDig)))], 0, false⟩]⟩ := by
  refine ⟨0, ?_⟩
  rw [FnD.run, lnum_ent]
  obtain ⟨l, rfl, hl⟩ := tx_get s
  simp only [tx_toList, eqB_tx, bytes_get, tx_size] at *
  have hall := tw_all isDig l
  generalize hw : l.takeWhile isDig = w at *
  refine condT hp ?_
  have no : okN w = false → (some ⟨.tup [tI 0, .c (.bool false)], [⟨.sg [.c (.str (tx (l.dropWhile isDig)))], 0, false⟩]⟩ : Option Out) = some ⟨.tup [tI (if okN w then dval w else 0), tB (okN w)], [⟨.sg [.c (.str (tx (l.dropWhile isDig)))], 0, false⟩]⟩ := fun h => by rw [h]; rfl
  have yes : okN w = true → (bif decide (w.length ≤ 18 ∧ (Lib.atoi w).isSome = true) then (some ⟨.tup [tI ((Lib.atoi w).getD 0), .c (.bool true)], [⟨.sg [.c (.str (tx (l.dropWhile isDig)))], 0, false⟩]⟩ : Option Out) else none) = some ⟨.tup [tI (if okN w then dval w else 0), tB (okN w)], [⟨.sg [.c (.str (tx (l.dropWhile isDig)))], 0, false⟩]⟩ := fun h => by
    have h' := h
    unfold okN at h'
    simp only [Bool.and_eq_true, Bool.not_eq_true', decide_eq_false_iff_not, decide_eq_true_eq] at h'
    have e := atoi_dig hall h'.1.1
    rw [e, h]
    exact condT ⟨h'.1.2, rfl⟩ rfl
  unfold okN at no yes
  by_cases h1 : w = []
  · exact condT h1 (no (by rw [decide_eq_true h1]; rfl))
  refine condF h1 ?_
  by_cases h2 : w.length ≤ 18
  · have hlen : w.length ≠ 0 := fun e => h1 (List.length_eq_zero_iff.1 e)
    refine condF (by omega) (condB ((inB_iff _ _).2 (by omega)) ?_)
    by_cases h3 : w.getD 0 0 = 48
    · refine condT (by rw [h3]; rfl) ?_
      by_cases h4 : w = [48]
      · exact condN (by rw [decide_eq_true h4]; rfl) (yes (by rw [decide_eq_false h1, decide_eq_true h2, h4]; rfl))
      · have h5 : w.length ≠ 1 := fun e => h4 (by
          obtain ⟨c, rfl⟩ := List.length_eq_one_iff.1 e
          simpa using h3)
        exact condB (by rw [decide_eq_false h4]; rfl) (no (by rw [decide_eq_true h3, decide_eq_false h5]; simp))
    · exact condF (fun e => h3 ((byte_eq _ 48 (by omega)).1 e)) (yes (by rw [decide_eq_false h1, decide_eq_true h2, decide_eq_false h3]; rfl))
  · exact condT (by omega) (no (by rw [decide_eq_false h2]; simp))
theorem lnum_ok (s : ByteArray) (hp : s.size ≤ 9223372036854775807) (q : Nat) (pre : Nat → Option Box) (hpre : pre q = some (⟨.sg [.c (.str (s))], 0, false⟩ : SB).den) : FnOkB cfg 201 ([c1 (.ptr q 0)].map SV.den) pre (.tup [tI (if okN (s.data.toList.takeWhile isDig) then dval (s.data.toList.takeWhile isDig) else 0), tB (okN (s.data.toList.takeWhile isDig))] : SV).den [(q, some (⟨.sg [.c (.str (tx (s.data.toList.dropWhile isDig)))], 0, false⟩ : SB).den)] := by
  obtain ⟨nn, h⟩ := lnum_run s hp
  exact FnD.ok1 lnum_g lnum_f mixed Tryz.func201 rfl rfl rfl rfl rfl rfl rfl rfl rfl h q pre hpre
noncomputable def c_lnum : SpecF := fun args bx K => match args with
  | [.one (.c (.ptr q 0))] => match bx q with
    | some ⟨.sg [.c (.str (s))], 0, false⟩ => bif decide (s.size ≤ 9223372036854775807) then K (.tup [tI (if okN (s.data.toList.takeWhile isDig) then dval (s.data.toList.takeWhile isDig) else 0), tB (okN (s.data.toList.takeWhile isDig))]) [(q, some ⟨.sg [.c (.str (tx (s.data.toList.dropWhile isDig)))], 0, false⟩)] else none
    | _ => none
  | _ => none
theorem c_lnum_ok : SpecOk cfg 201 c_lnum := by
  intro args bx K out h
  unfold c_lnum at h
  split at h
  · split at h
    · rename_i hb
      obtain ⟨hp, h⟩ := bif_some h
      exact ⟨_, _, h, .inl (lnum_ok _ (of_decide_eq_true hp) _ _ (by simp [denB, hb])), by simp [isTupS]⟩
    · cases h
  · cases h
/-! ### (*lex.reader).end -/
noncomputable def lend_e : Ev' := ⟨Tryz.prog, glob, Γof [(200, c_skp)]⟩
theorem lend_g : Gd cfg lend_e := gd (env_cons c_skp_ok (env_nil _))
noncomputable def lend_f : FnD := ⟨160, Tryz.f160, noSh, Tryz.f160.resultTypes.toList, 0⟩
theorem lend_ent (h : Hd) (s : ByteArray) : lend_f.ent lend_e [10] h [c1 (.ptr 10 0)] [⟨.sg [.c (.str (s))], 0, false⟩] = some { r := vB (eqB (tx (List.dropWhile isBl s.data.toList)) (tx [])), bs := [{ ct := Ct.sg [Sg.c (Cl.str (tx (List.dropWhile isBl s.data.toList)))], pub := (0 : Nat), nl := false }] } := by kernel_rfl
theorem lend_run (s : ByteArray) : ∃ fu, lend_f.run lend_e [10] fu [c1 (.ptr 10 0)] [⟨.sg [.c (.str (s))], 0, false⟩] = some ⟨vB (s.data.toList.all isBl), [⟨.sg [.c (.str (tx (s.data.toList.dropWhile isBl)))], 0, false⟩]⟩ := by
  refine ⟨0, ?_⟩
  rw [FnD.run, lend_ent]
  rw [eqB_tx]
  refine outE ?_
  have : decide (s.data.toList.dropWhile isBl = []) = s.data.toList.all isBl := by rw [Bool.eq_iff_iff, decide_eq_true_eq, dw_nil]
  rw [this]
theorem lend_ok (s : ByteArray) (q : Nat) (pre : Nat → Option Box) (hpre : pre q = some (⟨.sg [.c (.str (s))], 0, false⟩ : SB).den) : FnOkB cfg 160 ([c1 (.ptr q 0)].map SV.den) pre (vB (s.data.toList.all isBl) : SV).den [(q, some (⟨.sg [.c (.str (tx (s.data.toList.dropWhile isBl)))], 0, false⟩ : SB).den)] := by
  obtain ⟨nn, h⟩ := lend_run s
  exact FnD.ok1 lend_g lend_f mixed Tryz.func160 rfl rfl rfl rfl rfl rfl rfl rfl rfl h q pre hpre
noncomputable def c_lend : SpecF := fun args bx K => match args with
  | [.one (.c (.ptr q 0))] => match bx q with
    | some ⟨.sg [.c (.str (s))], 0, false⟩ => K (vB (s.data.toList.all isBl)) [(q, some ⟨.sg [.c (.str (tx (s.data.toList.dropWhile isBl)))], 0, false⟩)]
    | _ => none
  | _ => none
theorem c_lend_ok : SpecOk cfg 160 c_lend := by
  intro args bx K out h
  unfold c_lend at h
  split at h
  · split at h
    · rename_i hb
      exact ⟨_, _, h, .inl (lend_ok _ _ _ (by simp [denB, hb])), by simp [isTupS]⟩
    · cases h
  · cases h

theorem lnNo {o : Option LnV} {b : List SB} (h : o = none) : (some ⟨.tup [.agg [gI 0, gI 0, gI 0, .arr .u32 5 [0, 0, 0, 0, 0]], .c (.bool false)], b⟩ : Option Out) = some ⟨.tup [.agg [gI ((o.getD ln0)).k, gI ((o.getD ln0)).a, gI ((o.getD ln0)).b, .arr .u32 5 ((o.getD ln0)).w], tB o.isSome], b⟩ := by rw [h]; rfl
theorem lnYes {o : Option LnV} {v : LnV} {k a c : Int} {w : List Int} {b : List SB} (h : o = some v) (h1 : k = v.k) (h2 : a = v.a) (h3 : c = v.b) (h4 : w = v.w) : (some ⟨.tup [.agg [gI k, gI a, gI c, .arr .u32 5 w], .c (.bool true)], b⟩ : Option Out) = some ⟨.tup [.agg [gI ((o.getD ln0)).k, gI ((o.getD ln0)).a, gI ((o.getD ln0)).b, .arr .u32 5 ((o.getD ln0)).w], tB o.isSome], b⟩ := by rw [h, h1, h2, h3, h4]; rfl
/-! ### (*lex.reader).one -/
noncomputable def lone_e : Ev' := ⟨Tryz.prog, glob, Γof [(200, c_skp), (201, c_lnum), (160, c_lend)]⟩
theorem lone_g : Gd cfg lone_e := gd (env_cons c_skp_ok (env_cons c_lnum_ok (env_cons c_lend_ok (env_nil _))))
noncomputable def lone_f : FnD := ⟨158, Tryz.f158, noSh, Tryz.f158.resultTypes.toList, 0⟩
theorem lone_ent (h : Hd) (s : ByteArray) (k : Int) : lone_f.ent lone_e [31] h [c1 (.ptr 31 0), vI k] [⟨.sg [.c (.str (s))], 0, false⟩] = bif decide ((tx (List.dropWhile isBl s.data.toList)).size ≤ (9223372036854775807 : Nat)) then bif !decide ((List.dropWhile isBl s.data.toList).length < s.size) then some { r := SV.tup [S1.agg [gI (0 : Int), gI (0 : Int), gI (0 : Int), Sg.arr IntKind.u32 (5 : Nat) [(0 : Int), (0 : Int), (0 : Int), (0 : Int), (0 : Int)]], S1.c (Cl.bool false)], bs := [{ ct := Ct.sg [Sg.c (Cl.str (tx (List.dropWhile isDig (tx (List.dropWhile isBl s.data.toList)).data.toList)))], pub := (0 : Nat), nl := false }] } else bif !okN (List.takeWhile isDig (tx (List.dropWhile isBl s.data.toList)).data.toList) then some { r := SV.tup [S1.agg [gI (0 : Int), gI (0 : Int), gI (0 : Int), Sg.arr IntKind.u32 (5 : Nat) [(0 : Int), (0 : Int), (0 : Int), (0 : Int), (0 : Int)]], S1.c (Cl.bool false)], bs := [{ ct := Ct.sg [Sg.c (Cl.str (tx (List.dropWhile isDig (tx (List.dropWhile isBl s.data.toList)).data.toList)))], pub := (0 : Nat), nl := false }] } else bif !(tx (List.dropWhile isDig (tx (List.dropWhile isBl s.data.toList)).data.toList)).data.toList.all isBl then some { r := SV.tup [S1.agg [gI (0 : Int), gI (0 : Int), gI (0 : Int), Sg.arr IntKind.u32 (5 : Nat) [(0 : Int), (0 : Int), (0 : Int), (0 : Int), (0 : Int)]], S1.c (Cl.bool false)], bs := [{ ct := Ct.sg [Sg.c (Cl.str (tx (List.dropWhile isBl (tx (List.dropWhile isDig (tx (List.dropWhile isBl s.data.toList)).data.toList)).data.toList)))], pub := (0 : Nat), nl := false }] } else some { r := SV.tup [S1.agg [gI k, gI (if okN (List.takeWhile isDig (tx (List.dropWhile isBl s.data.toList)).data.toList) = true then dval (List.takeWhile isDig (tx (List.dropWhile isBl s.data.toList)).data.toList) else (0 : Int)), gI (0 : Int), Sg.arr IntKind.u32 (5 : Nat) [(0 : Int), (0 : Int), (0 : Int), (0 : Int), (0 : Int)]], S1.c (Cl.bool true)], bs := [{ ct := Ct.sg [Sg.c (Cl.str (tx (List.dropWhile isBl (tx (List.dropWhile isDig (tx (List.dropWhile isBl s.data.toList)).data.toList)).data.toList)))], pub := (0 : Nat), nl := false }] } else none := by kernel_rfl

theorem lone_l (l : List UInt8) (k : Int) (hl : l.length ≤ 9223372036854775807) : ∃ z, lone_f.ent lone_e [31] (fun _ _ => none) [c1 (.ptr 31 0), vI k] [⟨.sg [.c (.str (tx l))], 0, false⟩] = some ⟨.tup [.agg [gI (((oneP k l).getD ln0)).k, gI (((oneP k l).getD ln0)).a, gI (((oneP k l).getD ln0)).b, .arr .u32 5 (((oneP k l).getD ln0)).w], tB ((oneP k l).isSome)], [⟨.sg [.c (.str z)], 0, false⟩]⟩ := by
  have h0 := dw_len isBl l
  rw [lone_ent]
  simp only [tx_toList, tx_size]
  unfold oneP
  dsimp only
  generalize l.dropWhile isBl = r1 at *
  cases hA : decide (r1.length < l.length) with
  | false => exact ⟨_, condT (by omega) (condB rfl (lnNo rfl))⟩
  | true =>
    cases hB : okN (r1.takeWhile isDig) with
    | false => exact ⟨_, condT (by omega) (condN rfl (condB rfl (lnNo rfl)))⟩
    | true =>
      cases hC : (r1.dropWhile isDig).all isBl with
      | false => exact ⟨_, condT (by omega) (condN rfl (condN rfl (condB rfl (lnNo rfl))))⟩
      | true => exact ⟨_, condT (by omega) (condN rfl (condN rfl (condN rfl (lnYes rfl rfl rfl rfl rfl))))⟩
theorem lone_run (s : ByteArray) (k : Int) (hp : s.size ≤ 9223372036854775807) : ∃ fu z, lone_f.run lone_e [31] fu [c1 (.ptr 31 0), vI k] [⟨.sg [.c (.str (s))], 0, false⟩] = some ⟨.tup [.agg [gI (((oneP k s.data.toList).getD ln0)).k, gI (((oneP k s.data.toList).getD ln0)).a, gI (((oneP k s.data.toList).getD ln0)).b, .arr .u32 5 (((oneP k s.data.toList).getD ln0)).w], tB ((oneP k s.data.toList).isSome)], [⟨.sg [.c (.str z)], 0, false⟩]⟩ := by
  obtain ⟨l, rfl, hl⟩ := tx_get s
  rw [tx_toList]
  obtain ⟨z, h⟩ := lone_l l k (by omega)
  exact ⟨0, z, h⟩
theorem lone_ok (s : ByteArray) (k : Int) (hp : s.size ≤ 9223372036854775807) (q : Nat) (pre : Nat → Option Box) (hpre : pre q = some (⟨.sg [.c (.str (s))], 0, false⟩ : SB).den) : FnOkB cfg 158 ([c1 (.ptr q 0), vI k].map SV.den) pre (.tup [.agg [gI (((oneP k s.data.toList).getD ln0)).k, gI (((oneP k s.data.toList).getD ln0)).a, gI (((oneP k s.data.toList).getD ln0)).b, .arr .u32 5 (((oneP k s.data.toList).getD ln0)).w], tB ((oneP k s.data.toList).isSome)] : SV).den [(q, none)] := by
  obtain ⟨nn, z, h⟩ := lone_run s k hp
  exact FnOkB.lose (FnD.ok1 lone_g lone_f mixed Tryz.func158 rfl rfl rfl rfl rfl rfl rfl rfl rfl h q pre hpre)
noncomputable def c_lone : SpecF := fun args bx K => match args with
  | [.one (.c (.ptr q 0)), .one (.c (.int .i64 k))] => match bx q with
    | some ⟨.sg [.c (.str (s))], 0, false⟩ => bif decide (s.size ≤ 9223372036854775807) then K (.tup [.agg [gI (((oneP k s.data.toList).getD ln0)).k, gI (((oneP k s.data.toList).getD ln0)).a, gI (((oneP k s.data.toList).getD ln0)).b, .arr .u32 5 (((oneP k s.data.toList).getD ln0)).w], tB ((oneP k s.data.toList).isSome)]) [(q, none)] else none
    | _ => none
  | _ => none
theorem c_lone_ok : SpecOk cfg 158 c_lone := by
  intro args bx K out h
  unfold c_lone at h
  split at h
  · split at h
    · rename_i hb
      obtain ⟨hp, h⟩ := bif_some h
      exact ⟨_, _, h, .inl (lone_ok _ _ (of_decide_eq_true hp) _ _ (by simp [denB, hb])), by simp [isTupS]⟩
    · cases h
  · cases h
/-! ### (*lex.reader).data -/
noncomputable def ldat_e : Ev' := ⟨Tryz.prog, glob, Γof [(200, c_skp), (201, c_lnum)]⟩
theorem ldat_g : Gd cfg ldat_e := gd (env_cons c_skp_ok (env_cons c_lnum_ok (env_nil _)))
noncomputable def ldat_f : FnD := ⟨161, Tryz.f161, noSh, Tryz.f161.resultTypes.toList, 0⟩
theorem ldat_ent (h : Hd) (s : ByteArray) : ldat_f.ent ldat_e [57] h [c1 (.ptr 57 0)] [⟨.sg [.c (.str (s))], 0, false⟩] = let v1 : List UInt8 := List.dropWhile isBl (tx (List.dropWhile isDig (tx (List.dropWhile isBl (tx (List.dropWhile isDig s.data.toList)).data.toList)).data.toList)).data.toList; let v2 : ByteArray := tx v1; let v3 : Nat := v1.length; let v4 : Int := (bytesI v2).getD (0 : Nat) (0 : Int); let v5 : Int := if okN (List.takeWhile isDig s.data.toList) = true then dval (List.takeWhile isDig s.data.toList) else (0 : Int); let v6 : Int := if okN (List.takeWhile isDig (tx (List.dropWhile isBl (tx (List.dropWhile isDig s.data.toList)).data.toList)).data.toList) = true then dval (List.takeWhile isDig (tx (List.dropWhile isBl (tx (List.dropWhile isDig s.data.toList)).data.toList)).data.toList) else (0 : Int); bif decide (s.size ≤ (9223372036854775807 : Nat)) then bif decide ((tx (List.dropWhile isBl (tx (List.dropWhile isDig s.data.toList)).data.toList)).size ≤ (9223372036854775807 : Nat)) then bif !okN (List.takeWhile isDig s.data.toList) then some { r := SV.tup [S1.agg [gI (0 : Int), gI (0 : Int), gI (0 : Int), Sg.arr IntKind.u32 (5 : Nat) [(0 : Int), (0 : Int), (0 : Int), (0 : Int), (0 : Int)]], S1.c (Cl.bool false)], bs := [{ ct := Ct.sg [Sg.c (Cl.str v2)], pub := (0 : Nat), nl := false }] } else bif !decide ((List.dropWhile isBl (tx (List.dropWhile isDig s.data.toList)).data.toList).length < (tx (List.dropWhile isDig s.data.toList)).size) then some { r := SV.tup [S1.agg [gI (0 : Int), gI (0 : Int), gI (0 : Int), Sg.arr IntKind.u32 (5 : Nat) [(0 : Int), (0 : Int), (0 : Int), (0 : Int), (0 : Int)]], S1.c (Cl.bool false)], bs := [{ ct := Ct.sg [Sg.c (Cl.str v2)], pub := (0 : Nat), nl := false }] } else bif !okN (List.takeWhile isDig (tx (List.dropWhile isBl (tx (List.dropWhile isDig s.data.toList)).data.toList)).data.toList) then some { r := SV.tup [S1.agg [gI (0 : Int), gI (0 : Int), gI (0 : Int), Sg.arr IntKind.u32 (5 : Nat) [(0 : Int), (0 : Int), (0 : Int), (0 : Int), (0 : Int)]], S1.c (Cl.bool false)], bs := [{ ct := Ct.sg [Sg.c (Cl.str v2)], pub := (0 : Nat), nl := false }] } else bif !eqB v2 (tx []) then bif !decide (v3 < (tx (List.dropWhile isDig (tx (List.dropWhile isBl (tx (List.dropWhile isDig s.data.toList)).data.toList)).data.toList)).size) then some { r := SV.tup [S1.agg [gI (0 : Int), gI (0 : Int), gI (0 : Int), Sg.arr IntKind.u32 (5 : Nat) [(0 : Int), (0 : Int), (0 : Int), (0 : Int), (0 : Int)]], S1.c (Cl.bool false)], bs := [{ ct := Ct.sg [Sg.c (Cl.str v2)], pub := (0 : Nat), nl := false }] } else bif inB (0 : Int) v2.size then bif !decide (v4 = (35 : Int)) then some { r := SV.tup [S1.agg [gI (0 : Int), gI (0 : Int), gI (0 : Int), Sg.arr IntKind.u32 (5 : Nat) [(0 : Int), (0 : Int), (0 : Int), (0 : Int), (0 : Int)]], S1.c (Cl.bool false)], bs := [{ ct := Ct.sg [Sg.c (Cl.str v2)], pub := (0 : Nat), nl := false }] } else some { r := SV.tup [S1.agg [gI (5 : Int), gI v5, gI v6, Sg.arr IntKind.u32 (5 : Nat) [(0 : Int), (0 : Int), (0 : Int), (0 : Int), (0 : Int)]], S1.c (Cl.bool true)], bs := [{ ct := Ct.sg [Sg.c (Cl.str v2)], pub := (0 : Nat), nl := false }] } else none else some { r := SV.tup [S1.agg [gI (5 : Int), gI v5, gI v6, Sg.arr IntKind.u32 (5 : Nat) [(0 : Int), (0 : Int), (0 : Int), (0 : Int), (0 : Int)]], S1.c (Cl.bool true)], bs := [{ ct := Ct.sg [Sg.c (Cl.str v2)], pub := (0 : Nat), nl := false }] } else none else none := by kernel_rfl

theorem ldat_l (l : List UInt8) (hl : l.length ≤ 9223372036854775807) : ∃ z, ldat_f.ent ldat_e [57] (fun _ _ => none) [c1 (.ptr 57 0)] [⟨.sg [.c (.str (tx l))], 0, false⟩] = some ⟨.tup [.agg [gI (((dataP l).getD ln0)).k, gI (((dataP l).getD ln0)).a, gI (((dataP l).getD ln0)).b, .arr .u32 5 (((dataP l).getD ln0)).w], tB ((dataP l).isSome)], [⟨.sg [.c (.str z)], 0, false⟩]⟩ := by
  have h0 := dw_len isDig l
  have h1 := dw_len isBl (l.dropWhile isDig)
  rw [ldat_ent]
  dsimp only
  simp only [tx_toList, tx_size, bytes_get, eqB_tx]
  unfold dataP
  dsimp only
  generalize l.dropWhile isDig = r1 at *
  generalize r1.dropWhile isBl = r2 at *
  generalize r2.dropWhile isDig = r3 at *
  generalize r3.dropWhile isBl = r4 at *
  cases hA : okN (l.takeWhile isDig) with
  | false => exact ⟨_, condT hl (condT (by omega) (condB rfl (lnNo rfl)))⟩
  | true =>
    cases hB : decide (r2.length < r1.length) with
    | false => exact ⟨_, condT hl (condT (by omega) (condN rfl (condB rfl (lnNo rfl))))⟩
    | true =>
      cases hC : okN (r2.takeWhile isDig) with
      | false => exact ⟨_, condT hl (condT (by omega) (condN rfl (condN rfl (condB rfl (lnNo rfl)))))⟩
      | true =>
        by_cases h4 : r4 = []
        · rw [decide_eq_true h4]
          exact ⟨_, condT hl (condT (by omega) (condN rfl (condN rfl (condN rfl (condN rfl (lnYes rfl rfl rfl rfl rfl))))))⟩
        · rw [decide_eq_false h4]
          cases hD : decide (r4.length < r3.length) with
          | false => exact ⟨_, condT hl (condT (by omega) (condN rfl (condN rfl (condN rfl (condB rfl (condB rfl (lnNo rfl)))))))⟩
          | true =>
            have hlen : r4.length ≠ 0 := fun e => h4 (List.length_eq_zero_iff.1 e)
            have e35 : decide (((r4.getD 0 0).toNat : Int) = 35) = decide (r4.getD 0 0 = 35) := by
              rw [Bool.eq_iff_iff, decide_eq_true_eq, decide_eq_true_eq]; exact byte_eq _ 35 (by omega)
            rw [e35]
            cases hE : decide (r4.getD 0 0 = 35) with
            | false => exact ⟨_, condT hl (condT (by omega) (condN rfl (condN rfl (condN rfl (condB rfl (condN rfl (condB ((inB_iff _ _).2 (by omega)) (condB rfl (lnNo rfl)))))))))⟩
            | true => exact ⟨_, condT hl (condT (by omega) (condN rfl (condN rfl (condN rfl (condB rfl (condN rfl (condB ((inB_iff _ _).2 (by omega)) (condN rfl (lnYes rfl rfl rfl rfl rfl)))))))))⟩
theorem ldat_run (s : ByteArray) (hp : s.size ≤ 9223372036854775807) : ∃ fu z, ldat_f.run ldat_e [57] fu [c1 (.ptr 57 0)] [⟨.sg [.c (.str (s))], 0, false⟩] = some ⟨.tup [.agg [gI (((dataP s.data.toList).getD ln0)).k, gI (((dataP s.data.toList).getD ln0)).a, gI (((dataP s.data.toList).getD ln0)).b, .arr .u32 5 (((dataP s.data.toList).getD ln0)).w], tB ((dataP s.data.toList).isSome)], [⟨.sg [.c (.str z)], 0, false⟩]⟩ := by
  obtain ⟨l, rfl, hl⟩ := tx_get s
  rw [tx_toList]
  obtain ⟨z, h⟩ := ldat_l l (by omega)
  exact ⟨0, z, h⟩
theorem ldat_ok (s : ByteArray) (hp : s.size ≤ 9223372036854775807) (q : Nat) (pre : Nat → Option Box) (hpre : pre q = some (⟨.sg [.c (.str (s))], 0, false⟩ : SB).den) : FnOkB cfg 161 ([c1 (.ptr q 0)].map SV.den) pre (.tup [.agg [gI (((dataP s.data.toList).getD ln0)).k, gI (((dataP s.data.toList).getD ln0)).a, gI (((dataP s.data.toList).getD ln0)).b, .arr .u32 5 (((dataP s.data.toList).getD ln0)).w], tB ((dataP s.data.toList).isSome)] : SV).den [(q, none)] := by
  obtain ⟨nn, z, h⟩ := ldat_run s hp
  exact FnOkB.lose (FnD.ok1 ldat_g ldat_f mixed Tryz.func161 rfl rfl rfl rfl rfl rfl rfl rfl rfl h q pre hpre)
noncomputable def c_ldat : SpecF := fun args bx K => match args with
  | [.one (.c (.ptr q 0))] => match bx q with
    | some ⟨.sg [.c (.str (s))], 0, false⟩ => bif decide (s.size ≤ 9223372036854775807) then K (.tup [.agg [gI (((dataP s.data.toList).getD ln0)).k, gI (((dataP s.data.toList).getD ln0)).a, gI (((dataP s.data.toList).getD ln0)).b, .arr .u32 5 (((dataP s.data.toList).getD ln0)).w], tB ((dataP s.data.toList).isSome)]) [(q, none)] else none
    | _ => none
  | _ => none
theorem c_ldat_ok : SpecOk cfg 161 c_ldat := by
  intro args bx K out h
  unfold c_ldat at h
  split at h
  · split at h
    · rename_i hb
      obtain ⟨hp, h⟩ := bif_some h
      exact ⟨_, _, h, .inl (ldat_ok _ (of_decide_eq_true hp) _ _ (by simp [denB, hb])), by simp [isTupS]⟩
    · cases h
  · cases h
/-! ### internal/strconv.lower -/
noncomputable def pulow_e : Ev' := ⟨Tryz.prog, glob, Γof []⟩
theorem pulow_g : Gd cfg pulow_e := gd (env_nil _)
noncomputable def pulow_f : FnD := ⟨260, Tryz.f260, noSh, Tryz.f260.resultTypes.toList, 0⟩
theorem pulow_ent (h : Hd) (c : Int) : pulow_f.ent pulow_e [] h [c1 (.int .u8 c)] [] = ret (c1 (Cl.int IntKind.u8 (orI IntKind.u8 c (32 : Int)))) := by kernel_rfl
theorem pulow_run (c : Int) : ∃ fu, pulow_f.run pulow_e [] fu [c1 (.int .u8 c)] [] = some ⟨c1 (.int .u8 (orI .u8 c 32)), []⟩ := by
  refine ⟨0, ?_⟩
  rw [FnD.run, pulow_ent]
theorem pulow_ok (c : Int) : FnOk cfg 260 ([c1 (.int .u8 c)].map SV.den) (c1 (.int .u8 (orI .u8 c 32)) : SV).den := by
  obtain ⟨nn, h⟩ := pulow_run c
  exact FnD.ok pulow_g pulow_f mixed Tryz.func260 rfl rfl rfl rfl rfl rfl h
noncomputable def c_pulow : SpecF := fun args _ K => match args with
  | [.one (.c (.int .u8 c))] => K (c1 (.int .u8 (orI .u8 c 32))) []
  | _ => none
theorem c_pulow_ok : SpecOk cfg 260 c_pulow := by
  intro args bx K out h
  unfold c_pulow at h
  split at h
  · exact ⟨_, _, h, .inl (pulow_ok _ _), by simp [isTupS]⟩
  · cases h
/-! ### internal/strconv.ParseUint -/
noncomputable def pu_e : Ev' := ⟨Tryz.prog, glob, Γof [(260, c_pulow)]⟩
theorem pu_g : Gd cfg pu_e := gd (env_cons c_pulow_ok (env_nil _))
noncomputable def pu_f : FnD := ⟨246, Tryz.f246, shOf [(0, ⟨172, [(99, ⟨.ints .u8, false, false⟩)], [], [(1, .c (.int .i64)), (8, .c (.bool)), (9, .c (.str)), (10, .c (.int .u64)), (11, .c (.int .u64)), (12, .c (.bool)), (13, .c (.int .u64)), (99, .c (.sl 99 1)), (100, .c (.int .i64)), (101, .c (.int .i64))]⟩)], Tryz.f246.resultTypes.toList, 0⟩
theorem pu_ent (h : Hd) (s : ByteArray) : pu_f.ent pu_e [] h [vS s, vI 16, vI 32] [] = bif eqB s (tx []) then none else bif decide (s.size = (bytesI s).length) then h (0 : Nat) [Lf.l (bytesI s), Lf.i (16 : Int), Lf.b false, Lf.s s, Lf.i (1152921504606846976 : Int), Lf.i (IntKind.u64.wrap (shlI IntKind.u64 (1 : Int) (IntKind.u64.wrap (32 : Int)) - (1 : Int))), Lf.b false, Lf.i (0 : Int), Lf.i (↑s.size : Int), Lf.i (0 : Int)] else none := by kernel_rfl
theorem pu_l0 (h : Hd) (l0 : List Int) (i1 : Int) (b2 : Bool) (s3 : ByteArray) (i4 : Int) (i5 : Int) (b6 : Bool) (i7 : Int) (i8 : Int) (i9 : Int) : pu_f.seg pu_e [] h 0 [.l l0, .i i1, .b b2, .s s3, .i i4, .i i5, .b b6, .i i7, .i i8, .i i9] = let v1 : Int := IntKind.u64.wrap (IntKind.u64.wrap (i7 * IntKind.u64.wrap i1) + IntKind.u64.wrap (IntKind.u8.wrap (l0.getD i9.toNat (0 : Int) - (48 : Int)))); let v2 : Int := IntKind.u8.wrap (IntKind.u8.wrap (orI IntKind.u8 (l0.getD i9.toNat (0 : Int)) (32 : Int) - (97 : Int)) + (10 : Int)); let v3 : Int := IntKind.u64.wrap (IntKind.u64.wrap (i7 * IntKind.u64.wrap i1) + IntKind.u64.wrap v2); bif decide (i9 < i8) then bif inB i9 l0.length then bif decide (i9.toNat < l0.length) then bif decide (l0.getD i9.toNat (0 : Int) = (95 : Int)) then bif b2 then bif decide (l0.length = l0.length) then h (0 : Nat) [Lf.l l0, Lf.i i1, Lf.b b2, Lf.s s3, Lf.i i4, Lf.i i5, Lf.b true, Lf.i i7, Lf.i i8, Lf.i (IntKind.i64.wrap (i9 + (1 : Int)))] else none else bif decide ((48 : Int) ≤ l0.getD i9.toNat (0 : Int)) then bif decide (l0.getD i9.toNat (0 : Int) ≤ (57 : Int)) then bif decide (IntKind.u8.wrap i1 ≤ IntKind.u8.wrap (l0.getD i9.toNat (0 : Int) - (48 : Int))) then none else bif decide (i4 ≤ i7) then none else bif decide (v1 < IntKind.u64.wrap (i7 * IntKind.u64.wrap i1)) then none else bif decide (i5 < v1) then none else bif decide (l0.length = l0.length) then h (0 : Nat) [Lf.l l0, Lf.i i1, Lf.b b2, Lf.s s3, Lf.i i4, Lf.i i5, Lf.b b6, Lf.i v1, Lf.i i8, Lf.i (IntKind.i64.wrap (i9 + (1 : Int)))] else none else bif decide ((97 : Int) ≤ orI IntKind.u8 (l0.getD i9.toNat (0 : Int)) (32 : Int)) then bif decide (orI IntKind.u8 (l0.getD i9.toNat (0 : Int)) (32 : Int) ≤ (122 : Int)) then bif decide (IntKind.u8.wrap i1 ≤ v2) then none else bif decide (i4 ≤ i7) then none else bif decide (v3 < IntKind.u64.wrap (i7 * IntKind.u64.wrap i1)) then none else bif decide (i5 < v3) then none else bif decide (l0.length = l0.length) then h (0 : Nat) [Lf.l l0, Lf.i i1, Lf.b b2, Lf.s s3, Lf.i i4, Lf.i i5, Lf.b b6, Lf.i v3, Lf.i i8, Lf.i (IntKind.i64.wrap (i9 + (1 : Int)))] else none else none else none else bif decide ((97 : Int) ≤ orI IntKind.u8 (l0.getD i9.toNat (0 : Int)) (32 : Int)) then bif decide (orI IntKind.u8 (l0.getD i9.toNat (0 : Int)) (32 : Int) ≤ (122 : Int)) then bif decide (IntKind.u8.wrap i1 ≤ v2) then none else bif decide (i4 ≤ i7) then none else bif decide (v3 < IntKind.u64.wrap (i7 * IntKind.u64.wrap i1)) then none else bif decide (i5 < v3) then none else bif decide (l0.length = l0.length) then h (0 : Nat) [Lf.l l0, Lf.i i1, Lf.b b2, Lf.s s3, Lf.i i4, Lf.i i5, Lf.b b6, Lf.i v3, Lf.i i8, Lf.i (IntKind.i64.wrap (i9 + (1 : Int)))] else none else none else none else bif decide ((48 : Int) ≤ l0.getD i9.toNat (0 : Int)) then bif decide (l0.getD i9.toNat (0 : Int) ≤ (57 : Int)) then bif decide (IntKind.u8.wrap i1 ≤ IntKind.u8.wrap (l0.getD i9.toNat (0 : Int) - (48 : Int))) then none else bif decide (i4 ≤ i7) then none else bif decide (v1 < IntKind.u64.wrap (i7 * IntKind.u64.wrap i1)) then none else bif decide (i5 < v1) then none else bif decide (l0.length = l0.length) then h (0 : Nat) [Lf.l l0, Lf.i i1, Lf.b b2, Lf.s s3, Lf.i i4, Lf.i i5, Lf.b b6, Lf.i v1, Lf.i i8, Lf.i (IntKind.i64.wrap (i9 + (1 : Int)))] else none else bif decide ((97 : Int) ≤ orI IntKind.u8 (l0.getD i9.toNat (0 : Int)) (32 : Int)) then bif decide (orI IntKind.u8 (l0.getD i9.toNat (0 : Int)) (32 : Int) ≤ (122 : Int)) then bif decide (IntKind.u8.wrap i1 ≤ v2) then none else bif decide (i4 ≤ i7) then none else bif decide (v3 < IntKind.u64.wrap (i7 * IntKind.u64.wrap i1)) then none else bif decide (i5 < v3) then none else bif decide (l0.length = l0.length) then h (0 : Nat) [Lf.l l0, Lf.i i1, Lf.b b2, Lf.s s3, Lf.i i4, Lf.i i5, Lf.b b6, Lf.i v3, Lf.i i8, Lf.i (IntKind.i64.wrap (i9 + (1 : Int)))] else none else none else none else bif decide ((97 : Int) ≤ orI IntKind.u8 (l0.getD i9.toNat (0 : Int)) (32 : Int)) then bif decide (orI IntKind.u8 (l0.getD i9.toNat (0 : Int)) (32 : Int) ≤ (122 : Int)) then bif decide (IntKind.u8.wrap i1 ≤ v2) then none else bif decide (i4 ≤ i7) then none else bif decide (v3 < IntKind.u64.wrap (i7 * IntKind.u64.wrap i1)) then none else bif decide (i5 < v3) then none else bif decide (l0.length = l0.length) then h (0 : Nat) [Lf.l l0, Lf.i i1, Lf.b b2, Lf.s s3, Lf.i i4, Lf.i i5, Lf.b b6, Lf.i v3, Lf.i i8, Lf.i (IntKind.i64.wrap (i9 + (1 : Int)))] else none else none else none else none else none else bif b6 then none else ret (SV.tup [tU i7, S1.c (Cl.val Value.nilIface)]) := by kernel_rfl

theorem or32 (c : UInt8) (h : isHex c = true) (h2 : 57 < c.toNat) : orI .u8 (c.toNat : Int) 32 = c.toNat := by
  unfold isHex isDig at h
  simp only [Bool.or_eq_true, Bool.and_eq_true, decide_eq_true_eq] at h
  have : c.toNat = 97 ∨ c.toNat = 98 ∨ c.toNat = 99 ∨ c.toNat = 100 ∨ c.toNat = 101 ∨ c.toNat = 102 := by omega
  rcases this with h | h | h | h | h | h <;> rw [h] <;> rfl
theorem hval_take {l : List UInt8} (h : l.all isHex = true) {i : Nat} (hi : i < l.length) :
    hval (l.take (i + 1)) = hval (l.take i) * 16 + hexd (l.getD i 0) ∧ 0 ≤ hval (l.take i) ∧ hval (l.take i) < 16 ^ i ∧ isHex (l.getD i 0) = true := by
  have e : l.getD i 0 = l[i] := by rw [List.getD_eq_getElem?_getD, List.getElem?_eq_getElem hi]; rfl
  have ha : (l.take i).all isHex = true := by
    rw [List.all_eq_true] at h ⊢
    exact fun x hx => h x (List.mem_of_mem_take hx)
  have hb := hval_bound ha
  rw [List.length_take, Nat.min_eq_left (by omega)] at hb
  refine ⟨by rw [List.take_succ_eq_append_getElem hi, hval_snoc, e], hb.1, hb.2, ?_⟩
  rw [e]
  exact List.all_eq_true.1 h _ (List.getElem_mem hi)
theorem pu_loop (l : List UInt8) (hl : l.length ≤ 8) (hall : l.all isHex = true) : ∀ (k i : Nat), i + k = l.length →
    pu_f.H pu_e [] (k + 1) 0 [.l (bytesI (tx l)), .i 16, .b false, .s (tx l), .i 1152921504606846976, .i 4294967295, .b false, .i (hval (l.take i)), .i l.length, .i i] = ret (.tup [tU (hval l), .c (.val .nilIface)]) := by
  have hbl : (bytesI (tx l)).length = l.length := by unfold bytesI; rw [tx_toList, List.length_map]
  intro k
  induction k with
  | zero =>
    intro i hi
    rw [FnD.H_succ, pu_l0]
    dsimp only
    refine condF (by omega) ?_
    rw [List.take_of_length_le (by omega)]; rfl
  | succ k ih =>
    intro i hi
    obtain ⟨h1, h2, h3, h4⟩ := hval_take hall (show i < l.length by omega)
    have h5 := hexd_in h4
    have p8 : (16 : Int) ^ i ≤ 268435456 := by
      have := Nat.pow_le_pow_right (n := 16) (by omega) (show i ≤ 7 by omega)
      have e : ∀ j : Nat, (16 : Int) ^ j = ((16 ^ j : Nat) : Int) := fun j => by rw [Int.natCast_pow]; rfl
      rw [e]; exact Int.ofNat_le.2 this
    rw [FnD.H_succ, pu_l0]
    have hc := h4
    unfold isHex isDig at hc
    simp only [Bool.or_eq_true, Bool.and_eq_true, decide_eq_true_eq] at hc
    have w16 : IntKind.u64.wrap 16 = 16 := rfl
    have w8 : IntKind.u8.wrap 16 = 16 := rfl
    have wm : IntKind.u64.wrap (hval (l.take i) * 16) = hval (l.take i) * 16 := by rw [u64w]; omega
    have wn : IntKind.i64.wrap ((i : Int) + 1) = ((i + 1 : Nat) : Int) := by rw [IntWalk.i64_in _ (by omega)]; omega
    dsimp only
    rw [hbl]
    simp only [bytes_get, Int.toNat_natCast, w16, w8, wm, wn]
    have nx := ih (i + 1) (by omega)
    rw [h1] at nx
    generalize hcc : l.getD i 0 = c at *
    refine condT (by omega) (condB ((inB_iff _ _).2 (by omega)) (condT (by omega) (condF (by omega) ?_)))
    have step : ∀ d : Int, d = hexd c → (bif decide (16 ≤ d) then (none : Option Out) else bif decide ((1152921504606846976 : Int) ≤ hval (l.take i)) then none else bif decide (IntKind.u64.wrap (hval (l.take i) * 16 + IntKind.u64.wrap d) < hval (l.take i) * 16) then none else bif decide ((4294967295 : Int) < IntKind.u64.wrap (hval (l.take i) * 16 + IntKind.u64.wrap d)) then none else
        bif decide True then pu_f.H pu_e [] (k + 1) 0 [.l (bytesI (tx l)), .i 16, .b false, .s (tx l), .i 1152921504606846976, .i 4294967295, .b false, .i (IntKind.u64.wrap (hval (l.take i) * 16 + IntKind.u64.wrap d)), .i l.length, .i ((i + 1 : Nat) : Int)] else none) = ret (.tup [tU (hval l), .c (.val .nilIface)]) := fun d hd => by
      have wd : IntKind.u64.wrap d = d := by rw [u64w]; omega
      have ws : IntKind.u64.wrap (hval (l.take i) * 16 + d) = hval (l.take i) * 16 + d := by rw [u64w]; omega
      rw [wd, ws]
      refine condF (by omega) (condF (by omega) (condF (by omega) (condF (by omega) (condT trivial ?_))))
      rw [hd]; exact nx
    by_cases hle : c.toNat ≤ 57
    · have hd : IntKind.u8.wrap (((c.toNat : Nat) : Int) - 48) = hexd c := by
        unfold hexd; rw [if_pos hle, IntWalk.u8_in _ (by omega)]
      refine condT (by omega) (condT (by omega) ?_)
      rw [hd]
      exact step _ rfl
    · have ho := or32 c h4 (by omega)
      have hd : IntKind.u8.wrap (IntKind.u8.wrap (orI .u8 (c.toNat : Int) 32 - 97) + 10) = hexd c := by
        unfold hexd; rw [if_neg hle, ho, IntWalk.u8_in ((c.toNat : Int) - 97) (by omega), IntWalk.u8_in _ (by omega)]; omega
      refine condT (by omega) (condF (by omega) (condT (by rw [ho]; omega) (condT (by rw [ho]; omega) ?_)))
      rw [hd]
      exact step _ rfl
theorem pu_run (s : ByteArray) (hp : 0 < s.size ∧ s.size ≤ 8 ∧ s.data.toList.all isHex = true) : ∃ fu, pu_f.run pu_e [] fu [vS s, vI 16, vI 32] [] = some ⟨.tup [tU (hval s.data.toList), .c (.val .nilIface)], []⟩ := by
  obtain ⟨l, rfl, hl⟩ := tx_get s
  rw [tx_toList] at *
  obtain ⟨h1, h2, h3⟩ := hp
  rw [← hl] at h1 h2
  have hbl : (bytesI (tx l)).length = l.length := by unfold bytesI; rw [tx_toList, List.length_map]
  refine ⟨l.length + 1, ?_⟩
  rw [FnD.run, pu_ent, eqB_tx, tx_size]
  refine condF (fun e => by rw [e] at h1; exact absurd h1 (by simp)) (condT hbl.symm ?_)
  exact pu_loop l h2 h3 l.length 0 (by omega)
theorem pu_ok (s : ByteArray) (hp : 0 < s.size ∧ s.size ≤ 8 ∧ s.data.toList.all isHex = true) : FnOk cfg 246 ([vS s, vI 16, vI 32].map SV.den) (.tup [tU (hval s.data.toList), .c (.val .nilIface)] : SV).den := by
  obtain ⟨nn, h⟩ := pu_run s hp
  exact FnD.ok pu_g pu_f mixed Tryz.func246 rfl rfl rfl rfl rfl rfl h
noncomputable def c_pu : SpecF := fun args _ K => match args with
  | [.one (.c (.str s)), .one (.c (.int .i64 a)), .one (.c (.int .i64 b))] => bif decide (a = 16 ∧ b = 32 ∧ 0 < s.size ∧ s.size ≤ 8 ∧ s.data.toList.all isHex = true) then K (.tup [tU (hval s.data.toList), .c (.val .nilIface)]) [] else none
  | _ => none
theorem c_pu_ok : SpecOk cfg 246 c_pu := by
  intro args bx K out h
  unfold c_pu at h
  split at h
  · obtain ⟨hp, hk⟩ := bif_some h
    obtain ⟨rfl, rfl, h1, h2, h3⟩ := of_decide_eq_true hp
    exact ⟨_, _, hk, .inl (pu_ok _ ⟨h1, h2, h3⟩ _), by simp [isTupS]⟩
  · cases h
/-! ### strconv.ParseUint -/
noncomputable def ppu_e : Ev' := ⟨Tryz.prog, glob, Γof [(246, c_pu)]⟩
theorem ppu_g : Gd cfg ppu_e := gd (env_cons c_pu_ok (env_nil _))
noncomputable def ppu_f : FnD := ⟨232, Tryz.f232, noSh, Tryz.f232.resultTypes.toList, 0⟩
theorem ppu_ent (h : Hd) (s : ByteArray) : ppu_f.ent ppu_e [] h [vS s, vI 16, vI 32] [] = bif decide ((16 : Int) = (16 : Int) ∧ (32 : Int) = (32 : Int) ∧ (0 : Nat) < s.size ∧ s.size ≤ (8 : Nat) ∧ s.data.toList.all isHex = true) then ret (SV.tup [tU (hval s.data.toList), S1.c (Cl.val Value.nilIface)]) else none := by kernel_rfl
theorem ppu_run (s : ByteArray) (hp : 0 < s.size ∧ s.size ≤ 8 ∧ s.data.toList.all isHex = true) : ∃ fu, ppu_f.run ppu_e [] fu [vS s, vI 16, vI 32] [] = some ⟨.tup [tU (hval s.data.toList), .c (.val .nilIface)], []⟩ := by
  refine ⟨0, ?_⟩
  rw [FnD.run, ppu_ent]
  exact condT ⟨rfl, rfl, hp⟩ rfl
theorem ppu_ok (s : ByteArray) (hp : 0 < s.size ∧ s.size ≤ 8 ∧ s.data.toList.all isHex = true) : FnOk cfg 232 ([vS s, vI 16, vI 32].map SV.den) (.tup [tU (hval s.data.toList), .c (.val .nilIface)] : SV).den := by
  obtain ⟨nn, h⟩ := ppu_run s hp
  exact FnD.ok ppu_g ppu_f mixed Tryz.func232 rfl rfl rfl rfl rfl rfl h
noncomputable def c_ppu : SpecF := fun args _ K => match args with
  | [.one (.c (.str s)), .one (.c (.int .i64 a)), .one (.c (.int .i64 b))] => bif decide (a = 16 ∧ b = 32 ∧ 0 < s.size ∧ s.size ≤ 8 ∧ s.data.toList.all isHex = true) then K (.tup [tU (hval s.data.toList), .c (.val .nilIface)]) [] else none
  | _ => none
theorem c_ppu_ok : SpecOk cfg 232 c_ppu := by
  intro args bx K out h
  unfold c_ppu at h
  split at h
  · obtain ⟨hp, hk⟩ := bif_some h
    obtain ⟨rfl, rfl, h1, h2, h3⟩ := of_decide_eq_true hp
    exact ⟨_, _, hk, .inl (ppu_ok _ ⟨h1, h2, h3⟩ _), by simp [isTupS]⟩
  · cases h
/-! ### (*lex.reader).word -/
noncomputable def lwrd_e : Ev' := ⟨Tryz.prog, glob, Γof [(229, c_take), (232, c_ppu)]⟩
theorem lwrd_g : Gd cfg lwrd_e := gd (env_cons c_take_ok (env_cons c_ppu_ok (env_nil _)))
noncomputable def lwrd_f : FnD := ⟨202, Tryz.f202, noSh, Tryz.f202.resultTypes.toList, 0⟩
theorem lwrd_ent (h : Hd) (s : ByteArray) : lwrd_f.ent lwrd_e [23] h [c1 (.ptr 23 0)] [⟨.sg [.c (.str (s))], 0, false⟩] = bif decide (s.size ≤ (9223372036854775807 : Nat)) then bif eqB (tx (List.takeWhile isHex s.data.toList)) (tx []) then some { r := SV.tup [S1.c (Cl.int IntKind.u32 (0 : Int)), S1.c (Cl.bool false)], bs := [{ ct := Ct.sg [Sg.c (Cl.str (tx (List.dropWhile isHex s.data.toList)))], pub := (0 : Nat), nl := false }] } else bif decide ((8 : Int) < (↑(tx (List.takeWhile isHex s.data.toList)).size : Int)) then some { r := SV.tup [S1.c (Cl.int IntKind.u32 (0 : Int)), S1.c (Cl.bool false)], bs := [{ ct := Ct.sg [Sg.c (Cl.str (tx (List.dropWhile isHex s.data.toList)))], pub := (0 : Nat), nl := false }] } else bif decide ((16 : Int) = (16 : Int) ∧ (32 : Int) = (32 : Int) ∧ (0 : Nat) < (tx (List.takeWhile isHex s.data.toList)).size ∧ (tx (List.takeWhile isHex s.data.toList)).size ≤ (8 : Nat) ∧ (tx (List.takeWhile isHex s.data.toList)).data.toList.all isHex = true) then some { r := SV.tup [S1.c (Cl.int IntKind.u32 (IntKind.u32.wrap (hval (tx (List.takeWhile isHex s.data.toList)).data.toList))), S1.c (Cl.bool true)], bs := [{ ct := Ct.sg [Sg.c (Cl.str (tx (List.dropWhile isHex s.data.toList)))], pub := (0 : Nat), nl := false }] } else none else none := by kernel_rfl
theorem lwrd_run (s : ByteArray) (hp : s.size ≤ 9223372036854775807) : ∃ fu, lwrd_f.run lwrd_e [23] fu [c1 (.ptr 23 0)] [⟨.sg [.c (.str (s))], 0, false⟩] = some ⟨.tup [.c (.int .u32 (if okH (s.data.toList.takeWhile isHex) then hval (s.data.toList.takeWhile isHex) else 0)), tB (okH (s.data.toList.takeWhile isHex))], [⟨.sg [.c (.str (tx (s.data.toList.dropWhile isHex)))], 0, false⟩]⟩ := by
  refine ⟨0, ?_⟩
  rw [FnD.run, lwrd_ent]
  obtain ⟨l, rfl, hl⟩ := tx_get s
  simp only [tx_toList, eqB_tx, bytes_get, tx_size] at *
  have hall := tw_all isHex l
  generalize hw : l.takeWhile isHex = w at *
  refine condT hp ?_
  unfold okH
  by_cases h1 : w = []
  · exact condT h1 (outE (by rw [decide_eq_true h1]; rfl))
  refine condF h1 ?_
  by_cases h2 : w.length ≤ 8
  · have hlen : w.length ≠ 0 := fun e => h1 (List.length_eq_zero_iff.1 e)
    have hb := hval_bound hall
    have p8 : (16 : Int) ^ w.length ≤ 4294967296 := by
      have := Nat.pow_le_pow_right (n := 16) (by omega) h2
      have e : ∀ j : Nat, (16 : Int) ^ j = ((16 ^ j : Nat) : Int) := fun j => by rw [Int.natCast_pow]; rfl
      rw [e]; exact Int.ofNat_le.2 this
    have w32 : IntKind.u32.wrap (hval w) = hval w := IntWalk.u32_in _ (by omega)
    refine condF (by omega) (condT ⟨trivial, trivial, by omega, h2, hall⟩ (outE ?_))
    rw [w32, decide_eq_false h1, decide_eq_true h2]; rfl
  · refine condT (by omega) (outE ?_)
    rw [decide_eq_false h2, Bool.and_false]; rfl
theorem lwrd_ok (s : ByteArray) (hp : s.size ≤ 9223372036854775807) (q : Nat) (pre : Nat → Option Box) (hpre : pre q = some (⟨.sg [.c (.str (s))], 0, false⟩ : SB).den) : FnOkB cfg 202 ([c1 (.ptr q 0)].map SV.den) pre (.tup [.c (.int .u32 (if okH (s.data.toList.takeWhile isHex) then hval (s.data.toList.takeWhile isHex) else 0)), tB (okH (s.data.toList.takeWhile isHex))] : SV).den [(q, some (⟨.sg [.c (.str (tx (s.data.toList.dropWhile isHex)))], 0, false⟩ : SB).den)] := by
  obtain ⟨nn, h⟩ := lwrd_run s hp
  exact FnD.ok1 lwrd_g lwrd_f mixed Tryz.func202 rfl rfl rfl rfl rfl rfl rfl rfl rfl h q pre hpre
noncomputable def c_lwrd : SpecF := fun args bx K => match args with
  | [.one (.c (.ptr q 0))] => match bx q with
    | some ⟨.sg [.c (.str (s))], 0, false⟩ => bif decide (s.size ≤ 9223372036854775807) then K (.tup [.c (.int .u32 (if okH (s.data.toList.takeWhile isHex) then hval (s.data.toList.takeWhile isHex) else 0)), tB (okH (s.data.toList.takeWhile isHex))]) [(q, some ⟨.sg [.c (.str (tx (s.data.toList.dropWhile isHex)))], 0, false⟩)] else none
    | _ => none
  | _ => none
theorem c_lwrd_ok : SpecOk cfg 202 c_lwrd := by
  intro args bx K out h
  unfold c_lwrd at h
  split at h
  · split at h
    · rename_i hb
      obtain ⟨hp, h⟩ := bif_some h
      exact ⟨_, _, h, .inl (lwrd_ok _ (of_decide_eq_true hp) _ _ (by simp [denB, hb])), by simp [isTupS]⟩
    · cases h
  · cases h
/-! ### (*lex.reader).hash -/
noncomputable def lhsh_e : Ev' := ⟨Tryz.prog, glob, Γof [(200, c_skp), (202, c_lwrd), (160, c_lend)]⟩
theorem lhsh_g : Gd cfg lhsh_e := gd (env_cons c_skp_ok (env_cons c_lwrd_ok (env_cons c_lend_ok (env_nil _))))
noncomputable def lhsh_f : FnD := ⟨159, Tryz.f159, shOf [(0, ⟨37, [], [(37, [.c .str]), (2, [.c (.int .i64), .c (.int .i64), .c (.int .i64), .arr .u32 5]), (4, [.c (.int .i64), .c (.int .i64), .c (.int .i64), .arr .u32 5])], [(0, .c (.ptr 37 0)), (2, .c (.ptr 2 0)), (4, .c (.ptr 4 0)), (10, .c (.int .i64))]⟩)], Tryz.f159.resultTypes.toList, 0⟩
theorem lhsh_ent (h : Hd) (s : ByteArray) : lhsh_f.ent lhsh_e [37] h [c1 (.ptr 37 0)] [⟨.sg [.c (.str (s))], 0, false⟩] = h (0 : Nat) [Lf.s s, Lf.i (0 : Int), Lf.i (0 : Int), Lf.i (0 : Int), Lf.l [(0 : Int), (0 : Int), (0 : Int), (0 : Int), (0 : Int)], Lf.i (4 : Int), Lf.i (0 : Int), Lf.i (0 : Int), Lf.l [(0 : Int), (0 : Int), (0 : Int), (0 : Int), (0 : Int)], Lf.i (0 : Int)] := by kernel_rfl
theorem lhsh_l0 (h : Hd) (s0 : ByteArray) (i1 : Int) (i2 : Int) (i3 : Int) (l4 : List Int) (i5 : Int) (i6 : Int) (i7 : Int) (l8 : List Int) (i9 : Int) : lhsh_f.seg lhsh_e [37] h 0 [.s s0, .i i1, .i i2, .i i3, .l l4, .i i5, .i i6, .i i7, .l l8, .i i9] = bif decide (i9 < (5 : Int)) then bif decide ((tx (List.dropWhile isBl s0.data.toList)).size ≤ (9223372036854775807 : Nat)) then bif !decide ((List.dropWhile isBl s0.data.toList).length < s0.size) then some { r := SV.tup [S1.agg [gI (0 : Int), gI (0 : Int), gI (0 : Int), Sg.arr IntKind.u32 (5 : Nat) [(0 : Int), (0 : Int), (0 : Int), (0 : Int), (0 : Int)]], S1.c (Cl.bool false)], bs := [{ ct := Ct.sg [Sg.c (Cl.str (tx (List.dropWhile isHex (tx (List.dropWhile isBl s0.data.toList)).data.toList)))], pub := (0 : Nat), nl := false }] } else bif !okH (List.takeWhile isHex (tx (List.dropWhile isBl s0.data.toList)).data.toList) then some { r := SV.tup [S1.agg [gI (0 : Int), gI (0 : Int), gI (0 : Int), Sg.arr IntKind.u32 (5 : Nat) [(0 : Int), (0 : Int), (0 : Int), (0 : Int), (0 : Int)]], S1.c (Cl.bool false)], bs := [{ ct := Ct.sg [Sg.c (Cl.str (tx (List.dropWhile isHex (tx (List.dropWhile isBl s0.data.toList)).data.toList)))], pub := (0 : Nat), nl := false }] } else bif inB i9 (5 : Nat) then bif decide (i9.toNat < (5 : Nat)) then h (0 : Nat) [Lf.s (tx (List.dropWhile isHex (tx (List.dropWhile isBl s0.data.toList)).data.toList)), Lf.i i1, Lf.i i2, Lf.i i3, Lf.l l4, Lf.i i5, Lf.i i6, Lf.i i7, Lf.l (setD (5 : Nat) l8 i9.toNat (if okH (List.takeWhile isHex (tx (List.dropWhile isBl s0.data.toList)).data.toList) = true then hval (List.takeWhile isHex (tx (List.dropWhile isBl s0.data.toList)).data.toList) else (0 : Int))), Lf.i (IntKind.i64.wrap (i9 + (1 : Int)))] else none else none else none else bif !s0.data.toList.all isBl then some { r := SV.tup [S1.agg [gI (0 : Int), gI (0 : Int), gI (0 : Int), Sg.arr IntKind.u32 (5 : Nat) [(0 : Int), (0 : Int), (0 : Int), (0 : Int), (0 : Int)]], S1.c (Cl.bool false)], bs := [{ ct := Ct.sg [Sg.c (Cl.str (tx (List.dropWhile isBl s0.data.toList)))], pub := (0 : Nat), nl := false }] } else some { r := SV.tup [S1.agg [gI i5, gI i6, gI i7, Sg.arr IntKind.u32 (5 : Nat) l8], S1.c (Cl.bool true)], bs := [{ ct := Ct.sg [Sg.c (Cl.str (tx (List.dropWhile isBl s0.data.toList)))], pub := (0 : Nat), nl := false }] } := by kernel_rfl

def hashFrom (m : Nat) (ws : List Int) (r : List UInt8) : Option LnV := match wordsP m r with
  | some (us, r) => if r.all isBl = true then some ⟨4, 0, 0, ws ++ us⟩ else none
  | none => none
theorem hashFrom_succ (m : Nat) (ws : List Int) (r : List UInt8) : hashFrom (m + 1) ws r = (if (decide ((r.dropWhile isBl).length < r.length) && okH ((r.dropWhile isBl).takeWhile isHex)) = true then hashFrom m (ws ++ [hval ((r.dropWhile isBl).takeWhile isHex)]) ((r.dropWhile isBl).dropWhile isHex) else none) := by
  have hw : wordsP (m + 1) r = (if (decide ((r.dropWhile isBl).length < r.length) && okH ((r.dropWhile isBl).takeWhile isHex)) = true then (wordsP m ((r.dropWhile isBl).dropWhile isHex)).map fun x => (hval ((r.dropWhile isBl).takeWhile isHex) :: x.1, x.2) else none) := rfl
  unfold hashFrom
  rw [hw]
  by_cases hc : (decide ((r.dropWhile isBl).length < r.length) && okH ((r.dropWhile isBl).takeWhile isHex)) = true
  · rw [if_pos hc, if_pos hc]
    cases wordsP m ((r.dropWhile isBl).dropWhile isHex) with
    | none => rfl
    | some x => simp only [Option.map_some, List.append_assoc, List.cons_append, List.nil_append]
  · rw [if_neg hc, if_neg hc]
theorem lhsh_loop : ∀ (m n : Nat) (r : List UInt8) (ws : List Int), m + n = 5 → ws.length = n → r.length ≤ 9223372036854775807 →
    ∃ z, lhsh_f.H lhsh_e [37] (m + 1) 0 [.s (tx r), .i 0, .i 0, .i 0, .l [0, 0, 0, 0, 0], .i 4, .i 0, .i 0, .l (ws ++ List.replicate m 0), .i n] = some ⟨.tup [.agg [gI (((hashFrom m ws r).getD ln0)).k, gI (((hashFrom m ws r).getD ln0)).a, gI (((hashFrom m ws r).getD ln0)).b, .arr .u32 5 (((hashFrom m ws r).getD ln0)).w], tB ((hashFrom m ws r).isSome)], [⟨.sg [.c (.str z)], 0, false⟩]⟩ := by
  intro m
  induction m with
  | zero =>
    intro n r ws hn hw hr
    rw [FnD.H_succ, lhsh_l0]
    simp only [tx_toList, tx_size]
    rw [List.replicate_zero, List.append_nil]
    have e : hashFrom 0 ws r = if r.all isBl = true then some ⟨4, 0, 0, ws⟩ else none := by
      unfold hashFrom; rw [wordsP]; simp
    cases hA : r.all isBl with
    | false => exact ⟨_, condF (by omega) (condB rfl (lnNo (by rw [e, hA]; rfl)))⟩
    | true => exact ⟨_, condF (by omega) (condN rfl (lnYes (v := ⟨4, 0, 0, ws⟩) (by rw [e, hA]; rfl) rfl rfl rfl rfl))⟩
  | succ m ih =>
    intro n r ws hn hw hr
    have h0 := dw_len isBl r
    have h1 := dw_len isHex (r.dropWhile isBl)
    rw [FnD.H_succ, lhsh_l0]
    simp only [tx_toList, tx_size, Int.toNat_natCast]
    have e := hashFrom_succ m ws r
    generalize r.dropWhile isBl = r1 at *
    cases hA : decide (r1.length < r.length) with
    | false => exact ⟨_, condT (by omega) (condT (by omega) (condB rfl (lnNo (by rw [e, hA]; rfl))))⟩
    | true =>
      cases hB : okH (r1.takeWhile isHex) with
      | false => exact ⟨_, condT (by omega) (condT (by omega) (condN rfl (condB rfl (lnNo (by rw [e, hA, hB]; rfl)))))⟩
      | true =>
        rw [hA, hB] at e
        have e : hashFrom (m + 1) ws r = hashFrom m (ws ++ [hval (r1.takeWhile isHex)]) (r1.dropWhile isHex) := e
        rw [e]
        obtain ⟨z, hz⟩ := ih (n + 1) (r1.dropWhile isHex) (ws ++ [hval (r1.takeWhile isHex)]) (by omega) (by simp [hw]) (by omega)
        refine ⟨z, condT (by omega) (condT (by omega) (condN rfl (condN rfl (condB ((inB_iff _ _).2 (by omega)) (condT (by omega) ?_)))))⟩
        have es : setD 5 (ws ++ List.replicate (m + 1) 0) n (hval (r1.takeWhile isHex)) = (ws ++ [hval (r1.takeWhile isHex)]) ++ List.replicate m 0 := by
          rw [setD_eq (by simp [hw]; omega), List.set_append_right _ _ (by omega), hw, Nat.sub_self, List.replicate_succ, List.set_cons_zero, List.append_assoc]; rfl
        rw [if_pos rfl, es, show IntKind.i64.wrap ((n : Int) + 1) = ((n + 1 : Nat) : Int) by rw [IntWalk.i64_in _ (by omega)]; omega]
        exact hz
theorem lhsh_run (s : ByteArray) (hp : s.size ≤ 9223372036854775807) : ∃ fu z, lhsh_f.run lhsh_e [37] fu [c1 (.ptr 37 0)] [⟨.sg [.c (.str (s))], 0, false⟩] = some ⟨.tup [.agg [gI (((hashP s.data.toList).getD ln0)).k, gI (((hashP s.data.toList).getD ln0)).a, gI (((hashP s.data.toList).getD ln0)).b, .arr .u32 5 (((hashP s.data.toList).getD ln0)).w], tB ((hashP s.data.toList).isSome)], [⟨.sg [.c (.str z)], 0, false⟩]⟩ := by
  obtain ⟨l, rfl, hl⟩ := tx_get s
  rw [tx_toList]
  obtain ⟨z, h⟩ := lhsh_loop 5 0 l [] (by omega) rfl (by omega)
  refine ⟨6, z, ?_⟩
  rw [FnD.run, lhsh_ent]
  have e : hashP l = hashFrom 5 [] l := rfl
  rw [e]
  exact h
theorem lhsh_ok (s : ByteArray) (hp : s.size ≤ 9223372036854775807) (q : Nat) (pre : Nat → Option Box) (hpre : pre q = some (⟨.sg [.c (.str (s))], 0, false⟩ : SB).den) : FnOkB cfg 159 ([c1 (.ptr q 0)].map SV.den) pre (.tup [.agg [gI (((hashP s.data.toList).getD ln0)).k, gI (((hashP s.data.toList).getD ln0)).a, gI (((hashP s.data.toList).getD ln0)).b, .arr .u32 5 (((hashP s.data.toList).getD ln0)).w], tB ((hashP s.data.toList).isSome)] : SV).den [(q, none)] := by
  obtain ⟨nn, z, h⟩ := lhsh_run s hp
  exact FnOkB.lose (FnD.ok1 lhsh_g lhsh_f mixed Tryz.func159 rfl rfl rfl rfl rfl rfl rfl rfl rfl h q pre hpre)
noncomputable def c_lhsh : SpecF := fun args bx K => match args with
  | [.one (.c (.ptr q 0))] => match bx q with
    | some ⟨.sg [.c (.str (s))], 0, false⟩ => bif decide (s.size ≤ 9223372036854775807) then K (.tup [.agg [gI (((hashP s.data.toList).getD ln0)).k, gI (((hashP s.data.toList).getD ln0)).a, gI (((hashP s.data.toList).getD ln0)).b, .arr .u32 5 (((hashP s.data.toList).getD ln0)).w], tB ((hashP s.data.toList).isSome)]) [(q, none)] else none
    | _ => none
  | _ => none
theorem c_lhsh_ok : SpecOk cfg 159 c_lhsh := by
  intro args bx K out h
  unfold c_lhsh at h
  split at h
  · split at h
    · rename_i hb
      obtain ⟨hp, h⟩ := bif_some h
      exact ⟨_, _, h, .inl (lhsh_ok _ (of_decide_eq_true hp) _ _ (by simp [denB, hb])), by simp [isTupS]⟩
    · cases h
  · cases h
/-! ### lex.Scan -/
noncomputable def lscan_e : Ev' := ⟨Tryz.prog, glob, Γof [(140, c_hasp), (158, c_lone), (159, c_lhsh), (160, c_lend), (161, c_ldat)]⟩
theorem lscan_g : Gd cfg lscan_e := gd (env_cons c_hasp_ok (env_cons c_lone_ok (env_cons c_lhsh_ok (env_cons c_lend_ok (env_cons c_ldat_ok (env_nil _))))))
noncomputable def lscan_f : FnD := ⟨112, Tryz.f112, noSh, Tryz.f112.resultTypes.toList, 0⟩
theorem lscan_ent (h : Hd) (s : ByteArray) : lscan_f.ent lscan_e [] h [vS s] [] = bif Lib.hasPrefix s.data.toList (tx [(35 : UInt8), (36 : UInt8)]).data.toList then bif slB (2 : Int) (↑s.size : Int) s.size then bif decide ((s.extract (2 : Nat) (↑s.size : Int).toNat).size ≤ (9223372036854775807 : Nat)) then ret (SV.tup [S1.agg [gI ((oneP (2 : Int) (s.extract (2 : Nat) (↑s.size : Int).toNat).data.toList).getD ln0).k, gI ((oneP (2 : Int) (s.extract (2 : Nat) (↑s.size : Int).toNat).data.toList).getD ln0).a, gI ((oneP (2 : Int) (s.extract (2 : Nat) (↑s.size : Int).toNat).data.toList).getD ln0).b, Sg.arr IntKind.u32 (5 : Nat) ((oneP (2 : Int) (s.extract (2 : Nat) (↑s.size : Int).toNat).data.toList).getD ln0).w], S1.c (Cl.bool (oneP (2 : Int) (s.extract (2 : Nat) (↑s.size : Int).toNat).data.toList).isSome)]) else none else none else bif Lib.hasPrefix s.data.toList (tx [(35 : UInt8), (64 : UInt8)]).data.toList then bif slB (2 : Int) (↑s.size : Int) s.size then bif decide ((s.extract (2 : Nat) (↑s.size : Int).toNat).size ≤ (9223372036854775807 : Nat)) then ret (SV.tup [S1.agg [gI ((oneP (3 : Int) (s.extract (2 : Nat) (↑s.size : Int).toNat).data.toList).getD ln0).k, gI ((oneP (3 : Int) (s.extract (2 : Nat) (↑s.size : Int).toNat).data.toList).getD ln0).a, gI ((oneP (3 : Int) (s.extract (2 : Nat) (↑s.size : Int).toNat).data.toList).getD ln0).b, Sg.arr IntKind.u32 (5 : Nat) ((oneP (3 : Int) (s.extract (2 : Nat) (↑s.size : Int).toNat).data.toList).getD ln0).w], S1.c (Cl.bool (oneP (3 : Int) (s.extract (2 : Nat) (↑s.size : Int).toNat).data.toList).isSome)]) else none else none else bif Lib.hasPrefix s.data.toList (tx [(35 : UInt8), (104 : UInt8)]).data.toList then bif slB (2 : Int) (↑s.size : Int) s.size then bif decide ((s.extract (2 : Nat) (↑s.size : Int).toNat).size ≤ (9223372036854775807 : Nat)) then ret (SV.tup [S1.agg [gI ((hashP (s.extract (2 : Nat) (↑s.size : Int).toNat).data.toList).getD ln0).k, gI ((hashP (s.extract (2 : Nat) (↑s.size : Int).toNat).data.toList).getD ln0).a, gI ((hashP (s.extract (2 : Nat) (↑s.size : Int).toNat).data.toList).getD ln0).b, Sg.arr IntKind.u32 (5 : Nat) ((hashP (s.extract (2 : Nat) (↑s.size : Int).toNat).data.toList).getD ln0).w], S1.c (Cl.bool (hashP (s.extract (2 : Nat) (↑s.size : Int).toNat).data.toList).isSome)]) else none else none else bif Lib.hasPrefix s.data.toList (tx [(35 : UInt8)]).data.toList then ret (SV.tup [S1.agg [gI (1 : Int), gI (0 : Int), gI (0 : Int), Sg.arr IntKind.u32 (5 : Nat) [(0 : Int), (0 : Int), (0 : Int), (0 : Int), (0 : Int)]], S1.c (Cl.bool true)]) else bif s.data.toList.all isBl then ret (SV.tup [S1.agg [gI (1 : Int), gI (0 : Int), gI (0 : Int), Sg.arr IntKind.u32 (5 : Nat) [(0 : Int), (0 : Int), (0 : Int), (0 : Int), (0 : Int)]], S1.c (Cl.bool true)]) else bif decide (s.size ≤ (9223372036854775807 : Nat)) then ret (SV.tup [S1.agg [gI ((dataP s.data.toList).getD ln0).k, gI ((dataP s.data.toList).getD ln0).a, gI ((dataP s.data.toList).getD ln0).b, Sg.arr IntKind.u32 (5 : Nat) ((dataP s.data.toList).getD ln0).w], S1.c (Cl.bool (dataP s.data.toList).isSome)]) else none := by kernel_rfl

theorem beq_dec (a b : UInt8) : (a == b) = decide (b = a) := by rw [Bool.eq_iff_iff, beq_iff_eq, decide_eq_true_eq]; exact eq_comm
theorem hasp1 (l : List UInt8) : Lib.hasPrefix l [35] = decide (l.getD 0 0 = 35) := by
  cases l with
  | nil => rfl
  | cons c l =>
    show ((35 : UInt8) == c && true) = decide (c = 35)
    rw [Bool.and_true, beq_dec]
theorem hasp2 (l : List UInt8) (d : UInt8) (hd : d ≠ 0) : Lib.hasPrefix l [35, d] = (decide (l.getD 0 0 = 35) && decide (l.getD 1 0 = d)) := by
  match l with
  | [] => rfl
  | [c] =>
    show ((35 : UInt8) == c && false) = (decide (c = 35) && decide ((0 : UInt8) = d))
    rw [decide_eq_false hd.symm, Bool.and_false, Bool.and_false]
  | c :: e :: l =>
    show ((35 : UInt8) == c && (d == e && true)) = (decide (c = 35) && decide (e = d))
    rw [Bool.and_true, beq_dec, beq_dec]
theorem len2 {l : List UInt8} {d : UInt8} (hd : d ≠ 0) (h : l.getD 1 0 = d) : 2 ≤ l.length := by
  match l with
  | [] => exact absurd h hd.symm
  | [c] => exact absurd h hd.symm
  | c :: e :: l => simp
theorem scanR {o p : Option LnV} (h : o = p) : (ret (.tup [.agg [gI (o.getD ln0).k, gI (o.getD ln0).a, gI (o.getD ln0).b, .arr .u32 5 (o.getD ln0).w], .c (.bool o.isSome)])) = some ⟨.tup [.agg [gI (p.getD ln0).k, gI (p.getD ln0).a, gI (p.getD ln0).b, .arr .u32 5 (p.getD ln0).w], tB p.isSome], []⟩ := by rw [h]
theorem lscan_run (s : ByteArray) (hp : s.size ≤ 9223372036854775807) : ∃ fu, lscan_f.run lscan_e [] fu [vS s] [] = some ⟨.tup [.agg [gI (((scanP s.data.toList).getD ln0)).k, gI (((scanP s.data.toList).getD ln0)).a, gI (((scanP s.data.toList).getD ln0)).b, .arr .u32 5 (((scanP s.data.toList).getD ln0)).w], tB ((scanP s.data.toList).isSome)], []⟩ := by
  refine ⟨0, ?_⟩
  rw [FnD.run, lscan_ent]
  obtain ⟨l, rfl, hl⟩ := tx_get s
  rw [tx_size] at hp
  simp only [tx_toList, tx_size, tx_extract]
  rw [hasp2 _ _ (by decide), hasp2 _ _ (by decide), hasp2 _ _ (by decide), hasp1, Int.toNat_natCast]
  have ht : (l.drop 2).take (l.length - 2) = l.drop 2 := List.take_of_length_le (by rw [List.length_drop]; omega)
  rw [ht]
  have hd2 : (l.drop 2).length ≤ 9223372036854775807 := by rw [List.length_drop]; omega
  unfold scanP
  by_cases h0 : l.getD 0 0 = 35
  · rw [decide_eq_true h0, if_pos h0]
    by_cases h1 : l.getD 1 0 = 36
    · have := len2 (by decide) h1
      rw [if_pos h1]
      exact condB (by rw [decide_eq_true h1]; rfl) (condB (by unfold slB; simp; omega) (condT hd2 (scanR rfl)))
    rw [if_neg h1]
    by_cases h2 : l.getD 1 0 = 64
    · have := len2 (by decide) h2
      rw [if_pos h2]
      exact condN (by rw [decide_eq_false h1]; rfl) (condB (by rw [decide_eq_true h2]; rfl) (condB (by unfold slB; simp; omega) (condT hd2 (scanR rfl))))
    rw [if_neg h2]
    by_cases h3 : l.getD 1 0 = 104
    · have := len2 (by decide) h3
      rw [if_pos h3]
      exact condN (by rw [decide_eq_false h1]; rfl) (condN (by rw [decide_eq_false h2]; rfl) (condB (by rw [decide_eq_true h3]; rfl) (condB (by unfold slB; simp; omega) (condT hd2 (scanR rfl)))))
    rw [if_neg h3]
    exact condN (by rw [decide_eq_false h1]; rfl) (condN (by rw [decide_eq_false h2]; rfl) (condN (by rw [decide_eq_false h3]; rfl) (condB rfl rfl)))
  · rw [decide_eq_false h0, if_neg h0]
    refine condN rfl (condN rfl (condN rfl (condN rfl ?_)))
    cases hA : l.all isBl with
    | true => exact condB rfl rfl
    | false => exact condN rfl (condT hp (scanR rfl))
theorem lscan_ok (s : ByteArray) (hp : s.size ≤ 9223372036854775807) : FnOk cfg 112 ([vS s].map SV.den) (.tup [.agg [gI (((scanP s.data.toList).getD ln0)).k, gI (((scanP s.data.toList).getD ln0)).a, gI (((scanP s.data.toList).getD ln0)).b, .arr .u32 5 (((scanP s.data.toList).getD ln0)).w], tB ((scanP s.data.toList).isSome)] : SV).den := by
  obtain ⟨nn, h⟩ := lscan_run s hp
  exact FnD.ok lscan_g lscan_f mixed Tryz.func112 rfl rfl rfl rfl rfl rfl h
noncomputable def c_lscan : SpecF := fun args _ K => match args with
  | [.one (.c (.str s))] => bif decide (s.size ≤ 9223372036854775807) then K (.tup [.agg [gI (((scanP s.data.toList).getD ln0)).k, gI (((scanP s.data.toList).getD ln0)).a, gI (((scanP s.data.toList).getD ln0)).b, .arr .u32 5 (((scanP s.data.toList).getD ln0)).w], tB ((scanP s.data.toList).isSome)]) [] else none
  | _ => none
theorem c_lscan_ok : SpecOk cfg 112 c_lscan := by
  intro args bx K out h
  unfold c_lscan at h
  split at h
  · obtain ⟨hp, h⟩ := bif_some h
    exact ⟨_, _, h, .inl (lscan_ok _ (of_decide_eq_true hp) _), by simp [isTupS]⟩
  · cases h
/-! ### internal/stringslite.Cut -/
noncomputable def scut0_e : Ev' := ⟨Tryz.prog, glob, Γof [(166, c_idx1)]⟩
theorem scut0_g : Gd cfg scut0_e := gd (env_cons c_idx1_ok (env_nil _))
noncomputable def scut0_f : FnD := ⟨119, Tryz.f119, noSh, Tryz.f119.resultTypes.toList, 0⟩
theorem scut0_ent (h : Hd) (s : ByteArray) (p : ByteArray) : scut0_f.ent scut0_e [] h [vS s, vS p] [] = let v1 : Int := IntKind.i64.wrap (Lib.indexByte s.data.toList (p.data.toList.getD (0 : Nat) (0 : UInt8)) + (↑p.size : Int)); bif decide (p.size = (1 : Nat)) then bif decide ((0 : Int) ≤ Lib.indexByte s.data.toList (p.data.toList.getD (0 : Nat) (0 : UInt8))) then bif slB (0 : Int) (Lib.indexByte s.data.toList (p.data.toList.getD (0 : Nat) (0 : UInt8))) s.size then bif slB v1 (↑s.size : Int) s.size then ret (SV.tup [S1.c (Cl.str (s.extract (0 : Nat) (Lib.indexByte s.data.toList (p.data.toList.getD (0 : Nat) (0 : UInt8))).toNat)), S1.c (Cl.str (s.extract v1.toNat (↑s.size : Int).toNat)), S1.c (Cl.bool true)]) else none else none else ret (SV.tup [S1.c (Cl.str s), S1.c (Cl.str (tx [])), S1.c (Cl.bool false)]) else none := by kernel_rfl

theorem index_lt (c : UInt8) : ∀ l : List UInt8, -1 ≤ Lib.indexByte l c ∧ (0 ≤ Lib.indexByte l c → (Lib.indexByte l c).toNat < l.length)
  | [] => ⟨by simp [Lib.indexByte], fun h => absurd h (by simp [Lib.indexByte])⟩
  | b :: l => by
    obtain ⟨h1, h2⟩ := index_lt c l
    rw [Lib.indexByte]
    split
    · exact ⟨by omega, fun _ => by simp⟩
    · split
      · exact ⟨by omega, fun h => absurd h (by omega)⟩
      · rename_i hne
        have : Lib.indexByte l c ≠ -1 := fun e => hne (by rw [e]; rfl)
        exact ⟨by omega, fun _ => by have := h2 (by omega); rw [List.length_cons]; omega⟩
theorem cutR {a b a' b' : ByteArray} {t t' : Bool} (h1 : a = a') (h2 : b = b') (h3 : t = t') : (ret (.tup [.c (.str a), .c (.str b), .c (.bool t)])) = some ⟨.tup [tS a', tS b', tB t'], []⟩ := by rw [h1, h2, h3]
theorem scut0_run (s : ByteArray) (p : ByteArray) (hp : p.size = 1 ∧ s.size ≤ 9223372036854775807) : ∃ fu, scut0_f.run scut0_e [] fu [vS s, vS p] [] = some ⟨.tup [tS (if 0 ≤ Lib.indexByte s.data.toList (p.data.toList.getD 0 0) then tx (s.data.toList.take (Lib.indexByte s.data.toList (p.data.toList.getD 0 0)).toNat) else s), tS (if 0 ≤ Lib.indexByte s.data.toList (p.data.toList.getD 0 0) then tx (s.data.toList.drop ((Lib.indexByte s.data.toList (p.data.toList.getD 0 0)).toNat + 1)) else tx []), tB (decide (0 ≤ Lib.indexByte s.data.toList (p.data.toList.getD 0 0)))], []⟩ := by
  refine ⟨0, ?_⟩
  rw [FnD.run, scut0_ent]
  obtain ⟨l, rfl, hl⟩ := tx_get s
  obtain ⟨h1, h2⟩ := hp
  rw [tx_size] at h2
  dsimp only
  simp only [tx_toList, tx_size]
  obtain ⟨b1, b2⟩ := index_lt (p.data.toList.getD 0 0) l
  generalize Lib.indexByte l (p.data.toList.getD 0 0) = i at *
  refine condT h1 ?_
  by_cases h : 0 ≤ i
  · have := b2 h
    have w : IntKind.i64.wrap (i + (p.size : Nat)) = i + 1 := by rw [h1, IntWalk.i64_in _ (by omega)]; rfl
    rw [w, if_pos h, if_pos h]
    refine condT h (condB (by unfold slB; simp; omega) (condB (by unfold slB; simp; omega) (cutR ?_ ?_ (decide_eq_true h).symm)))
    · rw [tx_extract, List.drop_zero, Nat.sub_zero]
    · rw [tx_extract, Int.toNat_natCast, show (i + 1).toNat = i.toNat + 1 by omega, List.take_of_length_le (by rw [List.length_drop]; omega)]
  · rw [if_neg h, if_neg h]
    exact condF h (cutR rfl rfl (decide_eq_false h).symm)
theorem scut0_ok (s : ByteArray) (p : ByteArray) (hp : p.size = 1 ∧ s.size ≤ 9223372036854775807) : FnOk cfg 119 ([vS s, vS p].map SV.den) (.tup [tS (if 0 ≤ Lib.indexByte s.data.toList (p.data.toList.getD 0 0) then tx (s.data.toList.take (Lib.indexByte s.data.toList (p.data.toList.getD 0 0)).toNat) else s), tS (if 0 ≤ Lib.indexByte s.data.toList (p.data.toList.getD 0 0) then tx (s.data.toList.drop ((Lib.indexByte s.data.toList (p.data.toList.getD 0 0)).toNat + 1)) else tx []), tB (decide (0 ≤ Lib.indexByte s.data.toList (p.data.toList.getD 0 0)))] : SV).den := by
  obtain ⟨nn, h⟩ := scut0_run s p hp
  exact FnD.ok scut0_g scut0_f mixed Tryz.func119 rfl rfl rfl rfl rfl rfl h
noncomputable def c_scut0 : SpecF := fun args _ K => match args with
  | [.one (.c (.str s)), .one (.c (.str p))] => bif decide (p.size = 1 ∧ s.size ≤ 9223372036854775807) then K (.tup [tS (if 0 ≤ Lib.indexByte s.data.toList (p.data.toList.getD 0 0) then tx (s.data.toList.take (Lib.indexByte s.data.toList (p.data.toList.getD 0 0)).toNat) else s), tS (if 0 ≤ Lib.indexByte s.data.toList (p.data.toList.getD 0 0) then tx (s.data.toList.drop ((Lib.indexByte s.data.toList (p.data.toList.getD 0 0)).toNat + 1)) else tx []), tB (decide (0 ≤ Lib.indexByte s.data.toList (p.data.toList.getD 0 0)))]) [] else none
  | _ => none
theorem c_scut0_ok : SpecOk cfg 119 c_scut0 := by
  intro args bx K out h
  unfold c_scut0 at h
  split at h
  · obtain ⟨hp, h⟩ := bif_some h
    exact ⟨_, _, h, .inl (scut0_ok _ _ (of_decide_eq_true hp) _), by simp [isTupS]⟩
  · cases h
/-! ### strings.Cut -/
noncomputable def scut_e : Ev' := ⟨Tryz.prog, glob, Γof [(119, c_scut0)]⟩
theorem scut_g : Gd cfg scut_e := gd (env_cons c_scut0_ok (env_nil _))
noncomputable def scut_f : FnD := ⟨83, Tryz.f83, noSh, Tryz.f83.resultTypes.toList, 0⟩
theorem scut_ent (h : Hd) (s : ByteArray) (p : ByteArray) : scut_f.ent scut_e [] h [vS s, vS p] [] = bif decide (p.size = (1 : Nat) ∧ s.size ≤ (9223372036854775807 : Nat)) then ret (SV.tup [S1.c (Cl.str (if (0 : Int) ≤ Lib.indexByte s.data.toList (p.data.toList.getD (0 : Nat) (0 : UInt8)) then tx (List.take (Lib.indexByte s.data.toList (p.data.toList.getD (0 : Nat) (0 : UInt8))).toNat s.data.toList) else s)), S1.c (Cl.str (if (0 : Int) ≤ Lib.indexByte s.data.toList (p.data.toList.getD (0 : Nat) (0 : UInt8)) then tx (List.drop ((Lib.indexByte s.data.toList (p.data.toList.getD (0 : Nat) (0 : UInt8))).toNat + (1 : Nat)) s.data.toList) else tx [])), S1.c (Cl.bool (decide ((0 : Int) ≤ Lib.indexByte s.data.toList (p.data.toList.getD (0 : Nat) (0 : UInt8)))))]) else none := by kernel_rfl
theorem scut_run (s : ByteArray) (p : ByteArray) (hp : p.size = 1 ∧ s.size ≤ 9223372036854775807) : ∃ fu, scut_f.run scut_e [] fu [vS s, vS p] [] = some ⟨.tup [tS (if 0 ≤ Lib.indexByte s.data.toList (p.data.toList.getD 0 0) then tx (s.data.toList.take (Lib.indexByte s.data.toList (p.data.toList.getD 0 0)).toNat) else s), tS (if 0 ≤ Lib.indexByte s.data.toList (p.data.toList.getD 0 0) then tx (s.data.toList.drop ((Lib.indexByte s.data.toList (p.data.toList.getD 0 0)).toNat + 1)) else tx []), tB (decide (0 ≤ Lib.indexByte s.data.toList (p.data.toList.getD 0 0)))], []⟩ := by
  refine ⟨0, ?_⟩
  rw [FnD.run, scut_ent]
  exact condT hp rfl
theorem scut_ok (s : ByteArray) (p : ByteArray) (hp : p.size = 1 ∧ s.size ≤ 9223372036854775807) : FnOk cfg 83 ([vS s, vS p].map SV.den) (.tup [tS (if 0 ≤ Lib.indexByte s.data.toList (p.data.toList.getD 0 0) then tx (s.data.toList.take (Lib.indexByte s.data.toList (p.data.toList.getD 0 0)).toNat) else s), tS (if 0 ≤ Lib.indexByte s.data.toList (p.data.toList.getD 0 0) then tx (s.data.toList.drop ((Lib.indexByte s.data.toList (p.data.toList.getD 0 0)).toNat + 1)) else tx []), tB (decide (0 ≤ Lib.indexByte s.data.toList (p.data.toList.getD 0 0)))] : SV).den := by
  obtain ⟨nn, h⟩ := scut_run s p hp
  exact FnD.ok scut_g scut_f mixed Tryz.func83 rfl rfl rfl rfl rfl rfl h
noncomputable def c_scut : SpecF := fun args _ K => match args with
  | [.one (.c (.str s)), .one (.c (.str p))] => bif decide (p.size = 1 ∧ s.size ≤ 9223372036854775807) then K (.tup [tS (if 0 ≤ Lib.indexByte s.data.toList (p.data.toList.getD 0 0) then tx (s.data.toList.take (Lib.indexByte s.data.toList (p.data.toList.getD 0 0)).toNat) else s), tS (if 0 ≤ Lib.indexByte s.data.toList (p.data.toList.getD 0 0) then tx (s.data.toList.drop ((Lib.indexByte s.data.toList (p.data.toList.getD 0 0)).toNat + 1)) else tx []), tB (decide (0 ≤ Lib.indexByte s.data.toList (p.data.toList.getD 0 0)))]) [] else none
  | _ => none
theorem c_scut_ok : SpecOk cfg 83 c_scut := by
  intro args bx K out h
  unfold c_scut at h
  split at h
  · obtain ⟨hp, h⟩ := bif_some h
    exact ⟨_, _, h, .inl (scut_ok _ _ (of_decide_eq_true hp) _), by simp [isTupS]⟩
  · cases h
/-! ### lex.Lines -/
noncomputable def llines_e : Ev' := ⟨Tryz.prog, glob, Γof [(83, c_scut)]⟩
theorem llines_g : Gd cfg llines_e := gd (env_cons c_scut_ok (env_nil _))
noncomputable def llines_f : FnD := ⟨77, Tryz.f77, shOf [(0, ⟨21, [(3, ⟨.rows [.str], false, true⟩)], [], [(0, .c (.str)), (3, .c (.sl 3 1))]⟩)], Tryz.f77.resultTypes.toList, 0⟩
theorem llines_ent (h : Hd) (s : ByteArray) : llines_f.ent llines_e [] h [vS s] [] = h (0 : Nat) [Lf.r [], Lf.b true, Lf.s s] := by kernel_rfl
theorem llines_l0 (h : Hd) (r0 : List (List D)) (b1 : Bool) (s2 : ByteArray) : llines_f.seg llines_e [] h 0 [.r r0, .b b1, .s s2] = let v1 : Int := Lib.indexByte s2.data.toList ((tx [(10 : UInt8)]).data.toList.getD (0 : Nat) (0 : UInt8)); let v2 : Nat := v1.toNat; let v3 : List (List D) := List.take r0.length r0 ++ [[D.s (if (0 : Int) ≤ v1 then tx (List.take v2 s2.data.toList) else s2)]]; let v4 : Nat := v3.length; bif !eqB s2 (tx []) then bif decide ((1 : Nat) = (1 : Nat) ∧ s2.size ≤ (9223372036854775807 : Nat)) then bif b1 == b1 && true && decide (r0.length ≤ r0.length) && roomB (r0.length + (1 : Nat)) (16 : Nat) then bif nlAfter b1 (1 : Nat) == nlAfter b1 (1 : Nat) && decide (r0.length + (1 : Nat) = v4) then h (0 : Nat) [Lf.r v3, Lf.b (nlAfter b1 (1 : Nat)), Lf.s (if (0 : Int) ≤ v1 then tx (List.drop (v2 + (1 : Nat)) s2.data.toList) else tx [])] else none else none else none else bif b1 == b1 && decide (r0.length ≤ r0.length) && true then ret (c1 (Cl.rows [Kd.str] (List.take r0.length r0))) else none := by kernel_rfl

theorem push_rows {α : Type} {b nl : Bool} {l : List (List D)} {x : List D} {z : Nat} {K : Option α} (hr : roomB (l.length + 1) z = true) :
    (bif b == b && true && decide (l.length ≤ l.length) && roomB (l.length + 1) z then bif nl == nl && decide (l.length + 1 = (List.take l.length l ++ [x]).length) then K else none else none) = K := by
  rw [hr, List.take_length]
  cases b <;> cases nl <;> simp
theorem llines_loop : ∀ (k : Nat) (l : List UInt8) (rs : List (List UInt8)) (nl : Bool), l.length < k → l.length + rs.length ≤ 1000000000 →
    llines_f.H llines_e [] k 0 [.r (rs.map fun l => [.s (tx l)]), .b nl, .s (tx l)] = some ⟨c1 (.rows [.str] ((rs ++ linesP l).map fun l => [.s (tx l)])), []⟩ := by
  intro k
  induction k with
  | zero => intro l rs nl h; omega
  | succ k ih =>
    intro l rs nl hk hL
    rw [FnD.H_succ, llines_l0]
    dsimp only
    rw [eqB_tx, tx_toList, tx_size, show (tx [(10 : UInt8)]).data.toList.getD 0 0 = 10 from rfl]
    by_cases h0 : l = []
    · subst h0
      rw [List.take_length]
      refine condN rfl (condB (by cases nl <;> simp) ?_)
      rw [show linesP [] = [] from rfl, List.append_nil]
    · have e := lines_step h0
      have hlen : l.length ≠ 0 := fun e => h0 (List.length_eq_zero_iff.1 e)
      have hroom : roomB ((rs.map fun l => [D.s (tx l)]).length + 1) 16 = true := by
        unfold roomB; rw [List.length_map, Bool.and_eq_true, decide_eq_true_eq, decide_eq_true_eq]; omega
      refine condB (by rw [decide_eq_false h0]; rfl) (condT ⟨rfl, by omega⟩ ?_)
      rw [push_rows hroom, List.take_length]
      obtain ⟨b1, b2⟩ := index_lt 10 l
      by_cases hi : 0 ≤ Lib.indexByte l 10
      · rw [if_pos hi] at e
        rw [if_pos hi, if_pos hi, e]
        have := b2 hi
        have key := ih (l.drop ((Lib.indexByte l 10).toNat + 1)) (rs ++ [l.take (Lib.indexByte l 10).toNat]) (nlAfter nl 1) (by rw [List.length_drop]; omega) (by rw [List.length_drop, List.length_append, List.length_singleton]; omega)
        rw [List.map_append, List.append_assoc] at key
        exact key
      · rw [if_neg hi] at e
        rw [if_neg hi, if_neg hi, e]
        have key := ih [] (rs ++ [l]) (nlAfter nl 1) (by simp; omega) (by simp; omega)
        rw [List.map_append, show linesP [] = [] from rfl, List.append_nil] at key
        exact key
theorem llines_run (s : ByteArray) (hp : s.size ≤ 1000000000) : ∃ fu, llines_f.run llines_e [] fu [vS s] [] = some ⟨c1 (.rows [.str] ((linesP s.data.toList).map fun l => [.s (tx l)])), []⟩ := by
  obtain ⟨l, rfl, hl⟩ := tx_get s
  rw [tx_toList]
  refine ⟨l.length + 1, ?_⟩
  rw [FnD.run, llines_ent]
  exact llines_loop (l.length + 1) l [] true (by omega) (by simp; omega)
theorem llines_ok (s : ByteArray) (hp : s.size ≤ 1000000000) : FnOk cfg 77 ([vS s].map SV.den) (c1 (.rows [.str] ((linesP s.data.toList).map fun l => [.s (tx l)])) : SV).den := by
  obtain ⟨nn, h⟩ := llines_run s hp
  exact FnD.ok llines_g llines_f mixed Tryz.func77 rfl rfl rfl rfl rfl rfl h
noncomputable def c_llines : SpecF := fun args _ K => match args with
  | [.one (.c (.str s))] => bif decide (s.size ≤ 1000000000) then K (c1 (.rows [.str] ((linesP s.data.toList).map fun l => [.s (tx l)]))) [] else none
  | _ => none
theorem c_llines_ok : SpecOk cfg 77 c_llines := by
  intro args bx K out h
  unfold c_llines at h
  split at h
  · obtain ⟨hp, h⟩ := bif_some h
    exact ⟨_, _, h, .inl (llines_ok _ (of_decide_eq_true hp) _), by simp [isTupS]⟩
  · cases h
end Go.Proofs.YtldofkogmkfpjaaGreatDoor
