/-
  The contracts of a text's builder.
-/
import Derived.Test.YtldofkogmkfpjaaGreatDoorWZzSyScShelf
import Derived.Test.YtldofkogmkfpjaaGreatDoorWSyBld
namespace Go.Proofs.YtldofkogmkfpjaaGreatDoor
open Go Go.Ev Go.Sy
set_option linter.unusedSimpArgs false
set_option linter.unusedVariables false
set_option maxRecDepth 10000
set_option maxHeartbeats 4000000
/-- A builder: used or not; what it holds its bytes in. -/
def bldB (q : Nat) (u : Bool) (x : Cl) : SB := ⟨.sg [.c (.bself 98 q u), .c x], 0, false⟩
def bytB (l : List Int) : SB := ⟨.ints .u8 l, 0, false⟩
noncomputable def c_cpc : SpecF := fun args bx K => match args with
  | [.one (.c (.ptr q 0))] => match bx q with
    | some ⟨.sg [.c (.bself T b u), .c x], 0, false⟩ => bif Nat.beq b q && Nat.beq T 98 then K (.tup []) [(q, some (bldB q true x))] else none
    | _ => none
  | _ => none
noncomputable def c_bstr : SpecF := fun args bx K => match args with
  | [.one (.c (.ptr q 0))] => match bx q with
    | some ⟨.sg [.c (.bself T b u), .c x], 0, false⟩ => bif Nat.beq b q && Nat.beq T 98 then (match x with
      | .tsl T2 B n nl => match bx B with
        | some ⟨.ints .u8 l, pub, nl'⟩ => bif !Nat.beq q B && Nat.beq T2 5 then bif (nl == nl') && decide (n = l.length) then
            (bif nl then (bif decide (l = []) then K (vS (tx [])) [(q, none), (B, none)] else none)
             else (bif decide (l = bytesI (textOf l) ∧ l ≠ [] ∧ l.length ≤ 140737488355328) then K (vS (textOf l)) [(q, none), (B, none)] else none)) else none else none
        | _ => none
      | .val (.slice none 0 0) => K (vS (tx [])) [(q, none)]
      | _ => none) else none
    | _ => none
  | _ => none
theorem c_cpc_ok : SpecOk cfg 109 c_cpc := by
  intro args bx K out h
  unfold c_cpc at h
  split at h
  · split at h
    · rename_i hb
      obtain ⟨g, h1⟩ := bif_some h
      clear h
      simp only [Bool.and_eq_true] at g
      have e1 := Nat.eq_of_beq_eq_true g.1
      have e2 := Nat.eq_of_beq_eq_true g.2
      clear g
      subst e1 e2
      exact ⟨_, _, h1, .inl (fnOkB_check (ρ := Tryz.l_Lays_n156_ren) { Tryz.l_Lays_n156 with } X156.toX72 ⟨_, Tryz.func109, rfl, rfl⟩ (by simp [denB, hb]; rfl)), by simp [isTupS]⟩
    · cases h
  · cases h
theorem bytes_map (s : ByteArray) : IL .u8 (bytesI s) = s.data.toList.map fun x => AC.lit (.int .u8 x.toNat) := by
  unfold IL bytesI
  rw [List.map_map]; rfl
theorem c_bstr_ok : SpecOk cfg 76 c_bstr := by
  intro args bx K out h
  unfold c_bstr at h
  split at h
  rotate_left
  · cases h
  split at h
  rotate_left
  · cases h
  rename_i hq
  obtain ⟨g, h1⟩ := bif_some h
  clear h
  simp only [Bool.and_eq_true] at g
  have e1 := Nat.eq_of_beq_eq_true g.1
  have e2 := Nat.eq_of_beq_eq_true g.2
  subst e1 e2
  split at h1
  · split at h1
    · rename_i hB
      obtain ⟨g1, h2⟩ := bif_some h1
      clear h1
      obtain ⟨g2, h⟩ := bif_some h2
      clear h2
      simp only [Bool.and_eq_true, Bool.not_eq_true', beq_iff_eq, decide_eq_true_eq] at g1 g2
      have e3 := Nat.eq_of_beq_eq_true g1.2
      obtain ⟨rfl, rfl⟩ := g2
      subst e3
      rcases bif_or h with ⟨g, h3⟩ | ⟨g, h3⟩
      · subst g
        obtain ⟨g4, h⟩ := bif_some h3
        have g4 := of_decide_eq_true g4
        subst g4
        exact ⟨_, _, h, .inl (FnOkB.also (fnOkB_string0 (ρ := Tryz.l_Lays_n156_ren) { Tryz.l_Lays_n156 with } X156 ⟨_, Tryz.func76, rfl, rfl⟩ (.inr ⟨_, _, rfl⟩) (by simp [denB, hq]; rfl)) _), by simp [isTupS]⟩
      · subst g
        obtain ⟨g4, h⟩ := bif_some h3
        obtain ⟨a1, a2, a3⟩ := of_decide_eq_true g4
        rename_i b0 u0 _ B0 _ l pub _
        have a4 : (textOf l).data.toList ≠ [] := fun e => a2 (by rw [a1]; unfold bytesI; rw [e]; rfl)
        have a5 : l.length = (textOf l).data.toList.length := by conv => lhs; rw [a1]; unfold bytesI; rw [List.length_map]
        have := fnOkB_string (C := cfg) (ρ := Tryz.l_Lays_n156_ren) { Tryz.l_Lays_n156 with } X156 ⟨_, Tryz.func76, rfl, rfl⟩ (b := b0) (u := u0) (B := B0) (pub := pub) (l := (textOf l).data.toList) (pre := denB bx) a4 (by rw [← a5]; exact a3) (by rw [← a5]; simp [denB, hq]; rfl) (by
          rw [← bytes_map, ← a1]; simp [denB, hB]; rfl)
        rw [bytes_eta] at this
        exact ⟨_, _, h, .inl this, by simp [isTupS]⟩
    · cases h1
  · exact ⟨_, _, h1, .inl (fnOkB_string0 (ρ := Tryz.l_Lays_n156_ren) { Tryz.l_Lays_n156 with } X156 ⟨_, Tryz.func76, rfl, rfl⟩ (.inl rfl) (by simp [denB, hq]; rfl)), by simp [isTupS]⟩
  · cases h1
/-! ### (*strings.Builder).WriteString -/
noncomputable def wsn_e : Ev' := ⟨Tryz.prog, glob, Γof [(109, c_cpc)]⟩
theorem wsn_g : Gd cfg wsn_e := gd (env_cons c_cpc_ok (env_nil _))
noncomputable def wsn_f : FnD := ⟨72, Tryz.f72, noSh, Tryz.f72.resultTypes.toList, 1⟩
theorem wsn_ent (h : Hd) (u : Bool) (c : UInt8) (l : List UInt8) : wsn_f.ent wsn_e [19] h [c1 (.ptr 19 0), vS (tx (c :: l))] [⟨.sg [.c (.bself 98 19 u), .c (.val (.slice none 0 0))], 0, false⟩] = bif roomB (tx (c :: l)).size (1 : Nat) then some { r := SV.tup [tI (↑(tx (c :: l)).size : Int), S1.c (Cl.val Value.nilIface)], bs := [{ ct := Ct.sg [Sg.c (Cl.bself (98 : Nat) (19 : Nat) true), Sg.c (Cl.tsl (5 : Nat) (14 : Nat) (tx (c :: l)).size false)], pub := (0 : Nat), nl := false }, { ct := Ct.ints IntKind.u8 (bytesI (tx (c :: l))), pub := (0 : Nat), nl := false }] } else none := by kernel_rfl
theorem wsn_run (u : Bool) (c : UInt8) (l : List UInt8) (hp : l.length ≤ 1099511627776) : ∃ fu, wsn_f.run wsn_e [19] fu [c1 (.ptr 19 0), vS (tx (c :: l))] [⟨.sg [.c (.bself 98 19 u), .c (.val (.slice none 0 0))], 0, false⟩] = some ⟨.tup [tI (l.length + 1), .c (.val .nilIface)], [bldB 19 true (.tsl 5 14 (l.length + 1) false), bytB (bytesI (tx (c :: l)))]⟩ := by
  refine ⟨0, ?_⟩
  rw [FnD.run, wsn_ent]
  refine condB ?_ ?_
  · unfold roomB; rw [Bool.and_eq_true, decide_eq_true_eq, decide_eq_true_eq]
    rw [tx_size, List.length_cons]
    constructor <;> omega
  · rfl
/-! ### (*strings.Builder).WriteString -/
noncomputable def wso_e : Ev' := ⟨Tryz.prog, glob, Γof [(109, c_cpc)]⟩
theorem wso_g : Gd cfg wso_e := gd (env_cons c_cpc_ok (env_nil _))
noncomputable def wso_f : FnD := ⟨72, Tryz.f72, noSh, Tryz.f72.resultTypes.toList, 1⟩
theorem wso_ent (h : Hd) (u : Bool) (s : ByteArray) (l : List Int) : wso_f.ent wso_e [19, 20] h [c1 (.ptr 19 0), vS s] [⟨.sg [.c (.bself 98 19 u), .c (.tsl 5 20 l.length false)], 0, false⟩, ⟨.ints .u8 l, 0, false⟩] = bif decide (l.length ≤ l.length) && roomB (l.length + s.size) (1 : Nat) then some { r := SV.tup [tI (↑s.size : Int), S1.c (Cl.val Value.nilIface)], bs := [{ ct := Ct.sg [Sg.c (Cl.bself (98 : Nat) (19 : Nat) true), Sg.c (Cl.tsl (5 : Nat) (14 : Nat) (l.length + s.size) false)], pub := (0 : Nat), nl := false }, { ct := Ct.ints IntKind.u8 (List.take l.length l ++ bytesI s), pub := (0 : Nat), nl := false }] } else none := by kernel_rfl
theorem wso_run (u : Bool) (s : ByteArray) (l : List Int) (hp : s.size ≤ 1099511627776 ∧ l.length ≤ 1099511627776) : ∃ fu, wso_f.run wso_e [19, 20] fu [c1 (.ptr 19 0), vS s] [⟨.sg [.c (.bself 98 19 u), .c (.tsl 5 20 l.length false)], 0, false⟩, ⟨.ints .u8 l, 0, false⟩] = some ⟨.tup [tI s.size, .c (.val .nilIface)], [bldB 19 true (.tsl 5 14 (l.length + s.size) false), bytB (l ++ bytesI s)]⟩ := by
  refine ⟨0, ?_⟩
  rw [FnD.run, wso_ent]
  rw [List.take_length]
  refine condB ?_ rfl
  unfold roomB
  simp only [Bool.and_eq_true, decide_eq_true_eq]
  refine ⟨Nat.le_refl _, ?_, ?_⟩ <;> omega

/-- WriteString of a text that is not empty, where the caller has the number fr free. -/
noncomputable def c_ws (fr : Nat) : SpecF := fun args bx K => match args with
  | [.one (.c (.ptr q 0)), .one (.c (.str s))] => match bx q with
    | some ⟨.sg [.c (.bself T b u), .c x], 0, false⟩ => bif Nat.beq b q && (Nat.beq T 98 && (isNone (bx fr) && decide (0 < s.size ∧ s.size ≤ 1099511627776))) then (match x with
      | .tsl T2 B n nl => match bx B with
        | some ⟨.ints .u8 l, 0, nl'⟩ => bif !Nat.beq q B && Nat.beq T2 5 then bif (nl == nl') && decide (n = l.length) then
            (bif nl then (bif decide (l = []) then K (.tup [tI s.size, .c (.val .nilIface)]) [(q, some (bldB q true (.tsl 5 fr s.size false))), (B, none), (fr, some (bytB (bytesI s)))] else none)
             else (bif decide (l.length ≤ 1099511627776) then K (.tup [tI s.size, .c (.val .nilIface)]) [(q, some (bldB q true (.tsl 5 fr (l.length + s.size) false))), (B, none), (fr, some (bytB (l ++ bytesI s)))] else none)) else none else none
        | _ => none
      | .val (.slice none 0 0) => K (.tup [tI s.size, .c (.val .nilIface)]) [(q, some (bldB q true (.tsl 5 fr s.size false))), (fr, some (bytB (bytesI s)))]
      | _ => none) else none
    | _ => none
  | _ => none
theorem ws_nd {a b : Nat} (h1 : a ≠ b) : [a, b].Nodup := by simp [h1]
theorem ws_nil {pre : Nat → Option Box} {q fr : Nat} {u : Bool} {a : AC} (c : UInt8) (l : List UInt8) (hl : l.length ≤ 1099511627776) (hq : pre q = some ⟨[.bself 98 q u, a], 0, false, false, none⟩) (ha : a = .lit (.slice none 0 0) ∨ ∃ B, a = .tsl 5 B 0 true) (hf : pre fr = none)
    (ups : List (Nat × Option SB)) (hu1 : q ∈ ups.map (·.1)) (hu2 : fr ∈ ups.map (·.1)) (hu3 : ∀ b bx, (b, some bx) ∈ ups → b = q ∧ bx = bldB q true (.tsl 5 fr (l.length + 1) false) ∨ b = fr ∧ bx = bytB (bytesI (tx (c :: l)))) :
    FnOkB cfg 72 ([c1 (.ptr q 0), vS (tx (c :: l))].map SV.den) pre (SV.tup [tI (l.length + 1), .c (.val .nilIface)]).den (denU ups) := by
  obtain ⟨nn, hr⟩ := wsn_run u c l hl
  have nqf : q ≠ fr := fun e => by rw [e, hf] at hq; cases hq
  refine FnD.okM2 (ins := [⟨19, q, ⟨.sg [.c (.bself 98 19 u), .c (.val (.slice none 0 0))], 0, false⟩⟩]) (outs := [⟨19, q, bldB 19 true (.tsl 5 14 (l.length + 1) false)⟩, ⟨14, fr, bytB (bytesI (tx (c :: l)))⟩]) wsn_g wsn_f mixed Tryz.func72 rfl rfl rfl rfl rfl rfl hr rfl rfl
    (by simp; exact Nat.le_refl _) (show [19].Nodup by decide) (by simp) (show [19, 14].Nodup by decide) (ws_nd nqf) pre (fun y hy => ?_) (fun y hy => ?_) ups (by simpa using hu1) (fun y hy => ?_) (fun b bx hb => ?_)
  · simp only [List.mem_cons, List.not_mem_nil, or_false] at hy
    subst hy
    refine ⟨_, hq, rfl, fun μ M h => RepB.le (l := [.bself 98 q u, a]) ?_ h⟩
    refine .cons (fun _ _ _ _ h => h) (.cons ?_ .nil)
    rcases ha with rfl | ⟨B, rfl⟩
    · exact fun _ _ _ _ h => h
    · exact fun C μ M v h => by
        rw [show v = .slice none 0 0 from h.2]; exact RepI.lit _
  · simp only [List.mem_cons, List.not_mem_nil, or_false] at hy
    rcases hy with rfl | rfl
    · exact ⟨rfl, .inl ⟨_, List.mem_cons_self .., rfl, rfl⟩, rfl⟩
    · exact ⟨rfl, .inr ⟨by show 14 < 19; decide, hf⟩, rfl⟩
  · simp only [List.mem_cons, List.not_mem_nil, or_false] at hy
    rcases hy with rfl | rfl
    · exact hu1
    · exact hu2
  · rcases hu3 b bx hb with ⟨rfl, rfl⟩ | ⟨rfl, rfl⟩
    · exact ⟨_, List.mem_cons_self .., rfl, rfl⟩
    · exact ⟨_, List.mem_cons_of_mem _ (List.mem_cons_self ..), rfl, rfl⟩
theorem ws_own {pre : Nat → Option Box} {q fr B : Nat} {u : Bool} (s : ByteArray) (l : List Int) (hs : s.size ≤ 1099511627776) (hl : l.length ≤ 1099511627776) (hq : pre q = some ⟨[.bself 98 q u, .tsl 5 B l.length false], 0, false, false, none⟩) (hB : pre B = some (bytB l).den) (hqB : q ≠ B) (hf : pre fr = none) :
    FnOkB cfg 72 ([c1 (.ptr q 0), vS s].map SV.den) pre (SV.tup [tI s.size, .c (.val .nilIface)]).den (denU [(q, some (bldB q true (.tsl 5 fr (l.length + s.size) false))), (B, none), (fr, some (bytB (l ++ bytesI s)))]) := by
  obtain ⟨nn, hr⟩ := wso_run u s l ⟨hs, hl⟩
  have nqf : q ≠ fr := fun e => by rw [e, hf] at hq; cases hq
  refine FnD.okM2 (ins := [⟨19, q, ⟨.sg [.c (.bself 98 19 u), .c (.tsl 5 20 l.length false)], 0, false⟩⟩, ⟨20, B, bytB l⟩]) (outs := [⟨19, q, bldB 19 true (.tsl 5 14 (l.length + s.size) false)⟩, ⟨14, fr, bytB (l ++ bytesI s)⟩]) wso_g wso_f mixed Tryz.func72 rfl rfl rfl rfl rfl rfl hr rfl rfl
    (by simp [bytB]; exact ⟨Nat.le_refl _, by decide⟩) (show [19, 20].Nodup by decide) (ws_nd hqB) (show [19, 14].Nodup by decide) (ws_nd nqf) pre (fun y hy => ?_) (fun y hy => ?_) _ (fun y hy => ?_) (fun y hy => ?_) (fun b bx hb => ?_)
  · simp only [List.mem_cons, List.not_mem_nil, or_false] at hy
    rcases hy with rfl | rfl
    · exact ⟨_, hq, rfl, fun μ M h => h⟩
    · exact ⟨_, hB, rfl, fun μ M h => h⟩
  · simp only [List.mem_cons, List.not_mem_nil, or_false] at hy
    rcases hy with rfl | rfl
    · exact ⟨rfl, .inl ⟨_, List.mem_cons_self .., rfl, rfl⟩, rfl⟩
    · exact ⟨rfl, .inr ⟨by show 14 < 19; decide, hf⟩, rfl⟩
  · simp only [List.mem_cons, List.not_mem_nil, or_false] at hy
    rcases hy with rfl | rfl <;> simp
  · simp only [List.mem_cons, List.not_mem_nil, or_false] at hy
    rcases hy with rfl | rfl <;> simp
  · simp only [List.mem_cons, List.not_mem_nil, or_false, Prod.mk.injEq, Option.some.injEq, reduceCtorEq, and_false, false_or] at hb
    rcases hb with ⟨rfl, rfl⟩ | ⟨rfl, rfl⟩
    · exact ⟨_, List.mem_cons_self .., rfl, rfl⟩
    · exact ⟨_, List.mem_cons_of_mem _ (List.mem_cons_self ..), rfl, rfl⟩
theorem c_ws_ok (fr : Nat) : SpecOk cfg 72 (c_ws fr) := by
  intro args bx K out h
  unfold c_ws at h
  split at h
  rotate_left
  · cases h
  split at h
  rotate_left
  · cases h
  rename_i hq
  obtain ⟨g, h1⟩ := bif_some h
  clear h
  simp only [Bool.and_eq_true, decide_eq_true_eq] at g
  obtain ⟨g1, g2, g3, g4, g5⟩ := g
  have e1 := Nat.eq_of_beq_eq_true g1
  have e2 := Nat.eq_of_beq_eq_true g2
  subst e1 e2
  have hf : denB bx fr = none := denB_none g3
  rename_i s _ b u x
  obtain ⟨l0, rfl, hl0⟩ := tx_get s
  cases l0 with
  | nil => rw [tx_size] at g4; exact absurd g4 (by decide)
  | cons c0 l0 =>
  rw [tx_size, List.length_cons] at g5
  split at h1
  · split at h1
    · rename_i hB
      obtain ⟨g6, h2⟩ := bif_some h1
      clear h1
      obtain ⟨g7, h⟩ := bif_some h2
      clear h2
      simp only [Bool.and_eq_true, Bool.not_eq_true', beq_iff_eq, decide_eq_true_eq] at g6 g7
      have e3 := Nat.eq_of_beq_eq_true g6.2
      have nqB : b ≠ _ := fun e => by have := g6.1; rw [e, Nat.beq_refl] at this; cases this
      obtain ⟨rfl, rfl⟩ := g7
      subst e3
      rcases bif_or h with ⟨g, h3⟩ | ⟨g, h3⟩
      · subst g
        obtain ⟨g8, h⟩ := bif_some h3
        have g8 := of_decide_eq_true g8
        subst g8
        refine ⟨_, _, h, .inl ?_, by simp [isTupS]⟩
        have hsz : ((tx (c0 :: l0)).size : Int) = l0.length + 1 := by rw [tx_size]; rfl
        rw [hsz, tx_size, List.length_cons]
        refine ws_nil c0 l0 (by omega) (u := u) (by simp [denB, hq]; rfl) (.inr ⟨_, rfl⟩) hf _ (by simp) (by simp) (fun b' bx hb => ?_)
        simp only [List.mem_cons, List.not_mem_nil, or_false, Prod.mk.injEq, Option.some.injEq, reduceCtorEq, and_false, false_or] at hb
        exact hb
      · subst g
        obtain ⟨g8, h⟩ := bif_some h3
        have g8 := of_decide_eq_true g8
        exact ⟨_, _, h, .inl (ws_own (u := u) _ _ (by rw [tx_size, List.length_cons]; exact g5) g8 (by simp [denB, hq]; rfl) (by simp [denB, hB]; rfl) nqB hf), by simp [isTupS]⟩
    · cases h1
  · refine ⟨_, _, h1, .inl ?_, by simp [isTupS]⟩
    have hsz : ((tx (c0 :: l0)).size : Int) = l0.length + 1 := by rw [tx_size]; rfl
    rw [hsz, tx_size, List.length_cons]
    refine ws_nil c0 l0 (by omega) (u := u) (by simp [denB, hq]; rfl) (.inl rfl) hf _ (by simp) (by simp) (fun b' bx hb => ?_)
    simp only [List.mem_cons, List.not_mem_nil, or_false, Prod.mk.injEq, Option.some.injEq] at hb
    exact hb
  · cases h1
noncomputable def c_ws13 : SpecF := fun args bx K => bif isNone (bx 13) then c_ws 13 args bx K else c_ws 15 args bx K
theorem c_ws13_ok : SpecOk cfg 72 c_ws13 := by
  intro args bx K out h
  unfold c_ws13 at h
  rcases bif_or h with ⟨_, h⟩ | ⟨_, h⟩
  · exact c_ws_ok _ args bx K out h
  · exact c_ws_ok _ args bx K out h
end Go.Proofs.YtldofkogmkfpjaaGreatDoor
