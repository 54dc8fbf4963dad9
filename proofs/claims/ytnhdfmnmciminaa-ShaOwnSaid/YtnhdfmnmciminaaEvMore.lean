/-
  A symbolic executor over abstract states, part 7b: more operations.
-/
import Derived.Test.YtnhdfmnmciminaaEvOps
import Derived.Laws.StructEq
namespace Go.Ev
set_option linter.unusedSimpArgs false
set_option linter.unusedVariables false

section ops
variable {C : Cfg} {dst : Option Tmp} {ty : TypeId} {pos : String} {after : Array Edge} {guard : Option (Nat × Bool)} {ρ : Operand → AV} {pre : Nat → Option Box}

/-! ### == of structs whose fields are single -/

def eqS (P : Program) (T : TypeId) : Value → Value → Option Bool
  | .int k a, .int k' b => if k = k' ∧ (tyInt P T).isSome = true then some (decide (a = b)) else none
  | .bool a, .bool b => if tyIs P T (· matches .bool) = true then some (a == b) else none
  | .string a, .string b => if tyIs P T (· matches .string) = true then some (decide (a = b)) else none
  | _, _ => none

theorem run_eqS {P : Program} {T : TypeId} {a b : Value} {r : Bool} (h : eqS P T a b = some r) (d : Nat) (w : World) : (Op.equalIn (d + 1) T a b).run P w = .ok r w := by
  unfold eqS at h
  split at h
  · rename_i k a k' b
    split at h
    · rename_i hh
      cases h
      obtain ⟨rfl, hi⟩ := hh
      unfold tyInt at hi
      split at hi
      · rename_i k' hu; rw [run_equalIn_int w d T k k' a b hu]; rfl
      · cases hi
    · cases h
  · rename_i a b
    split at h
    · rename_i hh; cases h; exact run_equalIn_bool hh d a b w
    · cases h
  · rename_i a b
    split at h
    · rename_i hh
      cases h
      unfold tyIs at hh
      split at hh
      · rename_i t hu
        cases t <;> simp at hh
        rw [run_equalIn_string w d T a b hu, ← beq_toListBytes]
        congr 1
        rw [Bool.eq_iff_iff]; simp only [decide_eq_true_eq]; exact ⟨fun e => by rw [beq_toListBytes] at e; have := eq_of_beq e; rw [ByteArray.toList_eq, ByteArray.toList_eq] at this; cases a; cases b; simp at this ⊢; exact this, fun e => by subst e; rw [beq_toListBytes]; exact beq_self_eq_true _⟩
      · cases hh
    · cases h
  · cases h

def litOf : AC → Option Value
  | .lit v => some v
  | _ => none

/-- Field by field, the i-th at the i-th cell. -/
def eqF (P : Program) : List Field → Nat → List AC → List AC → Option Bool
  | [], _, [], [] => some true
  | f :: fs, i, .lit a :: xs, .lit b :: ys =>
    if (f.name == "_") = false ∧ f.offset = i ∧ tyAgg P f.type = some false then
      match eqS P f.type a b, eqF P fs (i + 1) xs ys with
      | some r, some s => some (r && s)
      | _, _ => none
    else none
  | _, _, _, _ => none

theorem run_eqF {P : Program} (xs ys : Array Value) (d : Nat) (w : World) : ∀ (fs : List Field) (i : Nat) (as bs : List AC) (r : Bool), eqF P fs i as bs = some r →
    (∀ j, j < as.length → ∃ v, as[j]? = some (.lit v) ∧ xs[i + j]? = some v) → (∀ j, j < bs.length → ∃ v, bs[j]? = some (.lit v) ∧ ys[i + j]? = some v) →
    (Op.eqFields (d + 1) xs ys fs).run P w = .ok r w := by
  intro fs
  induction fs with
  | nil =>
    intro i as bs r h _ _
    cases as <;> cases bs <;> simp [eqF] at h
    subst h; simp [Op.eqFields]
  | cons f fs ih =>
    intro i as bs r h hx hy
    cases as with
    | nil => simp [eqF] at h
    | cons a0 as' =>
    cases bs with
    | nil => cases a0 <;> simp [eqF] at h
    | cons b0 bs' =>
    cases a0 with
    | lit a =>
      cases b0 with
      | lit b =>
        simp only [eqF] at h
        split at h
        · rename_i hh
          obtain ⟨hn, ho, ha⟩ := hh
          split at h
          · rename_i r1 s1 e1 e2
            cases h
            have hn' : f.name ≠ "_" := by simpa using hn
            obtain ⟨v, hv, hxi⟩ := hx 0 (by simp)
            obtain ⟨u, hu, hyi⟩ := hy 0 (by simp)
            simp at hv hu hxi hyi
            subst hv; subst hu
            have p1 : (part f.type xs f.offset).run P w = .ok a w := by
              simp only [part, bind, Sem.run_bind, run_isAgg ha, Result.andThen_ok, Bool.false_eq_true, if_false, ho, hxi]; rfl
            have p2 : (part f.type ys f.offset).run P w = .ok b w := by
              simp only [part, bind, Sem.run_bind, run_isAgg ha, Result.andThen_ok, Bool.false_eq_true, if_false, ho, hyi]; rfl
            have ih' := ih (i + 1) as' bs' s1 e2 (fun j hj => by
              obtain ⟨v, h1, h2⟩ := hx (j + 1) (by simpa using hj)
              exact ⟨v, by simpa using h1, by rw [show i + 1 + j = i + (j + 1) by omega]; exact h2⟩) (fun j hj => by
              obtain ⟨v, h1, h2⟩ := hy (j + 1) (by simpa using hj)
              exact ⟨v, by simpa using h1, by rw [show i + 1 + j = i + (j + 1) by omega]; exact h2⟩)
            rw [Op.eqFields]
            simp only [if_pos hn', bind, Sem.run_bind, p1, p2, run_eqS e1, Result.andThen_ok]
            cases r1
            · simp
            · simpa using ih'
          · cases h
        · cases h
      | _ => simp [eqF] at h
    | _ => simp [eqF] at h

def eqT (P : Program) (T : TypeId) (as bs : List AC) : Option Bool :=
  match P.underlying T with
  | some (.struct fs) => if P.stoodInHeld T = false ∧ P.eqGuardType P.depth T = false then eqF P fs.toList 0 as bs else none
  | _ => none

theorem RepCs_lits {μ : Nat → Nat} {M : Mem} {as : List AC} {v : Value} (h : Rep1 C μ M (.agg as) v) : ∃ xs : Array Value, v = .agg xs ∧ xs.size = as.length ∧ ∀ (j : Nat) (x : Value), as[j]? = some (AC.lit x) → xs[j]? = some x := by
  obtain ⟨vs, e, h1, h2⟩ := h
  refine ⟨vs, e, h1, fun j x hj => ?_⟩
  obtain ⟨hl, hx⟩ := List.getElem?_eq_some_iff.1 hj
  have hr := h2 j hl (by omega)
  rw [hx] at hr
  have : vs[j] = x := RepI.lit_eq hr
  rw [Array.getElem?_eq_getElem (by omega), this]

theorem eqF_lits {P : Program} : ∀ (fs : List Field) (i : Nat) (as bs : List AC) (r : Bool), eqF P fs i as bs = some r → (∀ j, j < as.length → ∃ v, as[j]? = some (AC.lit v)) ∧ (∀ j, j < bs.length → ∃ v, bs[j]? = some (AC.lit v)) := by
  intro fs
  induction fs with
  | nil =>
    intro i as bs r h
    cases as <;> cases bs <;> simp [eqF] at h
    simp
  | cons f fs ih =>
    intro i as bs r h
    cases as with
    | nil => simp [eqF] at h
    | cons a0 as' =>
    cases bs with
    | nil => cases a0 <;> simp [eqF] at h
    | cons b0 bs' =>
    cases a0 with
    | lit a =>
      cases b0 with
      | lit b =>
        simp only [eqF] at h
        split at h
        · split at h
          · rename_i r1 s1 e1 e2
            obtain ⟨h1, h2⟩ := ih _ _ _ _ e2
            refine ⟨fun j hj => ?_, fun j hj => ?_⟩
            · cases j with
              | zero => exact ⟨a, rfl⟩
              | succ j => simpa using h1 j (by simpa using hj)
            · cases j with
              | zero => exact ⟨b, rfl⟩
              | succ j => simpa using h2 j (by simpa using hj)
          · cases h
        · cases h
      | _ => simp [eqF] at h
    | _ => simp [eqF] at h

theorem ok_eq_agg {op : BinOp} {T T' : TypeId} {x y : Operand} {as bs : List AC} {r : Bool} (hop : op = .eql ∨ op = .neq) (hx : ρ x = .agg as) (hy : ρ y = .agg bs) (h : eqT C.P T as bs = some r) :
    OpOk C ⟨dst, .binOp op T x y T', ty, pos, after, guard⟩ ρ [] pre (.c (.lit (.bool (r == decide (op = .eql))))) [] :=
  opOk_pure fun μ M ac _ hr => by
    have h1 := hr x (by simp [Op.operands]); rw [hx] at h1
    have h2 := hr y (by simp [Op.operands]); rw [hy] at h2
    obtain ⟨xs, ex, _, hxs⟩ := RepCs_lits h1
    obtain ⟨ys, ey, _, hys⟩ := RepCs_lits h2
    unfold eqT at h
    split at h
    · rename_i fs hu
      split at h
      · rename_i hh
        obtain ⟨l1, l2⟩ := eqF_lits _ _ _ _ _ h
        have hf : C.P.fieldsOf T = fs := by simp [Program.fieldsOf, hu]
        have he : (Op.equalIn 10000 T (.agg xs) (.agg ys)).run C.P M.w = .ok r M.w := by
          rw [run_equalIn_struct (P := C.P) M.w 9999 T xs ys (by rw [hf]; exact hu) hh.1, hf]
          exact run_eqF xs ys 9998 M.w fs.toList 0 as bs r h (fun j hj => by obtain ⟨v, e⟩ := l1 j hj; exact ⟨v, e, by rw [Nat.zero_add]; exact hxs j v e⟩)
            (fun j hj => by obtain ⟨v, e⟩ := l2 j hj; exact ⟨v, e, by rw [Nat.zero_add]; exact hys j v e⟩)
        refine ⟨.bool (r == decide (op = .eql)), ?_, RepI.lit _⟩
        rcases hop with rfl | rfl
        · simp only [execOp, ex, ey, bind, Sem.run_bind, run_eqGuard_agg M.w .eql T x y xs ys hh.2, Result.andThen_ok, run_eql_struct, he]; cases r <;> rfl
        · simp only [execOp, ex, ey, bind, Sem.run_bind, run_eqGuard_agg M.w .neq T x y xs ys hh.2, Result.andThen_ok, run_neq_struct, he]; cases r <;> rfl
      · cases h
    · cases h

/-! ### min, max -/

theorem ok_min {x y : Operand} {k k' : IntKind} {a b : Int} {ats : Array TypeId} (hx : ρ x = .c (.lit (.int k a))) (hy : ρ y = .c (.lit (.int k' b))) :
    OpOk C ⟨dst, .call ⟨.builtin .min, #[x, y], ats⟩, ty, pos, after, guard⟩ ρ [] pre (.c (.lit (.int k (if b < a then b else a)))) [] :=
  opOk_pure fun μ M ac _ hr => by
    have h1 := hr x (by simp [Op.operands, Call.operands]); rw [hx] at h1
    have h2 := hr y (by simp [Op.operands, Call.operands]); rw [hy] at h2
    have h1 : ac.eval x = .int k a := RepI.lit_eq h1
    have h2 : ac.eval y = .int k' b := RepI.lit_eq h2
    refine ⟨.int k (if b < a then b else a), ?_, RepI.lit _⟩
    simp [execOp, resolve, invoke, builtin, Builtin.min_, Builtin.min2, h1, h2]
theorem ok_max {x y : Operand} {k k' : IntKind} {a b : Int} {ats : Array TypeId} (hx : ρ x = .c (.lit (.int k a))) (hy : ρ y = .c (.lit (.int k' b))) :
    OpOk C ⟨dst, .call ⟨.builtin .max, #[x, y], ats⟩, ty, pos, after, guard⟩ ρ [] pre (.c (.lit (.int k (if a < b then b else a)))) [] :=
  opOk_pure fun μ M ac _ hr => by
    have h1 := hr x (by simp [Op.operands, Call.operands]); rw [hx] at h1
    have h2 := hr y (by simp [Op.operands, Call.operands]); rw [hy] at h2
    have h1 : ac.eval x = .int k a := RepI.lit_eq h1
    have h2 : ac.eval y = .int k' b := RepI.lit_eq h2
    refine ⟨.int k (if a < b then b else a), ?_, RepI.lit _⟩
    simp [execOp, resolve, invoke, builtin, Builtin.max_, Builtin.max2, h1, h2]

/-! ### a new slice -/

/-- A new row, and a slice over all of it. -/
theorem ok_newSl {op : Op} {d n sz : Nat} {cs : List AC} (hd : pre d = none) (hm : menL d cs = false) (hsz : n * sz ≤ cs.length)
    (h : ∀ μ M (a : Act), Wf C M → (∀ x ∈ op.operands, RepV C μ M (ρ x) (a.eval x)) → ∃ vs T, RepCs C μ M cs vs ∧
      (execOp a.eval ⟨some d, op, ty, pos, after, guard⟩).run C.P M.w = .ok (.value (.slice (some ⟨M.w.heap.size, 0, none⟩) n n)) { M.w with heap := M.w.heap.push (.cells vs T) }) :
    OpOk C ⟨some d, op, ty, pos, after, guard⟩ ρ [] pre (.c (.sl d n sz false)) [(d, some { cells := cs })] := by
  intro μ M a next Q wf hr _ _ k
  obtain ⟨vs, T, hvs, e⟩ := h μ M a wf hr
  unfold Oper.wp
  rw [e]
  have t := new_trans (C := C) (μ := μ) wf hd (.cells vs T)
  refine k (.slice (some ⟨M.w.heap.size, 0, none⟩) n n) (upd μ d M.w.heap.size) _ ?_ t ?_ ?_ ?_
  · refine ⟨n, vs, T, (0, 0), by simp [upd], Nat.le_refl _, by simp [upd], by rw [hvs.1]; exact hsz, ?_⟩
    simp only [upd, if_true]
    intro hs; exact absurd (wf.sp _ hs) (Nat.lt_irrefl _)
  · intro b hb bx hbx
    simp [wrOf] at hb
    subst hb
    simp [postOf] at hbx
    subst hbx
    exact rep_new wf hd T hm hvs
  · intro x hx _
    simp [wrOf] at hx
    subst hx
    left; simp [upd]
  · intro x hx y hy _ _ _
    simp [wrOf] at hx hy
    rw [hx, hy]

/-- An element's size, and the cells of so many zeros. -/
def rowZ (P : Program) (T : TypeId) (len : Nat) : Option (Nat × List AC) :=
  match tySlice P T with
  | some E => match tySize P E with
    | some n => if len * n > 2 ^ 24 then none else
      if len * n = 0 then some (n, []) else
      match tyZero P E with
      | some z => some (n, (List.range (len * n)).map fun i => .lit z.cells[i % z.cells.size]!)
      | none => none
    | none => none
  | none => none

theorem fillA_length {place : Nat → Option (Nat × Nat)} : ∀ (parts : List (Nat × AV)) (cells r : List AC), fillA place cells parts = some r → r.length = cells.length := by
  intro parts
  induction parts with
  | nil => intro cells r h; simp [fillA] at h; rw [h]
  | cons p parts ih =>
    intro cells r h
    obtain ⟨i, v⟩ := p
    simp only [fillA] at h
    split at h
    · rename_i off size cs _ _
      split at h
      · cases h
      · rename_i hh
        have := ih _ _ h
        rw [this]
        simp only [List.length_append, List.length_take, List.length_drop]
        omega
    · cases h

theorem ok_buildSlice {T : TypeId} {len d n : Nat} {parts : Array (Nat × Operand)} {z cs : List AC} (hd : pre d = none) (hz : rowZ C.P T len = some (n, z))
    (hf : fillA (fun i => some (i * n, n)) z (parts.toList.map fun p => (p.1, ρ p.2)) = some cs) (hm : menL d cs = false) :
    OpOk C ⟨some d, .buildSlice T len parts, ty, pos, after, guard⟩ ρ [] pre (.c (.sl d len n false)) [(d, some { cells := cs })] := by
  unfold rowZ at hz
  split at hz
  · rename_i E hE
    split at hz
    · rename_i n' hn
      split at hz
      · cases hz
      · rename_i hbig
        have hu : C.P.underlying T = some (.slice E) := by
          unfold tySlice at hE
          split at hE
          · cases hE; assumption
          · cases hE
        have key : ∀ (zc : Array Value), z = (List.range (len * n)).map (fun i => AC.lit zc[i % zc.size]!) → n' = n →
            ((len * n' = 0 ∧ zc = #[]) ∨ (len * n' ≠ 0 ∧ ∃ zv, tyZero C.P E = some zv ∧ zc = zv.cells)) →
            OpOk C ⟨some d, .buildSlice T len parts, ty, pos, after, guard⟩ ρ [] pre (.c (.sl d len n false)) [(d, some { cells := cs })] := by
          intro zc ez en ezr
          subst en
          refine ok_newSl hd hm (by rw [fillA_length _ _ _ hf, ez]; simp) fun μ M a _ hr => ?_
          obtain ⟨us, e, hus⟩ := fill_rep (C := C) (μ := μ) (M := M) (parts.toList.map fun p => (p.1, ρ p.2)) (parts.toList.map fun p => (p.1, a.eval p.2)) z ((Array.range (len * n')).map fun i => zc[i % zc.size]!) cs (by simp)
            (fun i h h' => ⟨by simp, by
              have hi : i < parts.size := by simpa using h
              have := hr parts[i].2 (by simp only [Op.operands, List.mem_toArray, List.mem_map]; exact ⟨parts[i], by simp [Array.getElem_mem], rfl⟩)
              simpa using this⟩)
            ⟨by simp [ez], fun i h1 h2 => by subst ez; simp only [List.getElem_map, Array.getElem_map, List.getElem_range, Array.getElem_range]; exact RepI.lit _⟩ hf
          refine ⟨us, E, hus, ?_⟩
          have hparts : (parts.map fun (x : Nat × Operand) => (x.1, a.eval x.2)).toList = parts.toList.map fun p => (p.1, a.eval p.2) := by simp
          have hs : (sizeOf E).run C.P M.w = .ok n' M.w := run_sizeOf hn M.w
          have hp : ∀ {α : Type} (v : α) (w : World), (Sem.pure v : Sem α).run C.P w = .ok v w := fun _ _ => rfl
          rcases ezr with ⟨h0, rfl⟩ | ⟨h0, zv, hzv, rfl⟩
          · simp only [execOp, Instr.buildSlice, Sem.run_bind', bind, run_underlying hu, Result.andThen_ok, hs, if_neg hbig, if_pos h0, Sem.run_pure, pure, hparts]
            simp only [hp, Result.andThen_ok]
            simp only [e]
            rfl
          · simp only [execOp, Instr.buildSlice, Sem.run_bind', bind, run_underlying hu, Result.andThen_ok, hs, if_neg hbig, if_neg h0, run_zero hzv, Sem.run_pure, pure, hparts]
            simp only [hp, Result.andThen_ok]
            simp only [e]
            rfl
        split at hz
        · rename_i h0
          simp only [Option.some.injEq, Prod.mk.injEq] at hz
          obtain ⟨rfl, rfl⟩ := hz
          exact key #[] (by simp [h0]) rfl (.inl ⟨h0, rfl⟩)
        · rename_i h0
          split at hz
          · rename_i zv hzv
            simp only [Option.some.injEq, Prod.mk.injEq] at hz
            obtain ⟨rfl, rfl⟩ := hz
            exact key zv.cells rfl rfl (.inr ⟨h0, zv, hzv, rfl⟩)
          · cases hz
    · cases hz
  · cases hz
end ops
end Go.Ev
