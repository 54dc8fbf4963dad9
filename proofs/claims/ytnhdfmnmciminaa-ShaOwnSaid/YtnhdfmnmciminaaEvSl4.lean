/-
  A symbolic executor over abstract states, part 7f: what is published; calls that are handed slices of one's own; function values; new slices; texts and bytes.
-/
import Derived.Test.YtnhdfmnmciminaaEvSl3
namespace Go.Ev
set_option linter.unusedSimpArgs false
set_option linter.unusedVariables false

/-- A box that nobody writes any more. -/
def pubB (bx : Box) : Box := { bx with pub := bx.cells.length }

/-- Memory in which the boxes bs are written by nobody any more. -/
def pubM (M : Mem) (μ : Nat → Nat) (pre : Nat → Option Box) (bs : List Nat) : Mem :=
  ⟨M.w, fun blk o => M.I blk o ∨ ∃ b ∈ bs, ∃ bx, pre b = some bx ∧ bx.nl = false ∧ blk = μ b ∧ o < bx.cells.length, M.Sp⟩

section pub
variable {C : Cfg} {μ : Nat → Nat} {M : Mem} {pre : Nat → Option Box} {bs : List Nat}

theorem pub_trans (wf : Wf C M) (hb : ∀ b ∈ bs, ∀ bx, pre b = some bx → RepB C μ M b bx) : Trans C bs pre μ M μ (pubM M μ pre bs) := by
  have g : Grow C M (pubM M μ pre bs) := ⟨Nat.le_refl _, fun _ _ i => ⟨.inl i, rfl⟩, fun _ s => s, fun _ x _ e => ⟨x, e, C.refl x⟩⟩
  refine ⟨g, ⟨fun blk o i => ?_, wf.sp, fun g' flat hg => (wf.glob g' flat hg).mono g⟩, rfl, rfl, rfl, fun blk h1 h2 h3 => ⟨rfl, fun o i => ?_⟩, fun _ _ s => s, fun blk c T fz e _ => ⟨c, T, fz, e, Nat.le_refl _⟩, fun _ _ => rfl⟩
  · rcases i with i | ⟨b, hb', bx, e, hn, rfl, ho⟩
    · exact wf.imm blk o i
    · exact ⟨(hb b hb' bx e).lt hn, ((hb b hb' bx e).2 hn).sp⟩
  · rcases i with i | ⟨b, hb', bx, e, hn, rfl, ho⟩
    · exact i
    · exact (h3 b hb' (by simp [e, liveB, hn]) rfl).elim

theorem pub_box (wf : Wf C M) (hb : ∀ b ∈ bs, ∀ bx, pre b = some bx → RepB C μ M b bx)
    (hd : ∀ x ∈ bs, ∀ y ∈ bs, liveB (pre x) = true → liveB (pre y) = true → μ x = μ y → x = y) {b : Nat} (hm : b ∈ bs) {bx : Box} (e : pre b = some bx) :
    RepB C μ (pubM M μ pre bs) b (pubB bx) := by
  have t := pub_trans (C := C) wf hb
  have h := hb b hm bx e
  refine ⟨fun hn => ⟨(h.1 hn).1, by simp [pubB, (h.1 hn).1]⟩, fun hn => ?_⟩
  obtain ⟨⟨c, T, fz, h1, h2, h3, h4⟩, h5, h6, h7⟩ := h.2 hn
  refine ⟨⟨c, T, fz, h1, h2, h3, fun i i1 i2 => ⟨(h4 i i1 i2).1.trans t fun _ _ => rfl, fun hr => ((h4 i i1 i2).2 hr).mono t.grow⟩⟩, fun o i => ?_, Nat.le_refl _, h7⟩
  rcases i with i | ⟨b', hb', bx', e', hn', eq, ho⟩
  · exact Nat.lt_of_lt_of_le (h5 o i) h6
  · have : b = b' := hd b hm b' hb' (by have hn : bx.nl = false := hn; simp [e, liveB, hn]) (by simp [e', liveB, hn']) eq
    subst this
    rw [e] at e'; cases e'; exact ho

theorem pub_list (wf : Wf C M) (hb : ∀ b ∈ bs, ∀ bx, pre b = some bx → RepB C μ M b bx) {b n sz : Nat} {nl : Bool} (hm : b ∈ bs) {bx : Box} (e : pre b = some bx) (hnl : bx.nl = nl) (hle : n * sz ≤ bx.cells.length)
    (hp : bx.cells.all (·.pure) = true) {v : Value} (hv : RepC C μ M (.sl b n sz nl) v) : RepI C (pubM M μ pre bs) (.list n (bx.cells.take (n * sz))) v := by
  have t := pub_trans (C := C) wf hb
  have h := hb b hm bx e
  cases nl with
  | true =>
    obtain ⟨rfl, rfl⟩ := hv
    have := (h.1 hnl).1
    refine .list _ _ _ _ 0 0 (fun _ => undef) (Nat.le_refl _) (fun hne => by simp at hne) (fun i hi => by simp at hi) (fun i hi => by simp at hi)
  | false =>
    obtain ⟨cap, c, Tb, fz, rfl, hcap, hh, hz, hs⟩ := hv
    obtain ⟨⟨c2, Tb2, fz2, hh2, hfz, hl2, hcell⟩, himm, hpl, hsp2⟩ := h.2 hnl
    rw [hh] at hh2
    cases hh2
    refine .list _ _ _ _ (μ b) 0 (fun i => c.getD i undef) hcap (fun _ => rfl) (fun i hi => ⟨.inr ⟨b, hm, bx, e, hnl, rfl, ?_⟩, ?_⟩) (fun i hi => ?_)
    · simp at hi; omega
    · have hi' : i < c.size := by simp at hi; omega
      show (M.w).cell? _ = _
      simp [World.cell?, hh, Array.getD_eq_getD_getElem?, hi']
    · have hi' : i < c.size := by simp at hi; omega
      have hi2 : i < bx.cells.length := by simp at hi; omega
      have := pure_I (List.all_eq_true.1 hp _ (List.getElem_mem hi2)) (hcell i hi2 hi').1
      simpa [List.getElem_take, Array.getD_eq_getD_getElem?, hi'] using this.mono t.grow
end pub

section ops
variable {C : Cfg} {dst : Option Tmp} {ty : TypeId} {pos : String} {after : Array Edge} {guard : Option (Nat × Bool)} {ρ : Operand → AV} {pre : Nat → Option Box}

/-- A piece of a slice of one's own, which nobody writes any more then. -/
theorem ok_slice_sl {x : Operand} {lo hi : Option Operand} {T E : TypeId} {b n sz : Nat} {nl : Bool} {bx : Box} {l h : Int} (hx : ρ x = .c (.sl b n sz nl)) (hb : pre b = some bx) (hnl : bx.nl = nl) (hle : n * sz ≤ bx.cells.length)
    (hp : bx.cells.all (·.pure) = true) (ht : tySlice C.P T = some E) (hsz : tySize C.P E = some sz)
    (hlo : bndA ρ 0 lo = some l) (hhi : bndA ρ n hi = some h) (h0 : 0 ≤ l) (h1 : l ≤ h) (h2 : h ≤ n) :
    OpOk C ⟨dst, .slice T x lo hi none, ty, pos, after, guard⟩ ρ [] pre (.c (.list (h.toNat - l.toNat) (pieceL sz l h (bx.cells.take (n * sz))))) [(b, some (pubB bx))] := by
  intro μ M a next Q wf hr hbx hdist k
  have e1 := hr x (by simp [Op.operands]); rw [hx] at e1
  have hbs : ∀ b' ∈ [b], ∀ bx', pre b' = some bx' → RepB C μ M b' bx' := fun b' h' => hbx b' (by simpa [wrOf] using h')
  have hds : ∀ x ∈ [b], ∀ y ∈ [b], liveB (pre x) = true → liveB (pre y) = true → μ x = μ y → x = y := fun x hx y hy _ _ _ => by simp at hx hy; rw [hx, hy]
  have hl := pub_list (C := C) wf hbs (b := b) (by simp) hb hnl hle hp (v := a.eval x) e1
  have t := pub_trans (C := C) (μ := μ) wf hbs
  have hv2 := hl
  generalize hz : AC.list n (bx.cells.take (n * sz)) = z at hl
  generalize hv : a.eval x = v at hl hv2
  cases hl <;> cases hz
  rename_i ad cap blk off c hn ha hc hr'
  have := bounds_run (P := C.P) (C := C) (μ := μ) (M := M) (a := a) (cap := cap) true hlo hhi (fun y hy => hr y (by rcases hy with rfl | rfl <;> simp [Op.operands])) h0 h1 h2 hn M.w
  have e : (execOp a.eval ⟨dst, .slice T x lo hi none, ty, pos, after, guard⟩).run C.P M.w = .ok (.value (.slice (if cap = l.toNat then ad else ad.map (·.add (l.toNat * sz))) (h.toNat - l.toNat) (cap - l.toNat))) M.w := by
    simp [execOp, hv, Instr.sliceAt, Instr.slice, run_underlying (und_slice ht), run_sizeOf hsz, this]
  unfold Oper.wp
  rw [e]
  have hw : wrOf [(b, some (pubB bx))] = [b] := rfl
  refine k _ μ (pubM M μ pre [b]) (RepC.of_I (μ := μ) (hv2.piece (by simp; omega) h0 h1 h2)) t ?_ ?_ ?_
  · intro b' hb' bx' hbx'
    simp [wrOf] at hb'
    subst hb'
    simp [postOf] at hbx'
    subst hbx'
    exact pub_box wf hbs hds (by simp) hb
  · intro z hz hlz
    simp [wrOf] at hz
    subst hz
    simp [postOf, liveB, pubB] at hlz
    exact .inr ⟨z, by simp [wrOf], by simp [hb, liveB, hlz], rfl⟩
  · intro z hz z' hz' _ _ _
    simp [wrOf] at hz hz'
    rw [hz, hz']

/-! ### calls -/

/-- A literal, as a callee is handed it: the nil slice as a list without elements. -/
def litP : Value → AC
  | .slice none 0 0 => .list 0 []
  | v => .lit v
theorem litP_rep {C : Cfg} {M : Mem} (v : Value) : RepI C M (litP v) v := by
  unfold litP
  split
  · exact .list none 0 0 [] 0 0 (fun _ => undef) (Nat.le_refl _) (fun h => absurd rfl h) (fun i hi => absurd hi (Nat.not_lt_zero _)) (fun i hi => absurd hi (Nat.not_lt_zero _))
  · exact .lit _
/-- What a callee is handed: slices of one's own as lists. -/
def pubC (pre : Nat → Option Box) : AC → AC
  | .lit v => litP v
  | .sl b n sz nl => match pre b with
    | some bx => if bx.nl = nl ∧ n * sz ≤ bx.cells.length ∧ bx.cells.all (·.pure) = true then .list n (bx.cells.take (n * sz)) else .sl b n sz nl
    | none => .sl b n sz nl
  | a => a
def pubA (pre : Nat → Option Box) : AV → AV
  | .c a => .c (pubC pre a)
  | .agg cs => .agg (cs.map (pubC pre))
  | .tup vs => .tup vs
/-- The boxes behind the slices that are handed over. -/
def slC : AC → List Nat
  | .sl b _ _ _ => [b]
  | _ => []
def slA : AV → List Nat
  | .c a => slC a
  | .agg cs => cs.flatMap slC
  | .tup _ => []

theorem pubC_rep {μ : Nat → Nat} {M : Mem} {bs : List Nat} (wf : Wf C M) (hb : ∀ b ∈ bs, ∀ bx, pre b = some bx → RepB C μ M b bx) {a : AC} {v : Value} (hs : ∀ b ∈ slC a, b ∈ bs) (h : RepC C μ M a v) :
    RepC C μ (pubM M μ pre bs) (pubC pre a) v := by
  have t := pub_trans (C := C) wf hb
  cases a with
  | sl b n sz nl =>
    simp only [pubC]
    cases e : pre b with
    | none => exact h.trans t fun _ _ => rfl
    | some bx =>
      simp only
      split
      · rename_i hh
        exact RepC.of_I (pub_list wf hb (hs b (by simp [slC])) e hh.1 hh.2.1 hh.2.2 h)
      · exact h.trans t fun _ _ => rfl
  | lit v' =>
    have e : v = v' := RepI.lit_eq h
    subst e
    exact RepC.of_I (litP_rep v)
  | _ => exact h.trans t fun _ _ => rfl

theorem pubA_rep {μ : Nat → Nat} {M : Mem} {bs : List Nat} (wf : Wf C M) (hb : ∀ b ∈ bs, ∀ bx, pre b = some bx → RepB C μ M b bx) {a : AV} {v : Value} (hs : ∀ b ∈ slA a, b ∈ bs) (h : Rep1 C μ M a v) :
    Rep1 C μ (pubM M μ pre bs) (pubA pre a) v := by
  cases a with
  | c a => exact pubC_rep wf hb hs h
  | agg cs =>
    obtain ⟨vs, e, h1, h2⟩ := h
    refine ⟨vs, e, by simpa using h1, fun i i1 i2 => ?_⟩
    have hi : i < cs.length := by simpa using i1
    have := pubC_rep (pre := pre) wf hb (fun b hb' => hs b (List.mem_flatMap.2 ⟨cs[i], List.getElem_mem hi, hb'⟩)) (h2 i hi i2)
    simpa using this
  | tup _ => exact h

/-- What is called: a function, and what its value bears. -/
def calleeA : AV → Option (FuncId × List AV × List AV)
  | .c (.lit (.func (.func k) f c)) => some (k, f.toList.map fun v => .c (.lit v), c.toList.map fun v => .c (.lit v))
  | .c (.clo k fs cs) => some (k, fs.map .c, cs.map .c)
  | _ => none

theorem callee_rep {μ : Nat → Nat} {M : Mem} {a : AV} {v : Value} {k : FuncId} {fs cs : List AV} (h : calleeA a = some (k, fs, cs)) (hr : RepV C μ M a v) :
    ∃ vf vc : Array Value, v = .func (.func k) vf vc ∧ vf.size = fs.length ∧ vc.size = cs.length ∧ (∀ i (h1 : i < fs.length) (h2 : i < vf.size), Rep1 C μ M fs[i] vf[i]) ∧ (∀ i (h1 : i < cs.length) (h2 : i < vc.size), Rep1 C μ M cs[i] vc[i]) ∧
      (∀ x ∈ fs ++ cs, slA x = []) ∧ (∀ x ∈ fs ++ cs, ∀ vs, x ≠ .tup vs) := by
  unfold calleeA at h
  split at h
  · rename_i k' f c
    cases h
    have : v = .func (.func k) f c := RepI.lit_eq hr
    refine ⟨f, c, this, by simp, by simp, fun i h1 h2 => ?_, fun i h1 h2 => ?_, fun x hx => ?_, fun x hx vs => ?_⟩
    · simp only [List.getElem_map, Array.getElem_toList]; exact RepI.lit _
    · simp only [List.getElem_map, Array.getElem_toList]; exact RepI.lit _
    · simp only [List.mem_append, List.mem_map] at hx
      rcases hx with ⟨y, _, rfl⟩ | ⟨y, _, rfl⟩ <;> rfl
    · simp only [List.mem_append, List.mem_map] at hx
      rcases hx with ⟨y, _, rfl⟩ | ⟨y, _, rfl⟩ <;> simp
  · rename_i k' fs' cs'
    cases h
    have hr : RepI C M (.clo k fs' cs') v := hr
    generalize hz : AC.clo k fs' cs' = z at hr
    cases hr <;> cases hz
    rename_i vf vc h1 h3 h2 h4
    have notsl : ∀ a : AC, ∀ v, RepI C M a v → slC a = [] := fun a v hr => by cases hr <;> rfl
    refine ⟨vf, vc, rfl, by simpa using h1, by simpa using h2, fun i i1 i2 => ?_, fun i i1 i2 => ?_, fun x hx => ?_, fun x hx vs => ?_⟩
    · simp only [List.getElem_map]; exact RepC.of_I (h3 i (by simpa using i1) i2)
    · simp only [List.getElem_map]; exact RepC.of_I (h4 i (by simpa using i1) i2)
    · simp only [List.mem_append, List.mem_map] at hx
      rcases hx with ⟨y, hy, rfl⟩ | ⟨y, hy, rfl⟩
      · obtain ⟨i, hi, rfl⟩ := List.getElem_of_mem hy
        exact notsl _ _ (h3 i hi (by omega))
      · obtain ⟨i, hi, rfl⟩ := List.getElem_of_mem hy
        exact notsl _ _ (h4 i hi (by omega))
    · simp only [List.mem_append, List.mem_map] at hx
      rcases hx with ⟨y, _, rfl⟩ | ⟨y, _, rfl⟩ <;> simp
  · cases h

def upsOf (pre : Nat → Option Box) (bs : List Nat) : List (Nat × Option Box) := bs.map fun b => (b, (pre b).map pubB)

theorem wrOf_append (a b : List (Nat × Option Box)) : wrOf (a ++ b) = wrOf a ++ wrOf b := by simp [wrOf]
theorem wrOf_upsOf (pre : Nat → Option Box) (bs : List Nat) : wrOf (upsOf pre bs) = bs := by simp [wrOf, upsOf, Function.comp_def]
theorem postOf_upsOf {pre : Nat → Option Box} {bs : List Nat} {ups : List (Nat × Option Box)} {b : Nat} (h : b ∈ bs) : postOf (upsOf pre bs ++ ups) b = (pre b).map pubB := by
  induction bs with
  | nil => simp at h
  | cons c bs ih =>
    simp only [upsOf, List.map_cons, List.cons_append]
    by_cases e : b = c
    · subst e; simp [postOf, List.lookup]
    · have e' : (b == c) = false := by simpa using e
      have := ih (by simpa [e] using h)
      simpa [postOf, List.lookup, e', upsOf] using this
theorem postOf_upsOf' {pre : Nat → Option Box} {bs : List Nat} {ups : List (Nat × Option Box)} {b : Nat} (h : b ∉ bs) : postOf (upsOf pre bs ++ ups) b = postOf ups b := by
  induction bs with
  | nil => rfl
  | cons c bs ih =>
    simp only [upsOf, List.map_cons, List.cons_append]
    have e' : (b == c) = false := by simp only [beq_eq_false_iff_ne]; exact fun e => h (by simp [e])
    have := ih fun h' => h (by simp [h'])
    simpa [postOf, List.lookup, e', upsOf] using this

/-- A call, whose arguments are handed over as lists where they are slices of one's own. -/
theorem opOk_callP {f : Operand} {k : FuncId} {args : Array Operand} {ats : Array TypeId} {fs cs : List AV} {r : AV} {ups : List (Nat × Option Box)} {bs : List Nat} (hf : calleeA (ρ f) = some (k, fs, cs))
    (h : FnOkB C k (fs ++ (args.toList.map ρ).map (pubA pre) ++ cs) pre r ups)
    (ht : ∀ x ∈ args, ∀ vs, ρ x ≠ .tup vs) (hbs : bs = (args.toList.map ρ).flatMap slA) (hdj : ∀ b ∈ wrOf ups, b ∉ bs) :
    OpOk C ⟨dst, .call ⟨.value f, args, ats⟩, ty, pos, after, guard⟩ ρ [] pre r (upsOf pre bs ++ ups) := by
  intro μ M a next Q wf hr hb hd kk
  obtain ⟨hc, hl, h⟩ := h
  simp only [List.nil_append, wrOf_append, wrOf_upsOf] at hb hd kk
  have hb1 : ∀ b ∈ bs, ∀ bx, pre b = some bx → RepB C μ M b bx := fun b hb' => hb b (List.mem_append_left _ hb')
  have hd1 : ∀ x ∈ bs, ∀ y ∈ bs, liveB (pre x) = true → liveB (pre y) = true → μ x = μ y → x = y := fun x hx y hy => hd x (List.mem_append_left _ hx) y (List.mem_append_left _ hy)
  have t1 := pub_trans (C := C) (μ := μ) wf hb1
  obtain ⟨vf, vc, hv, hvf, hvc, hrf, hrc, hsl, _⟩ := callee_rep hf (hr f (by simp [Op.operands, Call.operands]))
  have e : (execOp a.eval ⟨dst, .call ⟨.value f, args, ats⟩, ty, pos, after, guard⟩).run C.P M.w = .ok (.enter k (vf ++ args.map a.eval ++ vc)) M.w := by
    have : (invoke (.fn (.func k) vc) (vf ++ args.map a.eval)).run C.P M.w = .ok (.enter k (vf ++ args.map a.eval ++ vc)) M.w := by
      have := callFunc_run (w := M.w) hc (vf ++ args.map a.eval ++ vc)
      simpa [invoke] using this
    simpa [execOp, resolve, hv, Deferred.ofValue, bind, Sem.bind, pure] using this
  unfold Oper.wp
  rw [e]
  simp only [Oper.upon]
  have hmid : ∀ i (h : i < args.size), Rep1 C μ (pubM M μ pre bs) (pubA pre (ρ args[i])) (a.eval args[i]) := by
    intro i hi
    have hx := hr args[i] (by simp [Op.operands, Call.operands, Array.getElem_mem])
    have hnt := ht args[i] (Array.getElem_mem hi)
    refine pubA_rep wf hb1 (fun b hb' => ?_) ?_
    · rw [hbs, List.mem_flatMap]
      exact ⟨ρ args[i], List.mem_map.2 ⟨args[i], by simp [Array.getElem_mem], rfl⟩, hb'⟩
    · cases hρ : ρ args[i] with
      | tup vs => exact (hnt vs hρ).elim
      | c x => rw [hρ] at hx; exact hx
      | agg x => rw [hρ] at hx; exact hx
  have mono1 : ∀ x v, Rep1 C μ M x v → Rep1 C μ (pubM M μ pre bs) x v := fun x v h => h.trans t1 fun _ _ => rfl
  have hsize : (vf ++ args.map a.eval ++ vc).size = (fs ++ (args.toList.map ρ).map (pubA pre) ++ cs).length := by simp [hvf, hvc]
  have hreps : ∀ i (h : i < (fs ++ (args.toList.map ρ).map (pubA pre) ++ cs).length) (h' : i < (vf ++ args.map a.eval ++ vc).size),
      Rep1 C μ (pubM M μ pre bs) (fs ++ (args.toList.map ρ).map (pubA pre) ++ cs)[i] (vf ++ args.map a.eval ++ vc)[i] := by
    intro i h1 h2
    by_cases i1 : i < fs.length
    · rw [List.getElem_append_left (by simp; omega), List.getElem_append_left i1, Array.getElem_append_left (by simp; omega), Array.getElem_append_left (by omega)]
      exact mono1 _ _ (hrf i i1 (by omega))
    · by_cases i2 : i < fs.length + args.size
      · rw [List.getElem_append_left (by simp; omega), List.getElem_append_right (by omega), Array.getElem_append_left (by simp; omega), Array.getElem_append_right (by omega)]
        have := hmid (i - fs.length) (by omega)
        simp only [List.getElem_map, Array.getElem_toList, Array.getElem_map, hvf]
        exact this
      · have hl1 : (fs ++ (args.toList.map ρ).map (pubA pre)).length = fs.length + args.size := by simp
        have hl2 : (vf ++ args.map a.eval).size = fs.length + args.size := by simp [hvf]
        rw [List.getElem_append_right (by omega), Array.getElem_append_right (by omega)]
        have := hrc (i - (fs.length + args.size)) (by simp at h1; omega) (by simp [hvf] at h2; omega)
        simp only [hl1, hl2]
        exact mono1 _ _ this
  have hb2 : ∀ b ∈ wrOf ups, ∀ bx, pre b = some bx → RepB C μ (pubM M μ pre bs) b bx := by
    intro b hb' bx e
    refine (hb b (List.mem_append_right _ hb') bx e).trans t1 (hdj b hb') (fun hn b' hb'' hl' eq => ?_) fun _ _ => rfl
    have := hd b (List.mem_append_right _ hb') b' (List.mem_append_left _ hb'') (by simp [e, liveB, hn]) hl' eq
    exact hdj b hb' (this ▸ hb'')
  refine (h μ (pubM M μ pre bs) _ t1.wf hsize hreps hb2 (fun x hx y hy => hd x (List.mem_append_right _ hx) y (List.mem_append_right _ hy))).mono ?_
  rintro e w' ⟨v, M', rfl, rfl, hv, t, hpb⟩
  have hmem : ∀ b, b ∈ bs ++ wrOf ups → b ∈ bs ∨ (b ∈ wrOf ups ∧ b ∉ bs) := fun b hb' => by
    rcases List.mem_append.1 hb' with h | h
    · exact .inl h
    · exact .inr ⟨h, hdj b h⟩
  refine kk v μ M' hv ?_ ?_ ?_ ?_
  · refine ⟨t1.grow.trans t.grow, t.wf, t.os.trans t1.os, t.tape.trans t1.tape, t.output.trans t1.output, fun blk h1 h2 h3 => ?_, fun blk h1 s => t.spb blk h1 s, fun blk c T fz e hs => t.wid blk c T fz e hs, fun _ _ => rfl⟩
    obtain ⟨e1, e2⟩ := t.fr blk h1 h2 fun b hb' => h3 b (List.mem_append_right _ hb')
    obtain ⟨_, e4⟩ := t1.fr blk h1 h2 fun b hb' => h3 b (List.mem_append_left _ hb')
    exact ⟨e1, fun o i => e4 o (e2 o i)⟩
  · intro b hb' bx e
    rcases hmem b hb' with h | ⟨h, h'⟩
    · rw [postOf_upsOf h] at e
      obtain ⟨bx0, e0, rfl⟩ := Option.map_eq_some_iff.1 e
      refine (pub_box wf hb1 hd1 h e0).trans t (fun h' => hdj b h' h) (fun hn b' hb'' hl' eq => ?_) fun _ _ => rfl
      have := hd b (List.mem_append_left _ h) b' (List.mem_append_right _ hb'') (by have hn : bx0.nl = false := hn; simp [e0, liveB, hn]) hl' eq
      exact hdj b' hb'' (this ▸ h)
    · rw [postOf_upsOf' h'] at e
      exact hpb b h bx e
  · intro x hx hlx
    refine .inr ⟨x, hx, ?_, rfl⟩
    rcases hmem x hx with h | ⟨h, h'⟩
    · rw [postOf_upsOf h] at hlx
      cases e0 : pre x with
      | none => simp [e0, liveB] at hlx
      | some bx => rw [e0] at hlx; simpa [liveB, pubB] using hlx
    · rw [postOf_upsOf' h'] at hlx
      exact hl x h hlx
  · intro x hx y hy lx ly eq
    have live : ∀ x, x ∈ bs ++ wrOf ups → liveB (postOf (upsOf pre bs ++ ups) x) = true → liveB (pre x) = true := fun x hx hlx => by
      rcases hmem x hx with h | ⟨h, h'⟩
      · rw [postOf_upsOf h] at hlx
        cases e0 : pre x with
        | none => simp [e0, liveB] at hlx
        | some bx => rw [e0] at hlx; simpa [liveB, pubB] using hlx
      · rw [postOf_upsOf' h'] at hlx
        exact hl x h hlx
    exact hd x hx y hy (live x hx lx) (live y hy ly) eq

/-- A function value. -/
theorem ok_makeFunc {k : FuncId} {first captured : Array Operand} {fs cs : List AC} (hf : first.toList.map ρ = fs.map .c) (hc : captured.toList.map ρ = cs.map .c) (hp : fs.all (·.pure) = true ∧ cs.all (·.pure) = true) :
    OpOk C ⟨dst, .makeFunc (.func k) first captured, ty, pos, after, guard⟩ ρ [] pre (.c (.clo k fs cs)) [] :=
  opOk_pure fun μ M ac _ hr => by
    have key : ∀ (xs : Array Operand) (as : List AC), xs.toList.map ρ = as.map .c → as.all (·.pure) = true → (∀ x ∈ xs, RepV C μ M (ρ x) (ac.eval x)) → (xs.map ac.eval).size = as.length ∧ ∀ i (h : i < as.length) (h' : i < (xs.map ac.eval).size), RepI C M as[i] (xs.map ac.eval)[i] := by
      intro xs as he hp hx
      have hl : xs.size = as.length := by have := congrArg List.length he; simpa using this
      refine ⟨by simpa using hl, fun i h h' => ?_⟩
      have hi : i < xs.size := by omega
      have e : ρ xs[i] = .c as[i] := by
        have := congrArg (·[i]?) he
        simpa [hi, h] using this
      have := hx xs[i] (Array.getElem_mem hi)
      rw [e] at this
      simpa using pure_I (List.all_eq_true.1 hp _ (List.getElem_mem h)) this
    obtain ⟨a1, a2⟩ := key first fs hf hp.1 fun x hx => hr x (by simp [Op.operands, hx])
    obtain ⟨b1, b2⟩ := key captured cs hc hp.2 fun x hx => hr x (by simp [Op.operands, hx])
    exact ⟨.func (.func k) (first.map ac.eval) (captured.map ac.eval), by simp [execOp, Instr.makeFunc], RepI.clo k fs cs _ _ a1 b1 a2 b2⟩
end ops
end Go.Ev
