/-
  A symbolic executor over abstract states, part 7d: more about slices and texts.
-/
import Derived.Test.YtnhdfmnmciminaaEvSl
namespace Go.Ev
set_option linter.unusedSimpArgs false
set_option linter.unusedVariables false
section ops
variable {C : Cfg} {dst : Option Tmp} {ty : TypeId} {pos : String} {after : Array Edge} {guard : Option (Nat × Bool)} {ρ : Operand → AV} {pre : Nat → Option Box}

/-- append to nil. -/
theorem ok_append_nil {x y : Operand} {T U : TypeId} {d m : Nat} {el : Elt} {rdy : List Nat} {ns : List AC} (he : eltOf C.P T = some el) (hx : ρ x = .c (.lit (.slice none 0 0)))
    (hd : pre d = none) (hy : BehOk C el.sz U pre (ρ y) rdy m ns)
    (hm : menL d ns = false) (hbig : (m + m / 4 + 192) * el.by' ≤ 281474976710656) (hlen : m ≤ 9223372036854775807) :
    OpOk C ⟨some d, .call ⟨.builtin .append, #[x, y], #[T, U]⟩, ty, pos, after, guard⟩ ρ rdy pre (.c (.sl d m el.sz (m == 0)))
      [(d, some ⟨ns, 0, m == 0, false⟩)] := by
  intro μ M a next Q wf hr hbx hdist k
  have hx' := hr x (by simp [Op.operands, Call.operands]); rw [hx] at hx'
  have hv : a.eval x = .slice none 0 0 := RepI.lit_eq hx'
  obtain ⟨new, hbeh, hrep, hsing⟩ := hy μ M (a.eval y) wf (hr y (by simp [Op.operands, Call.operands])) (fun b' h' => hbx b' (List.mem_append_left _ h'))
  have hnsl : ns.length = m * el.sz := by rw [← hrep.1, hbeh.size]
  have post1 : ∀ p : Option Box, postOf [(d, p)] d = p := fun p => by simp [postOf, List.lookup]
  unfold Oper.wp
  have el2 := eltOf_some he
  by_cases h0 : m = 0
  · subst h0
    have hns : ns = [] := List.eq_nil_of_length_eq_zero (by rw [hnsl]; simp)
    subst hns
    have e := append_exec (C := C) (ty := ty) (pos := pos) (after := after) (guard := guard) (x := x) (y := y) (T := T) (U := U) (d := d) (a := a) (w := M.w) (w' := M.w) (v := .slice none 0 0)
      (by rw [hv]; exact run_append_fit he hbeh (Nat.le_refl _) (fun _ h => by cases h) (fun _ => rfl))
    rw [e]
    refine k (.slice none 0 0) μ M ⟨rfl, rfl⟩ ((Trans.refl C pre μ M wf).weaken) ?_ ?_ ?_
    · intro b' hb' bx' hbx'
      simp only [wrOf, List.map_cons, List.map_nil, List.mem_cons, List.not_mem_nil, or_false] at hb'
      subst hb'
      rw [post1] at hbx'; cases hbx'
      exact ⟨fun _ => ⟨rfl, rfl⟩, fun h => by simp at h⟩
    · intro z hz hl
      simp only [wrOf, List.map_cons, List.map_nil, List.mem_cons, List.not_mem_nil, or_false] at hz
      subst hz
      rw [post1] at hl; simp [liveB] at hl
    · intro z hz z' hz' hl hl' _
      simp only [wrOf, List.map_cons, List.map_nil, List.mem_cons, List.not_mem_nil, or_false] at hz
      subst hz
      rw [post1] at hl; simp [liveB] at hl
  · obtain ⟨nc, w1, h1, h2, h3, h4, h5, e⟩ := run_append_new (ty := ty) he hbeh (n := 0) (cap := 0) (a := none) (old := #[]) (by omega) (Nat.le_refl _)
      (fun w' _ => by simp [Builtin.firstCells]) (by simpa using hbig) (by simpa using hlen)
    have e := append_exec (C := C) (ty := ty) (pos := pos) (after := after) (guard := guard) (x := x) (y := y) (T := T) (U := U) (d := d) (a := a) (w := M.w) (by rw [hv]; exact e)
    rw [e]
    have hnlf : (m == 0) = false := by simpa using h0
    have t := new_trans' (C := C) (μ := μ) wf hd (.cells (#[] ++ new ++ Builtin.zeroCells el.z (nc - (0 + m))) el.e) w1 h2 h3 h4 h5
    have hrb := rep_row (C := C) wf hd (rest := Builtin.zeroCells el.z (nc - (0 + m))) el.e hm hrep w1 h2 h3 h4 h5 0 (Nat.zero_le _)
    have hz : nc * el.sz ≤ (new ++ Builtin.zeroCells el.z (nc - (0 + m))).size := by
      have e2 := hrep.1
      simp only [Array.size_append, Builtin.zeroCells, Array.size_map, Array.size_range, el2.2.2.2.2.1]
      have : nc * el.sz = m * el.sz + (nc - (0 + m)) * el.sz := by rw [← Nat.add_mul]; congr 1; omega
      omega
    rw [hnlf] at k
    simp only [Array.empty_append, Nat.zero_add] at t hrb hz h1 ⊢
    refine k (.slice (some ⟨M.w.heap.size, 0, none⟩) m nc) (upd μ d M.w.heap.size) _ ?_ (t.more (by simp [wrOf])) ?_ ?_ ?_
    · refine ⟨nc, _, el.e, (0, 0), by simp [upd], h1, ?_, hz, ?_⟩
      · simp [upd]
      · simp only [upd, if_true]
        intro s; exact absurd (wf.sp _ s) (Nat.lt_irrefl _)
    · intro b' hb' bx' hbx'
      simp only [wrOf, List.map_cons, List.map_nil, List.mem_cons, List.not_mem_nil, or_false] at hb'
      subst hb'
      rw [post1] at hbx'; cases hbx'; exact hrb
    · intro z hz hl
      simp only [wrOf, List.map_cons, List.map_nil, List.mem_cons, List.not_mem_nil, or_false] at hz
      subst hz
      left; simp [upd]
    · intro z hz z' hz' hl hl' _
      simp only [wrOf, List.map_cons, List.map_nil, List.mem_cons, List.not_mem_nil, or_false] at hz hz'
      rw [hz, hz']

def tyByteLike (P : Program) (U : TypeId) : Bool := tyIs P U (· matches .string)

theorem beh_list {sz : Nat} {U E : TypeId} {m : Nat} {flat : List AC} (hU : tySlice C.P U = some E) (hl : flat.length = m * sz) (hs : flat.all (·.single) = true) :
    BehOk C sz U pre (.c (.list m flat)) [] m flat := by
  intro μ M v wf hr _
  have hu : C.P.underlying U = some (.slice E) := by
    unfold tySlice at hU
    cases hu : C.P.underlying U with
    | none => simp [hu] at hU
    | some d => cases d <;> simp [hu] at hU; rw [hU]
  have hr : RepI C M (.list m flat) v := hr
  generalize hz : AC.list m flat = z at hr
  cases hr <;> cases hz
  rename_i a cap blk off c hn ha hc hrr
  refine ⟨(Array.range flat.length).map c, ⟨.inl ⟨E, hu⟩, fun w => by simp [Builtin.lenOf], fun w' hw => ?_, by simp [hl]⟩, ⟨by simp, fun i h1 h2 => ?_⟩, ?_⟩
  · by_cases hf : flat = []
    · subst hf
      have : m * sz = 0 := by simpa using hl.symm
      cases a with
      | none => simp [Builtin.firstCells]
      | some ad => simp [Builtin.firstCells, this, loadCells, loadCellsFrom]
    · have := ha hf
      subst this
      have hld := run_loadCells (P := C.P) (w := w') blk off (m * sz) 0 #[] c (fun j hj => by
        rw [Nat.zero_add]
        have := (hc j (by omega)).2
        simp only [World.cell?, hw] at this ⊢; exact this)
      simp only [Builtin.firstCells, loadCells]
      rw [hld, hl]; simp
  · have := hrr i h1
    simpa using RepC.of_I (μ := μ) this
  · intro x hx
    simp only [Array.toList_map, Array.toList_range, List.mem_map, List.mem_range] at hx
    obtain ⟨i, hi, rfl⟩ := hx
    exact RepC.single (μ := μ) (List.all_eq_true.1 hs _ (List.getElem_mem hi)) (RepC.of_I (hrr i hi))

theorem beh_sl {sz : Nat} {U E : TypeId} {m b : Nat} {nl : Bool} {bx : Box} (hU : tySlice C.P U = some E) (hb : pre b = some bx) (hnl : bx.nl = nl) (hl : m * sz ≤ bx.cells.length) (hs : (bx.cells.take (m * sz)).all (·.single) = true) :
    BehOk C sz U pre (.c (.sl b m sz nl)) [b] m (bx.cells.take (m * sz)) := by
  intro μ M v wf hr hbx
  have hu : C.P.underlying U = some (.slice E) := by
    unfold tySlice at hU
    cases hu : C.P.underlying U with
    | none => simp [hu] at hU
    | some d => cases d <;> simp [hu] at hU; rw [hU]
  have hB := hbx b (by simp) bx hb
  cases nl with
  | true =>
    obtain ⟨rfl, rfl⟩ := (hr : RepC C μ M (.sl b m sz true) v)
    have := (hB.1 hnl).1
    exact ⟨#[], ⟨.inl ⟨E, hu⟩, fun w => by simp [Builtin.lenOf], fun w' _ => by simp [Builtin.firstCells], by simp⟩, ⟨by simp, fun i h1 h2 => by simp at h2⟩, by simp⟩
  | false =>
    obtain ⟨cap, c, Tb, fz, rfl, hcap, hh, hz, hsp⟩ := (hr : RepC C μ M (.sl b m sz false) v)
    obtain ⟨⟨c2, Tb2, fz2, hh2, hfz, hl2, hcell⟩, himm, hpl, hsp2⟩ := hB.2 hnl
    rw [hh] at hh2
    cases hh2
    refine ⟨c.extract 0 (m * sz), ⟨.inl ⟨E, hu⟩, fun w => by simp [Builtin.lenOf], fun w' hw => first_of_box (C := C) (bx := bx) hh (by omega) w' hw, by simp; omega⟩, ⟨by simp; omega, fun i h1 h2 => ?_⟩, ?_⟩
    · have hi : i < m * sz := by simp at h2; omega
      have := (hcell i (by omega) (by omega)).1
      simpa [List.getElem_take] using this
    · intro x hx
      obtain ⟨i, hi, rfl⟩ := List.getElem_of_mem hx
      have hi' : i < m * sz := by simp at hi; omega
      have hmem : (bx.cells.take (m * sz))[i]'(by simp; omega) ∈ bx.cells.take (m * sz) := List.getElem_mem _
      have h1 := List.all_eq_true.1 hs _ hmem
      have := (hcell i (by omega) (by omega)).1
      rw [List.getElem_take] at h1
      simpa using this.single h1

/-- A text's bytes, as cells. -/
def bytesL (s : ByteArray) : List AC := s.data.toList.map fun b => .lit (.int .u8 b.toNat)

theorem beh_str {U : TypeId} {s : ByteArray} (hU : tyIs C.P U (· matches .string) = true) :
    BehOk C 1 U pre (.c (.lit (.string s))) [] s.size (bytesL s) := by
  intro μ M v wf hr _
  have hu : C.P.underlying U = some .string := by
    unfold tyIs at hU
    cases hu : C.P.underlying U with
    | none => simp [hu] at hU
    | some d => cases d <;> simp [hu] at hU; rfl
  have hv : v = .string s := RepI.lit_eq hr
  subst hv
  refine ⟨s.data.map fun b => .int .u8 b.toNat, ⟨.inr hu, fun w => rfl, fun w' _ => ?_, by rw [Array.size_map, Nat.mul_one]; rfl⟩, ⟨by simp [bytesL], fun i h1 h2 => ?_⟩, ?_⟩
  · simp only [Builtin.firstCells]
    have : (s.extract 0 s.size) = s := by
      cases s; simp
    rw [this]; rfl
  · simp only [bytesL, List.getElem_map, Array.getElem_map, Array.getElem_toList]
    exact RepI.lit _
  · intro x hx
    simp only [Array.toList_map, List.mem_map] at hx
    obtain ⟨b, _, rfl⟩ := hx
    rfl

theorem beh_nil {sz : Nat} {U E : TypeId} (hU : tySlice C.P U = some E) : BehOk C sz U pre (.c (.lit (.slice none 0 0))) [] 0 [] := by
  intro μ M v wf hr _
  have hu : C.P.underlying U = some (.slice E) := by
    unfold tySlice at hU
    cases hu : C.P.underlying U with
    | none => simp [hu] at hU
    | some d => cases d <;> simp [hu] at hU; rw [hU]
  have hv : v = .slice none 0 0 := RepI.lit_eq hr
  subst hv
  exact ⟨#[], ⟨.inl ⟨E, hu⟩, fun w => by simp [Builtin.lenOf], fun w' _ => by simp [Builtin.firstCells], by simp⟩, ⟨by simp, fun i h1 h2 => by simp at h2⟩, by simp⟩
end ops
end Go.Ev
