/-
  Layer 11 (list), plainly.
-/
import Derived.Test.YtldofkogmkfpjaaGreatDoorWPLexLaw
import Derived.Test.YtldofkogmkfpjaaGreatDoorWSyJoin
namespace Go.Sy
open Go.Ev
set_option linter.unusedVariables false

/-- An entry of a list of rows: when, and how much. -/
def atR (r : List D) : Int := (r.getD 0 (.i 0)).toI
def ofR (r : List D) : Int := (r.getD 1 (.i 0)).toI
def lastR (L : List (List D)) : List D := L.getD (L.length - 1) []
/-- May an entry stand behind others? -/
def behP (L : List (List D)) (a o : Int) : Bool :=
  decide (L.length < 64) && (decide (0 ≤ a) && decide (a ≤ 1125899906842624)) && decide (a % 86400 = 0) && (decide (0 ≤ o) && decide (o ≤ 1000)) &&
    (decide (L = []) || decide (atR (lastR L) < a) && (decide (o = ofR (lastR L) + 1) || decide (o = ofR (lastR L) - 1)))
/-- The last entry's offset is one that may be. -/
def lastOk (L : List (List D)) : Prop := L = [] ∨ (0 ≤ ofR (lastR L) ∧ ofR (lastR L) ≤ 1000)
instance (L : List (List D)) : Decidable (lastOk L) := by unfold lastOk; exact inferInstance
/-- The entry at j may stand behind those ahead of it. -/
def okAt (L : List (List D)) (j : Nat) : Bool := behP (L.take j) (atR (L.getD j [])) (ofR (L.getD j []))
def goodTo (L : List (List D)) (i : Nat) : Prop := ∀ j, j < i → okAt L j = true
/-- Check: which entry is wrong first, and the error. -/
def chkP (u x : Int) (L : List (List D)) : Int × Int := match (List.range L.length).find? fun j => !okAt L j with
  | some j => ((j : Int), 10)
  | none => if L = [] ∨ ¬ (0 ≤ u ∧ u ≤ 999999999999999999) ∨ ¬ (0 ≤ x ∧ x ≤ 999999999999999999) then (L.length, 10) else (0, 0)
theorem behP_len {L : List (List D)} {a o : Int} (h : behP L a o = true) : L.length < 64 ∧ (0 ≤ a ∧ a ≤ 1125899906842624) ∧ (0 ≤ o ∧ o ≤ 1000) := by
  unfold behP at h
  simp only [Bool.and_eq_true, decide_eq_true_eq] at h
  exact ⟨h.1.1.1.1, h.1.1.1.2, h.1.2⟩
theorem goodTo_len {L : List (List D)} {i : Nat} (h : goodTo L i) (hi : i ≤ L.length) : i ≤ 64 := by
  cases i with
  | zero => omega
  | succ i =>
    have := (behP_len (h i (by omega))).1
    rw [List.length_take] at this
    omega
theorem goodTo_last {L : List (List D)} {i : Nat} (h : goodTo L i) (hi : i ≤ L.length) : lastOk (L.take i) := by
  cases i with
  | zero => exact .inl (by simp)
  | succ i =>
    have h1 := (behP_len (h i (by omega))).2.2
    have e : lastR (L.take (i + 1)) = L.getD i [] := by
      unfold lastR
      rw [List.length_take, Nat.min_eq_left hi, Nat.add_sub_cancel]
      simp only [List.getD_eq_getElem?_getD, List.getElem?_take]
      rw [if_pos (by omega)]
    exact .inr (by rw [e]; exact h1)
theorem goodTo_succ {L : List (List D)} {i : Nat} (h : goodTo L i) (h2 : okAt L i = true) : goodTo L (i + 1) := fun j hj => by
  rcases Nat.lt_or_ge j i with g | g
  · exact h j g
  · have : j = i := by omega
    rw [this]; exact h2
theorem find_range {p : Nat → Bool} {n i : Nat} (hi : i < n) (h : ∀ j, j < i → p j = false) (h2 : p i = true) : (List.range n).find? p = some i := by
  rw [List.find?_range_eq_some]
  exact ⟨h2, List.mem_range.2 hi, fun j hj => by rw [h j hj]; rfl⟩
theorem chkP_at {u x : Int} {L : List (List D)} {i : Nat} (hi : i < L.length) (h : goodTo L i) (h2 : okAt L i = false) : chkP u x L = ((i : Int), 10) := by
  unfold chkP
  rw [find_range hi (fun j hj => by rw [h j hj]; rfl) (by rw [h2]; rfl)]
theorem chkP_end {u x : Int} {L : List (List D)} (h : goodTo L L.length) : chkP u x L = if L = [] ∨ ¬ (0 ≤ u ∧ u ≤ 999999999999999999) ∨ ¬ (0 ≤ x ∧ x ≤ 999999999999999999) then ((L.length : Int), 10) else (0, 0) := by
  unfold chkP
  rw [List.find?_eq_none.2 (fun j hj => by rw [h j (List.mem_range.1 hj)]; decide)]
/-- All of a table, in order, as texts. -/
def numR (u x : Int) (L : List (List D)) : List (List D) := [[.s (tx (Lib.itoa u))], [.s (tx (Lib.itoa x))]] ++ L.flatMap fun r => [[.s (tx (Lib.itoa (atR r)))], [.s (tx (Lib.itoa (ofR r)))]]
theorem numR_len (u x : Int) (L : List (List D)) : (numR u x L).length = 2 + 2 * L.length := by
  unfold numR
  rw [List.length_append]
  have : (L.flatMap fun r => [[D.s (tx (Lib.itoa (atR r)))], [.s (tx (Lib.itoa (ofR r)))]]).length = 2 * L.length := by
    induction L with
    | nil => rfl
    | cons r L ih => rw [List.flatMap_cons, List.length_append, ih]; simp; omega
  rw [this]; rfl
theorem numR_succ (u x : Int) (L : List (List D)) (i : Nat) (hi : i < L.length) : numR u x (L.take (i + 1)) = numR u x (L.take i) ++ [[.s (tx (Lib.itoa (atR (L.getD i []))))], [.s (tx (Lib.itoa (ofR (L.getD i []))))]] := by
  unfold numR
  rw [List.take_succ_eq_append_getElem hi, List.flatMap_append, List.append_assoc]
  congr 2
  rw [List.getD_eq_getElem?_getD, List.getElem?_eq_getElem hi]
  simp
theorem chkP_ok {u x : Int} {L : List (List D)} (h : (chkP u x L).2 = 0) : L ≠ [] ∧ (0 ≤ u ∧ u ≤ 999999999999999999) ∧ (0 ≤ x ∧ x ≤ 999999999999999999) ∧ goodTo L L.length := by
  have hg : goodTo L L.length := by
    unfold chkP at h
    split at h
    · cases h
    · rename_i e
      intro j hj
      have := List.find?_eq_none.1 e j (List.mem_range.2 hj)
      simpa using this
  rw [chkP_end hg] at h
  split at h
  · cases h
  · rename_i hn
    refine ⟨fun e => hn (.inl e), ?_, ?_, hg⟩
    · exact Decidable.byContradiction fun e => hn (.inr (.inl e))
    · exact Decidable.byContradiction fun e => hn (.inr (.inr e))
theorem joinD_nil (L : List (List D)) : joinD L (tx []) = (L.map fun r => (rowS r).data.toList).flatten := by
  unfold joinD Lib.join
  show List.intercalate [] _ = _
  generalize L.map (fun r => (rowS r).data.toList) = xs
  unfold List.intercalate
  induction xs with
  | nil => rfl
  | cons a xs ih =>
    cases xs with
    | nil => rfl
    | cons b xs =>
      rw [List.intersperse_cons_cons, List.flatten_cons, List.flatten_cons, ih]
      rfl
theorem flat_len {c : Nat} : ∀ xs : List (List UInt8), (∀ l ∈ xs, l.length ≤ c) → xs.flatten.length ≤ c * xs.length
  | [], _ => by simp
  | a :: xs, h => by
    have h1 := h a (List.mem_cons_self ..)
    have h2 := flat_len xs fun l hl => h l (List.mem_cons_of_mem _ hl)
    rw [List.flatten_cons, List.length_append, List.length_cons, Nat.mul_succ]
    omega
/-- What is summed. -/
def dgL (u x : Int) (L : List (List D)) : List UInt8 := joinD (numR u x L) (tx [])
def dgP (u x : Int) (L : List (List D)) : List UInt8 := if (chkP u x L).2 = 0 then dgL u x L else []
theorem itoa_len64 {v : Int} (h : isH v) : (Lib.itoa v).length ≤ 41 := itoa_len (by unfold isH at h; unfold isI; omega)
theorem numR_each {u x : Int} {L : List (List D)} (hu : isH u) (hx : isH x) (hL : ∀ j, j < L.length → isH (atR (L.getD j [])) ∧ isH (ofR (L.getD j []))) : ∀ r ∈ numR u x L, (rowS r).data.toList.length ≤ 41 := by
  intro r hr
  have key : ∀ v : Int, isH v → (rowS [D.s (tx (Lib.itoa v))]).data.toList.length ≤ 41 := fun v hv => by
    show (tx (Lib.itoa v)).data.toList.length ≤ 41
    rw [tx_toList]; exact itoa_len64 hv
  unfold numR at hr
  rcases List.mem_append.1 hr with hr | hr
  · simp only [List.mem_cons, List.not_mem_nil, or_false] at hr
    rcases hr with rfl | rfl
    · exact key _ hu
    · exact key _ hx
  · obtain ⟨z, hz, hr⟩ := List.mem_flatMap.1 hr
    obtain ⟨j, hj, rfl⟩ := List.getElem_of_mem hz
    have := hL j hj
    rw [List.getD_eq_getElem?_getD, List.getElem?_eq_getElem hj] at this
    simp only [List.mem_cons, List.not_mem_nil, or_false] at hr
    rcases hr with rfl | rfl
    · exact key _ this.1
    · exact key _ this.2
theorem good_rows {L : List (List D)} (h : goodTo L L.length) : ∀ j, j < L.length → isH (atR (L.getD j [])) ∧ isH (ofR (L.getD j [])) := fun j hj => by
  have := behP_len (h j hj)
  unfold isH
  omega
theorem dgL_len {u x : Int} {L : List (List D)} (h : (chkP u x L).2 = 0) : (dgL u x L).length ≤ 5330 := by
  obtain ⟨h1, h2, h3, h4⟩ := chkP_ok h
  have h64 := goodTo_len h4 (Nat.le_refl _)
  have := flat_len (c := 41) ((numR u x L).map fun r => (rowS r).data.toList) (fun l hl => by
    obtain ⟨r, hr, rfl⟩ := List.mem_map.1 hl
    exact numR_each (by unfold isH; omega) (by unfold isH; omega) (good_rows h4) r hr)
  rw [List.length_map, numR_len] at this
  unfold dgL
  rw [joinD_nil]
  omega
theorem dgP_len (u x : Int) (L : List (List D)) : (dgP u x L).length ≤ 5330 := by
  unfold dgP
  split
  · rename_i h; exact dgL_len h
  · simp
/-- No line is longer than the text, and there are no more than it has bytes. -/
theorem linesA_bound : ∀ (l cur : List UInt8), (linesA cur l).length ≤ l.length + (if cur = [] then 0 else 1) ∧ ∀ x ∈ linesA cur l, x.length ≤ cur.length + l.length
  | [], cur => by
    unfold linesA
    by_cases h : cur = []
    · subst h; simp
    · simp [h]
  | c :: l, cur => by
    unfold linesA
    split
    · obtain ⟨h1, h2⟩ := linesA_bound l []
      rw [if_pos rfl] at h1
      refine ⟨by simp only [List.length_cons]; omega, fun x hx => ?_⟩
      rcases List.mem_cons.1 hx with rfl | hx
      · simp
      · have := h2 x hx
        simp only [List.length_nil, List.length_cons] at this ⊢
        omega
    · obtain ⟨h1, h2⟩ := linesA_bound l (cur ++ [c])
      rw [if_neg (by simp)] at h1
      refine ⟨by simp only [List.length_cons]; omega, fun x hx => ?_⟩
      have := h2 x hx
      simp only [List.length_append, List.length_cons, List.length_nil] at this ⊢
      omega
theorem linesP_bound (l : List UInt8) : (linesP l).length ≤ l.length ∧ ∀ x ∈ linesP l, x.length ≤ l.length := by
  obtain ⟨h1, h2⟩ := linesA_bound l []
  rw [if_pos rfl] at h1
  exact ⟨h1, fun x hx => by simpa using h2 x hx⟩
theorem beh_add {L : List (List D)} {a o : Int} (h : behP L a o = true) : (L ++ [[D.i a, D.i o]]).length ≤ 64 ∧ lastOk (L ++ [[D.i a, D.i o]]) := by
  have h1 := behP_len h
  refine ⟨by simp; omega, .inr ?_⟩
  have : lastR (L ++ [[D.i a, D.i o]]) = [D.i a, D.i o] := by
    unfold lastR
    simp [List.getD_eq_getElem?_getD]
  rw [this]
  exact h1.2.2
end Go.Sy
