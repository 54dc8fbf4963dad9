/-
  A symbolic executor over abstract states, part 9b: rows of whole numbers as lists.
-/
import Derived.Test.YtnhdfmnmciminaaEvRule
namespace Go.Ev
set_option linter.unusedSimpArgs false
set_option linter.unusedVariables false

@[go_sem] theorem IL_nil (k : IntKind) : IL k [] = [] := rfl
@[go_sem] theorem IL_cons (k : IntKind) (a : Int) (l : List Int) : IL k (a :: l) = .lit (.int k a) :: IL k l := rfl
@[go_sem] theorem IL_length (k : IntKind) (l : List Int) : (IL k l).length = l.length := by simp [IL]
@[go_sem] theorem IL_append (k : IntKind) (a b : List Int) : IL k a ++ IL k b = IL k (a ++ b) := by simp [IL]
@[go_sem] theorem IL_snoc (k : IntKind) (a : List Int) (x : Int) : IL k a ++ [.lit (.int k x)] = IL k (a ++ [x]) := by simp [IL]
@[go_sem] theorem IL_take (k : IntKind) (l : List Int) (n : Nat) : (IL k l).take n = IL k (l.take n) := by simp [IL]
@[go_sem] theorem IL_drop (k : IntKind) (l : List Int) (n : Nat) : (IL k l).drop n = IL k (l.drop n) := by simp [IL]
@[go_sem] theorem menL_IL (d : Nat) (k : IntKind) (l : List Int) : menL d (IL k l) = false := by simp [menL, IL, AC.men]
theorem menL_append (d : Nat) (a b : List AC) : menL d (a ++ b) = (menL d a || menL d b) := by simp [menL]
attribute [go_sem] menL_append
@[go_sem] theorem puresB_IL (k : IntKind) (l : List Int) : puresB (IL k l) = true := by simp [puresB, IL, AC.pure]
@[go_sem] theorem pures_IL (k : IntKind) (l : List Int) : pures (IL k l) = true := by simp [pures, IL, AC.pure]
@[go_sem] theorem puresB_nil : puresB [] = true := rfl
@[go_sem] theorem puresB_cons (a : AC) (l : List AC) : puresB (a :: l) = (a.pure && puresB l) := rfl
@[go_sem] theorem single_IL (k : IntKind) (l : List Int) : (IL k l).all (·.single) = true := by
  rw [List.all_eq_true]; intro x hx; simp only [IL, List.mem_map] at hx; obtain ⟨n, _, rfl⟩ := hx; rfl
@[go_sem] theorem singles_IL (k : IntKind) (l : List Int) : singles (IL k l) = true := single_IL k l
@[go_sem] theorem allpure_IL (k : IntKind) (l : List Int) : (IL k l).all (·.pure) = true := puresB_IL k l
@[go_sem] theorem pubCs_IL (pre : Nat → Option Box) (k : IntKind) (l : List Int) : pubCs pre (IL k l) = IL k l := by simp [pubCs, IL, pubC, litP]
@[go_sem] theorem slCs_IL (k : IntKind) (l : List Int) : slCs (IL k l) = [] := by
  induction l with
  | nil => rfl
  | cons a l ih => rw [IL_cons, slCs_cons, ih]; rfl
@[go_sem] theorem renL_IL (f : Nat → Nat) (k : IntKind) (l : List Int) : renL f (IL k l) = IL k l := by simp [renL, IL, AC.ren]
@[go_sem] theorem bytesL_IL (s : ByteArray) : bytesL s = IL .u8 (bytesI s) := bytesL_eq s

/-- The i-th number of a list. -/
def nth (l : List Int) (i : Nat) : Int := l.getD i 0
@[go_sem] theorem nth_drop (l : List Int) (j i : Nat) : nth (l.drop j) i = nth l (j + i) := by simp [nth, List.getD_eq_getElem?_getD]
@[go_sem] theorem getD_nth (l : List Int) (i : Nat) : l.getD i 0 = nth l i := rfl
theorem nth_lt {l : List Int} {i : Nat} (h : i < l.length) : nth l i = l[i] := by simp [nth, List.getD_eq_getElem?_getD, h]
/-- Another number at a place. -/
def setL (l : List Int) (i : Nat) (x : Int) : List Int := l.take i ++ [x] ++ l.drop (i + 1)
theorem setL_length {l : List Int} {i : Nat} (x : Int) (h : i < l.length) : (setL l i x).length = l.length := by simp [setL]; omega
@[go_sem] theorem setL_size (l : List Int) (i : Nat) (x : Int) : (setL l i x).length = if i < l.length then l.length else l.length + 1 := by
  simp only [setL, List.length_append, List.length_take, List.length_drop, List.length_singleton]; split <;> omega
theorem setL_eq {l : List Int} {i : Nat} (x : Int) (h : i < l.length) : setL l i x = l.set i x := by
  rw [setL, List.set_eq_take_append_cons_drop, if_pos h]; simp
theorem nth_setL {l : List Int} {i : Nat} (x : Int) (h : i < l.length) (j : Nat) : nth (setL l i x) j = if j = i then x else nth l j := by
  rw [setL_eq x h]
  simp only [nth, List.getD_eq_getElem?_getD, List.getElem?_set]
  by_cases e : i = j
  · subst e; simp [h]
  · have : ¬ j = i := fun e' => e e'.symm
    simp [e, this]

@[go_sem] theorem loadC_IL (k : IntKind) (l : List Int) (i : Nat) : loadC (IL k l) i = if i < l.length then some (.c (.lit (.int k (nth l i)))) else none := by
  unfold loadC IL
  rw [List.getElem?_map]
  by_cases h : i < l.length
  · rw [if_pos h, List.getElem?_eq_getElem h, nth_lt h]; rfl
  · rw [if_neg h, List.getElem?_eq_none (by omega)]; rfl
@[go_sem] theorem spliceA_IL (k : IntKind) (l : List Int) (x : Int) (i : Nat) : spliceA (IL k l) [.lit (.int k x)] i = IL k (setL l i x) := by
  simp [spliceA, IL, setL]
/-- Some numbers anew, from a place on. -/
def layL (l m : List Int) (i : Nat) : List Int := l.take i ++ m ++ l.drop (i + m.length)
@[go_sem] theorem spliceA_all (k : IntKind) (l m : List Int) (i : Nat) : spliceA (IL k l) (IL k m) i = IL k (layL l m i) := by
  simp [spliceA, IL, layL]
@[go_sem] theorem layL_length (l m : List Int) (i : Nat) : (layL l m i).length = min i l.length + m.length + (l.length - (i + m.length)) := by simp only [layL, List.length_append, List.length_take, List.length_drop]
theorem layL_full {l m : List Int} (h : l.length = m.length) : layL l m 0 = m := by simp [layL, h]
@[go_sem] theorem pieceL_IL (k : IntKind) (xs : List Int) (l h : Int) : pieceL 1 l h (IL k xs) = IL k ((xs.drop l.toNat).take (h.toNat - l.toNat)) := by
  simp [pieceL, IL]
theorem zerosL_int (k : IntKind) (x : Int) (n : Nat) : zerosL #[.int k x] n = IL k (List.replicate n x) := by
  apply List.ext_getElem
  · simp [zerosL, IL]
  · intro i h1 h2
    simp [zerosL, IL, Nat.mod_one]
attribute [go_sem] zerosL_int
@[go_sem] theorem map_if_some {α β : Type} (f : α → β) (c : Prop) [Decidable c] (x : α) : Option.map f (if c then some x else none) = if c then some (f x) else none := by split <;> rfl
@[go_sem] theorem ResV_if (s : St) (r v : AV) (c : Prop) [Decidable c] : ResV s r (if c then some v else none) = (c ∧ pubA (lowBox s) v = r) := by
  split
  · rename_i h; simp [ResV, h]
  · rename_i h; simp [ResV, h]
@[go_sem] theorem ren_c (f : Nat → Nat) (a : AC) : (AV.c a).ren f = .c (a.ren f) := rfl
@[go_sem] theorem ren_agg (f : Nat → Nat) (cs : List AC) : (AV.agg cs).ren f = .agg (renL f cs) := rfl
@[go_sem] theorem renC_lit (f : Nat → Nat) (v : Value) : (AC.lit v).ren f = .lit v := rfl
@[go_sem] theorem renC_list (f : Nat → Nat) (n : Nat) (l : List AC) : (AC.list n l).ren f = .list n l := rfl
@[go_sem] theorem renC_iptr (f : Nat → Nat) (l : List AC) : (AC.iptr l).ren f = .iptr l := rfl
@[go_sem] theorem renC_ptr (f : Nat → Nat) (b o : Nat) : (AC.ptr b o).ren f = .ptr (f b) o := rfl
@[go_sem] theorem renC_sl (f : Nat → Nat) (b n sz : Nat) (nl : Bool) : (AC.sl b n sz nl).ren f = .sl (f b) n sz nl := rfl
@[go_sem] theorem renC_clo (f : Nat → Nat) (k : Nat) (a b : List AC) : (AC.clo k a b).ren f = .clo k a b := rfl
@[go_sem] theorem renC_opq (f : Nat → Nat) (p : Mem → Value → Prop) : (AC.opq p).ren f = .opq p := rfl
@[go_sem] theorem renC_junk (f : Nat → Nat) : AC.junk.ren f = .junk := rfl
@[go_sem] theorem renL_nil (f : Nat → Nat) : renL f [] = [] := rfl
@[go_sem] theorem renL_cons (f : Nat → Nat) (a : AC) (l : List AC) : renL f (a :: l) = a.ren f :: renL f l := rfl
@[go_sem] theorem renB_mk (f : Nat → Nat) (cs : List AC) (p : Nat) (nl row : Bool) : (Box.mk cs p nl row).ren f = ⟨renL f cs, p, nl, row⟩ := rfl
@[go_sem] theorem swp_nil (b : Nat) : swp [] b = b := rfl
@[go_sem] theorem swp_cons (x y : Nat) (l : List (Nat × Nat)) (b : Nat) : swp ((x, y) :: l) b = sw1 x y (swp l b) := rfl
@[go_sem] theorem sw1_eq (x y b : Nat) : sw1 x y b = if b = x then y else if b = y then x else b := rfl

attribute [go_sem] Nat.mul_one Nat.one_mul Int.toNat_natCast Nat.lt_irrefl Nat.sub_zero List.length_append List.length_map List.length_replicate List.reverse_cons List.reverse_nil List.not_mem_nil List.contains_cons List.contains_nil beq_iff_eq
  Nat.zero_add Int.toNat_zero Int.cast_ofNat_Int List.all_cons List.all_nil decide_true decide_false List.drop_drop List.take_length List.length_drop List.length_take List.length_range List.nil_append
end Go.Ev
