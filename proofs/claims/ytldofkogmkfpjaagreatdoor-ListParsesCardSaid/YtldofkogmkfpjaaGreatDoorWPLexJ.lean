/-
  Lines, joined and taken apart again.
-/
import Derived.Test.YtldofkogmkfpjaaGreatDoorWPLexLaw
namespace Go.Sy
set_option linter.unusedVariables false
/-- Lines, each ended. -/
def joinL (L : List (List UInt8)) : List UInt8 := (L.map (· ++ [10])).flatten
theorem linesA_app : ∀ (l acc rest : List UInt8), (∀ c ∈ l, c ≠ 10) → linesA acc (l ++ 10 :: rest) = (acc ++ l) :: linesA [] rest
  | [], acc, rest, _ => by rw [List.nil_append, linesA, if_pos rfl, List.append_nil]
  | c :: l, acc, rest, h => by
    rw [List.cons_append, linesA, if_neg (h c (by simp)), linesA_app l (acc ++ [c]) rest fun x hx => h x (by simp [hx]), List.append_assoc]; rfl
theorem linesA_one : ∀ (l acc : List UInt8), (∀ c ∈ l, c ≠ 10) → linesA acc l = if acc ++ l = [] then [] else [acc ++ l]
  | [], acc, _ => by rw [linesA, List.append_nil]
  | c :: l, acc, h => by
    rw [linesA, if_neg (h c (by simp)), linesA_one l (acc ++ [c]) fun x hx => h x (by simp [hx]), List.append_assoc]; rfl
theorem lines_joinA : ∀ (L : List (List UInt8)) (y : List UInt8), (∀ l ∈ L, ∀ c ∈ l, c ≠ 10) → linesP (joinL L ++ y) = L ++ linesP y
  | [], y, _ => rfl
  | l :: L, y, h => by
    have e : joinL (l :: L) ++ y = l ++ 10 :: (joinL L ++ y) := by
      unfold joinL; rw [List.map_cons, List.flatten_cons]; simp only [List.append_assoc, List.cons_append, List.nil_append]
    rw [e]
    unfold linesP
    rw [linesA_app l [] _ (h l (by simp)), List.nil_append]
    have := lines_joinA L y fun x hx => h x (by simp [hx])
    unfold linesP at this
    rw [this]; rfl
theorem lines_join {L : List (List UInt8)} (h : ∀ l ∈ L, ∀ c ∈ l, c ≠ 10) : linesP (joinL L) = L := by
  have := lines_joinA L [] h
  rwa [List.append_nil, show linesP [] = [] from rfl, List.append_nil] at this
theorem joinL_snoc (L : List (List UInt8)) (x : List UInt8) : joinL (L ++ [x]) = joinL L ++ x ++ [10] := by
  unfold joinL; rw [List.map_append, List.flatten_append]; simp
theorem lines_last {L : List (List UInt8)} {x : List UInt8} (h : ∀ l ∈ L ++ [x], ∀ c ∈ l, c ≠ 10) (hx : x ≠ []) : linesP ((joinL (L ++ [x])).take ((joinL (L ++ [x])).length - 1)) = L ++ [x] := by
  rw [joinL_snoc, List.length_append, List.length_singleton, Nat.add_sub_cancel, List.take_left, lines_joinA L x fun l hl => h l (by simp [hl])]
  unfold linesP
  rw [linesA_one x [] (h x (by simp)), List.nil_append, if_neg hx]
theorem joinL_len (L : List (List UInt8)) : (joinL L).length = (L.map List.length).sum + L.length := by
  induction L with
  | nil => rfl
  | cons l L ih =>
    unfold joinL at ih ⊢
    rw [List.map_cons, List.flatten_cons, List.length_append, ih, List.length_append, List.map_cons, List.sum_cons, List.length_cons]; simp only [List.length_cons, List.length_nil]; omega
theorem joinL_take {L : List (List UInt8)} {i : Nat} (h : i < L.length) : joinL (L.take (i + 1)) = joinL (L.take i) ++ L.getD i [] ++ [10] := by
  rw [List.take_succ_eq_append_getElem h, joinL_snoc, List.getD_eq_getElem?_getD, List.getElem?_eq_getElem h]; rfl
theorem joinL_le (L : List (List UInt8)) (i : Nat) : (joinL (L.take i)).length ≤ (joinL L).length := by
  have : joinL L = joinL (L.take i) ++ joinL (L.drop i) := by
    unfold joinL; rw [← List.flatten_append, ← List.map_append, List.take_append_drop]
  rw [this, List.length_append]; omega
end Go.Sy
