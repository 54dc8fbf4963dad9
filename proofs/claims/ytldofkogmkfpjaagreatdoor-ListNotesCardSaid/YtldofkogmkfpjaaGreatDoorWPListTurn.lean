/-
  Layer 11 (list), plainly: one digit of the sum turned.
-/
import Derived.Test.YtldofkogmkfpjaaGreatDoorWPListMix
namespace Go.Sy
open Go.Ev Go.Sy.Sh
set_option linter.unusedVariables false
set_option linter.unusedSimpArgs false

/-- The eight digits of a number, to the base 16. -/
def dig8 (v : Nat) : List Nat := [v / 268435456 % 16, v / 16777216 % 16, v / 1048576 % 16, v / 65536 % 16, v / 4096 % 16, v / 256 % 16, v / 16 % 16, v / 1 % 16]
def val8 (l : List Nat) : Nat := l.getD 0 0 * 268435456 + l.getD 1 0 * 16777216 + l.getD 2 0 * 1048576 + l.getD 3 0 * 65536 + l.getD 4 0 * 4096 + l.getD 5 0 * 256 + l.getD 6 0 * 16 + l.getD 7 0
theorem hex8_dig (v : Nat) : hex8 v = (dig8 v).map hexc := hex8_eq v
theorem dig8_lt (v : Nat) : ∀ d ∈ dig8 v, d < 16 := by
  intro d hd
  unfold dig8 at hd
  simp only [List.mem_cons, List.not_mem_nil, or_false] at hd
  omega
theorem dig8_val : ∀ l : List Nat, l.length = 8 → (∀ d ∈ l, d < 16) → dig8 (val8 l) = l ∧ val8 l < 4294967296
  | [a, b, c, d, e, f, g, h], _, hl => by
    simp only [List.mem_cons, List.not_mem_nil, or_false, forall_eq_or_imp, forall_eq] at hl
    obtain ⟨h0, h1, h2, h3, h4, h5, h6, h7⟩ := hl
    have hv : val8 [a, b, c, d, e, f, g, h] = a * 268435456 + b * 16777216 + c * 1048576 + d * 65536 + e * 4096 + f * 256 + g * 16 + h := rfl
    rw [hv]
    refine ⟨?_, by omega⟩
    unfold dig8
    simp only [List.cons.injEq, and_true]
    refine ⟨?_, ?_, ?_, ?_, ?_, ?_, ?_, ?_⟩ <;> omega
/-- One digit is another one. -/
theorem turn_word {v i d : Nat} (hi : i < 8) (hd : d < 16) (hne : (dig8 v).getD i 0 ≠ d) : ∃ v', v' < 4294967296 ∧ v' ≠ v ∧ hex8 v' = (hex8 v).set i (hexc d) := by
  have h8 : (dig8 v).length = 8 := rfl
  have hl : ((dig8 v).set i d).length = 8 := by rw [List.length_set]; rfl
  have hb : ∀ x ∈ (dig8 v).set i d, x < 16 := fun x hx => by
    rcases List.mem_or_eq_of_mem_set hx with h | h
    · exact dig8_lt v x h
    · rw [h]; exact hd
  obtain ⟨e1, e2⟩ := dig8_val _ hl hb
  refine ⟨val8 ((dig8 v).set i d), e2, fun e => ?_, ?_⟩
  · rw [e] at e1
    have : (dig8 v).getD i 0 = d := by
      rw [e1]
      rw [List.getD_eq_getElem?_getD, List.getElem?_set_self (by rw [h8]; exact hi)]; rfl
    exact hne this
  · rw [hex8_dig, hex8_dig, e1, List.map_set]
theorem hexc_inj0 : ∀ d < 16, (hexc d = 48 ↔ d = 0) := by decide
/-- The file whose word at q from behind has its digit at j from behind turned is told so. -/
theorem turned_parse {u x : Int} {L : List (List D)} (h : (chkP u x L).2 = 0) (hn : ∀ e ∈ L, normR e = e) {q j : Nat} (hq : q < 5) (hj : j < 8) :
    let T := prnL u x L
    let p := T.length - (q * 9 + j + 2)
    q * 9 + j + 2 ≤ T.length ∧ parT (T.set p (if T.getD p 0 = 48 then 102 else 48)) = ((0, 0, []), ((L.length : Int) + 3, 11)) := by
  intro T p
  have hw5 := wordsN_len (bytN (dgL u x L))
  have hwl := wordsN_lt (bytN (dgL u x L))
  have hT : T = joinL (fileL u x L (wordsN (bytN (dgL u x L)))) := rfl
  have hne : ∀ w, w.length = 5 → (∀ x ∈ w, x < 4294967296) → wordsN (bytN (dgL u x L)) ≠ w → parT (joinL (fileL u x L w)) = ((0, 0, []), ((L.length : Int) + 3, 11)) := fun w h5 hw hne => by
    rw [parT_file h hn h5 hw, if_neg hne]
  generalize wordsN (bytN (dgL u x L)) = W at hw5 hwl hT hne
  have hlt : 4 - q < W.length := by omega
  have hsplit : W = W.take (4 - q) ++ W[4 - q] :: W.drop (5 - q) := by
    rw [show 5 - q = 4 - q + 1 by omega, ← List.drop_eq_getElem_cons hlt, List.take_append_drop]
  have h2 : (W.drop (5 - q)).length = q := by rw [List.length_drop]; omega
  generalize W.take (4 - q) = W1 at hsplit
  generalize W[4 - q] = v at hsplit
  generalize W.drop (5 - q) = W2 at hsplit h2
  subst hsplit
  have flen : ∀ w : List Nat, (w.flatMap fun x => 9 :: hex8 x).length = 9 * w.length := fun w => by
    have := lnH_len w
    unfold lnH at this
    rw [List.length_append] at this
    simp only [List.length_cons, List.length_nil] at this
    omega
  have form : ∀ z, joinL (fileL u x L (W1 ++ z :: W2)) = (joinL ([lnU u, lnX x] ++ L.map lnE) ++ ([35, 104] ++ (W1.flatMap fun x => 9 :: hex8 x) ++ [9])) ++ (hex8 z ++ ((W2.flatMap fun x => 9 :: hex8 x) ++ [10])) := fun z => by
    unfold fileL lnH
    rw [← List.append_assoc, joinL_snoc]
    simp
  generalize hX : joinL ([lnU u, lnX x] ++ L.map lnE) ++ ([35, 104] ++ (W1.flatMap fun x => 9 :: hex8 x) ++ [9]) = X at form
  have hY : ((W2.flatMap fun x => 9 :: hex8 x) ++ [10]).length = 9 * q + 1 := by rw [List.length_append, flen, h2]; rfl
  generalize (W2.flatMap fun x => 9 :: hex8 x) ++ [10] = Y at form hY
  have hT2 : T = X ++ (hex8 v ++ Y) := hT.trans (form v)
  have hTl : T.length = X.length + (8 + (9 * q + 1)) := by rw [hT2, List.length_append, List.length_append, hex8_len, hY]
  have hp : p = X.length + (7 - j) := by show T.length - _ = _; omega
  refine ⟨by omega, ?_⟩
  have hd16 : (dig8 v).getD (7 - j) 0 < 16 := dig8_lt v _ (by
    rw [List.getD_eq_getElem?_getD, List.getElem?_eq_getElem (show 7 - j < (dig8 v).length by show 7 - j < 8; omega)]
    exact List.getElem_mem _)
  have hget : T.getD p 0 = hexc ((dig8 v).getD (7 - j) 0) := by
    rw [hT2, hp]
    simp only [List.getD_eq_getElem?_getD]
    rw [List.getElem?_append_right (Nat.le_add_right _ _), Nat.add_sub_cancel_left, List.getElem?_append_left (by rw [hex8_len]; omega), hex8_dig, List.getElem?_map]
    rw [List.getElem?_eq_getElem (show 7 - j < (dig8 v).length by show 7 - j < 8; omega)]; rfl
  have hset : ∀ c, T.set p c = X ++ ((hex8 v).set (7 - j) c ++ Y) := fun c => by
    rw [hT2, hp, List.set_append_right _ _ (Nat.le_add_right _ _), Nat.add_sub_cancel_left, List.set_append_left _ _ (by rw [hex8_len]; omega)]
  have fin : ∀ d, d < 16 → (dig8 v).getD (7 - j) 0 ≠ d → parT (T.set p (hexc d)) = ((0, 0, []), ((L.length : Int) + 3, 11)) := fun d hd hnd => by
    obtain ⟨v', v1, v2, v3⟩ := turn_word (i := 7 - j) (by omega) hd hnd
    rw [hset, ← v3, ← form v']
    refine hne _ (by simpa using hw5) (fun y hy => ?_) (fun e => ?_)
    · simp only [List.mem_append, List.mem_cons] at hy
      rcases hy with hy | rfl | hy
      · exact hwl y (by simp [hy])
      · exact v1
      · exact hwl y (by simp [hy])
    · have := List.append_cancel_left e
      simp only [List.cons.injEq, and_true] at this
      exact v2 this.symm
  rw [hget]
  by_cases h0 : hexc ((dig8 v).getD (7 - j) 0) = 48
  · rw [if_pos h0]
    exact fin 15 (by decide) (by rw [(hexc_inj0 _ hd16).1 h0]; decide)
  · rw [if_neg h0]
    exact fin 0 (by decide) (fun e => h0 ((hexc_inj0 _ hd16).2 e))
end Go.Sy
