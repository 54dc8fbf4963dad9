/-
  Whole numbers as texts, and back: in plain words.
-/
import Derived.Test.YtldofkogmkfpjaaGreatDoorWPLex
namespace Go.Sy
set_option linter.unusedVariables false

theorem form_abs (L : List UInt8) : (isMin L = true ∧ L = 45 :: absL L) ∨ (isMin L = false ∧ absL L = L ∧ (∀ c l, L = c :: l → c ≠ 45)) := by
  unfold isMin absL Lib.trimPrefix Lib.hasPrefix
  cases L with
  | nil => exact .inr ⟨rfl, rfl, fun c l h => by cases h⟩
  | cons c l =>
    by_cases h : c = 45
    · subst h; exact .inl ⟨by simp, by simp⟩
    · have hb : ((45 : UInt8) == c) = false := by rw [beq_eq_false_iff_ne]; exact fun e => h e.symm
      have hf : List.isPrefixOf [45] (c :: l) = false := by
        show ((45 : UInt8) == c && List.isPrefixOf [] l) = false
        rw [hb]; rfl
      refine .inr ⟨hf, ?_, fun c' l' e => by cases e; exact h⟩
      rw [hf]; rfl
theorem abs_min (l : List UInt8) : isMin (45 :: l) = true ∧ absL (45 :: l) = l := by
  rcases form_abs (45 :: l) with ⟨h1, h2⟩ | ⟨_, _, h⟩
  · exact ⟨h1, (List.cons.inj h2).2.symm⟩
  · exact absurd rfl (h 45 l rfl)
theorem abs_dig {l : List UInt8} (h : l.all isDig = true) : isMin l = false ∧ absL l = l := by
  rcases form_abs l with ⟨h1, h2⟩ | ⟨h1, h2, _⟩
  · rw [h2] at h
    exact absurd h (by simp [isDig])
  · exact ⟨h1, h2⟩
theorem ofNat_dig {d : Nat} (h : d < 10) : isDig (UInt8.ofNat (48 + d)) = true ∧ dig (UInt8.ofNat (48 + d)) = d := by
  have e : (UInt8.ofNat (48 + d)).toNat = 48 + d := by rw [UInt8.toNat_ofNat']; omega
  unfold isDig dig
  rw [e, decide_eq_true (by omega), decide_eq_true (by omega)]
  exact ⟨rfl, by omega⟩
theorem dec_all : ∀ n : Nat, (Lib.decDigits n).all isDig = true ∧ dval (Lib.decDigits n) = n ∧ Lib.decDigits n ≠ [] ∧ ((Lib.decDigits n).getD 0 0 = 48 → n = 0) := by
  intro n
  induction n using Nat.strongRecOn with
  | _ n ih =>
    by_cases h : n < 10
    · rw [dec_small h]
      obtain ⟨h1, h2⟩ := ofNat_dig h
      refine ⟨by rw [List.all_cons, h1]; rfl, ?_, by simp, fun e => ?_⟩
      · show 0 * 10 + dig _ = _; rw [h2]; omega
      · have e2 : UInt8.ofNat (48 + n) = 48 := e
        rw [e2] at h2
        have e3 : dig 48 = 0 := rfl
        omega
    · rw [dec_big h]
      obtain ⟨h1, h2, h3, h4⟩ := ih (n / 10) (by omega)
      obtain ⟨g1, g2⟩ := ofNat_dig (d := n % 10) (by omega)
      refine ⟨by rw [List.all_append, h1, List.all_cons, g1]; rfl, ?_, by simp, fun e => ?_⟩
      · rw [dval_snoc, h2, g2]; omega
      · have : (Lib.decDigits (n / 10) ++ [UInt8.ofNat (48 + n % 10)]).getD 0 0 = (Lib.decDigits (n / 10)).getD 0 0 := by
          cases hl : Lib.decDigits (n / 10) with
          | nil => exact absurd hl h3
          | cons => rfl
        rw [this] at e
        have := h4 e
        omega
theorem itoa_form (v : Int) : formL (Lib.itoa v) = true ∧ numL (Lib.itoa v) = v := by
  by_cases h : v < 0
  · obtain ⟨h1, h2, h3, h4⟩ := dec_all (-v).toNat
    obtain ⟨m1, m2⟩ := abs_min (Lib.decDigits (-v).toNat)
    rw [itoa_neg h]
    unfold formL numL sgn
    rw [m1, m2, h1, h2, decide_eq_false h3, decide_eq_false (fun e => by have := h4 e; omega)]
    exact ⟨rfl, by simp; omega⟩
  · obtain ⟨h1, h2, h3, h4⟩ := dec_all v.toNat
    obtain ⟨m1, m2⟩ := abs_dig h1
    rw [itoa_pos (by omega)]
    unfold formL numL sgn
    rw [m1, m2, h1, h2, decide_eq_false h3]
    refine ⟨?_, by simp; omega⟩
    by_cases e : (Lib.decDigits v.toNat).getD 0 0 = 48
    · have := h4 e
      rw [this, dec_small (by omega)]; rfl
    · rw [decide_eq_false e]; rfl
theorem parse_in {L : List UInt8} (h : formL L = true) (hi : isI (numL L)) : pE L = 0 ∧ pV L = numL L := by
  unfold pE pV
  rw [h, if_pos rfl, if_pos rfl, errV_in hi, clip_in hi]
  exact ⟨rfl, rfl⟩
theorem itoa_len {v : Int} (h : isI v) : (Lib.itoa v).length ≤ 41 := by
  unfold isI at h
  by_cases hv : v < 0
  · rw [itoa_neg hv, List.length_cons]
    have := dec_len (k := 39) (show (-v).toNat < 10 ^ 40 by omega)
    omega
  · rw [itoa_pos (by omega)]
    have := dec_len (k := 39) (show v.toNat < 10 ^ 40 by omega)
    omega
end Go.Sy
