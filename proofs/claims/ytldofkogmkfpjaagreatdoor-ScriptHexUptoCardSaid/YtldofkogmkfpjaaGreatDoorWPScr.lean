/-
  Layer 29 (script), plainly: requests as lines.
-/
import Derived.Test.YtldofkogmkfpjaaGreatDoorWPHex
namespace Go.Sy
open Go.Ev
set_option linter.unusedVariables false
set_option linter.unusedSimpArgs false
set_option maxRecDepth 20000

/-! ### bytes as digits -/
def hexB (d : List UInt8) : List UInt8 := d.flatMap fun c => [hexc (c.toNat / 16), hexc (c.toNat % 16)]
def unhP : List UInt8 → Option (List UInt8)
  | [] => some []
  | [_] => none
  | a :: b :: l => if isHex a && isHex b then (unhP l).map ((UInt8.ofNat ((hexd a).toNat * 16 + (hexd b).toNat)) :: ·) else none
theorem hexB_len (d : List UInt8) : (hexB d).length = 2 * d.length := by
  induction d with
  | nil => rfl
  | cons c d ih => unfold hexB at ih ⊢; rw [List.flatMap_cons, List.length_append, ih]; simp; omega
theorem hexc_hexd : ∀ n < 256, isHex (UInt8.ofNat n) = true → hexc (hexd (UInt8.ofNat n)).toNat = UInt8.ofNat n ∧ (hexd (UInt8.ofNat n)).toNat < 16 := by decide
theorem hexc_of {c : UInt8} (h : isHex c = true) : hexc (hexd c).toNat = c ∧ (hexd c).toNat < 16 := by
  have := hexc_hexd c.toNat c.toNat_lt
  rw [UInt8.ofNat_toNat] at this
  exact this h
theorem hex_unh : ∀ (l d : List UInt8), unhP l = some d → hexB d = l
  | [], d, h => by cases h; rfl
  | [_], d, h => by cases h
  | a :: b :: l, d, h => by
    rw [unhP] at h
    split at h
    · rename_i hc
      rw [Bool.and_eq_true] at hc
      obtain ⟨e, he, rfl⟩ := Option.map_eq_some_iff.1 h
      have ih := hex_unh l e he
      obtain ⟨ha, ha2⟩ := hexc_of hc.1
      obtain ⟨hb, hb2⟩ := hexc_of hc.2
      show hexc ((UInt8.ofNat ((hexd a).toNat * 16 + (hexd b).toNat)).toNat / 16) :: hexc ((UInt8.ofNat ((hexd a).toNat * 16 + (hexd b).toNat)).toNat % 16) :: hexB e = _
      have ht : (UInt8.ofNat ((hexd a).toNat * 16 + (hexd b).toNat)).toNat = (hexd a).toNat * 16 + (hexd b).toNat := by
        rw [UInt8.toNat_ofNat']; omega
      rw [ht, show ((hexd a).toNat * 16 + (hexd b).toNat) / 16 = (hexd a).toNat by omega, show ((hexd a).toNat * 16 + (hexd b).toNat) % 16 = (hexd b).toNat by omega, ha, hb, ih]
    · cases h

/-! ### words of a line -/
def splitA (c : UInt8) : List UInt8 → List UInt8 → List (List UInt8)
  | acc, [] => [acc]
  | acc, x :: l => if x = c then acc :: splitA c [] l else splitA c (acc ++ [x]) l
def splitW (l : List UInt8) : List (List UInt8) := splitA 32 [] l
def joinW (ws : List (List UInt8)) : List UInt8 := List.intercalate [32] ws
theorem inter_cons (c : UInt8) : ∀ (ws : List (List UInt8)) (x : List UInt8), List.intercalate [c] (x :: ws) = x ++ ws.flatMap fun w => c :: w
  | [], x => by simp [List.intercalate]
  | y :: ws, x => by
    have ih := inter_cons c ws y
    unfold List.intercalate at ih ⊢
    rw [List.intersperse_cons_cons, List.flatten_cons, List.flatten_cons, ih, List.flatMap_cons]
    simp
theorem splitA_app (c : UInt8) : ∀ (l acc rest : List UInt8), (∀ x ∈ l, x ≠ c) → splitA c acc (l ++ c :: rest) = (acc ++ l) :: splitA c [] rest
  | [], acc, rest, _ => by simp [splitA]
  | x :: l, acc, rest, h => by
    have hx := h x (List.mem_cons_self ..)
    rw [List.cons_append, splitA, if_neg hx, splitA_app c l _ rest fun y hy => h y (List.mem_cons_of_mem _ hy)]
    simp
theorem splitA_one (c : UInt8) : ∀ (l acc : List UInt8), (∀ x ∈ l, x ≠ c) → splitA c acc l = [acc ++ l]
  | [], acc, _ => by simp [splitA]
  | x :: l, acc, h => by
    have hx := h x (List.mem_cons_self ..)
    rw [splitA, if_neg hx, splitA_one c l _ fun y hy => h y (List.mem_cons_of_mem _ hy)]
    simp
/-! ### a request -/
structure Rq where
  n : List Int
  v : List Int
  d : List UInt8
def wordsR (q : Rq) : List (List UInt8) := q.n.map Lib.itoa ++ (q.v.map Lib.itoa ++ [120 :: hexB q.d])
def lineR (q : Rq) : List UInt8 := joinW (wordsR q)
structure RqOk (q : Rq) : Prop where
  n : q.n.length = 14
  v : q.v.length = 3
  nH : ∀ x ∈ q.n, isH x
  vI : ∀ x ∈ q.v, isI x
  lax : q.n.getD 4 0 = 0 ∨ q.n.getD 4 0 = 1
end Go.Sy
