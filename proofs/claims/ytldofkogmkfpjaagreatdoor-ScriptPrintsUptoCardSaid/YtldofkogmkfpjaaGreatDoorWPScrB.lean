/-
  Layer 29 (script), plainly: what the library answers.
-/
import Derived.Test.YtldofkogmkfpjaaGreatDoorWPScr
import Derived.Lib.AtoiAllCases
import Derived.Lib.SplitLaws
import Derived.Lib.CountLaws
import Derived.Lib.IndexLaws
import Derived.Lib.IndexBytes
namespace Go.Sy
open Go.Ev
set_option linter.unusedVariables false
set_option linter.unusedSimpArgs false

/-! ### Atoi -/
def atoiB (l : List UInt8) : Bool := match Lib.atoiAll l with
  | .ok _ => true
  | _ => false
/-- No number at all. -/
def isNoN : Lib.NumEnd Int → Prop
  | .ok _ => False
  | .range => False
  | _ => True
def atoiV (l : List UInt8) : Int := match Lib.atoiAll l with
  | .ok v => v
  | .range => Lib.atoiSat l
  | _ => 0
theorem atoi_cases (l : List UInt8) : (atoiB l = true ∧ Lib.atoiAll l = .ok (atoiV l)) ∨ (atoiB l = false ∧ (isNoN (Lib.atoiAll l) ∧ atoiV l = 0 ∨ Lib.atoiAll l = .range ∧ atoiV l = Lib.atoiSat l)) := by
  unfold atoiB atoiV
  cases h : Lib.atoiAll l with
  | ok v => exact .inl ⟨rfl, rfl⟩
  | range => exact .inr ⟨rfl, .inr ⟨rfl, rfl⟩⟩
  | _ => exact .inr ⟨rfl, .inl ⟨trivial, rfl⟩⟩
theorem atoiV_in {l : List UInt8} (h : atoiB l = true) : isH (atoiV l) := by
  rcases atoi_cases l with ⟨_, h2⟩ | ⟨h1, _⟩
  · have := Lib.atoiAll_bounds h2
    unfold isH; omega
  · rw [h] at h1; cases h1

/-! ### Split -/
theorem index_cut (l : List UInt8) (c : UInt8) : (Lib.indexByte l c = -1 ∧ ∀ x ∈ l, x ≠ c) ∨ ∃ i : Nat, Lib.indexByte l c = i ∧ l = l.take i ++ c :: l.drop (i + 1) ∧ ∀ x ∈ l.take i, x ≠ c := by
  have hg := Lib.indexByte_ge l c
  rcases Int.lt_or_le (Lib.indexByte l c) 0 with h | h
  · have e : Lib.indexByte l c = -1 := by omega
    refine .inl ⟨e, fun x hx hc => ?_⟩
    obtain ⟨k, hk, rfl⟩ := List.getElem_of_mem hx
    exact Lib.indexByte_none e k (by rw [List.getElem?_eq_getElem hk, hc])
  · obtain ⟨i, hi⟩ := Int.eq_ofNat_of_zero_le h
    obtain ⟨h1, h2⟩ := Lib.indexByte_some (o := i) hi
    obtain ⟨hlt, he⟩ := List.getElem?_eq_some_iff.1 h1
    refine .inr ⟨i, hi, ?_, fun x hx hc => ?_⟩
    · conv => lhs; rw [← List.take_append_drop i l, List.drop_eq_getElem_cons hlt, he]
    · obtain ⟨k, hk, rfl⟩ := List.getElem_of_mem hx
      rw [List.length_take] at hk
      rw [List.getElem_take] at hc
      exact h2 k (by omega) (by rw [List.getElem?_eq_getElem (by omega), hc])
theorem splitK_A (c : UInt8) : ∀ (n : Nat) (l : List UInt8), l.length ≤ n → Lib.splitK [c] 0 (Lib.count l [c]) l = splitA c [] l
  | n, l, hn => by
    rcases index_cut l c with ⟨h, hx⟩ | ⟨i, h, hl, hx⟩
    · have hi : Lib.index l [c] = -1 := (Lib.index_one l c).trans h
      rw [Lib.count_miss hi, splitA_one c l [] hx]; rfl
    · have hi : Lib.index l [c] = i := (Lib.index_one l c).trans h
      have hlt : i < l.length := by
        have := congrArg List.length hl
        rw [List.length_append, List.length_cons, List.length_take, List.length_drop] at this
        omega
      rw [Lib.count_hit (by simp) hi, Nat.add_comm, Lib.splitK, hi, if_neg (by simp), Int.toNat_natCast]
      cases n with
      | zero => omega
      | succ n =>
        have ih := splitK_A c n (l.drop (i + 1)) (by rw [List.length_drop]; omega)
        simp only [List.length_cons, List.length_nil, Nat.zero_add, Nat.add_zero]
        rw [ih]
        conv => rhs; rw [hl, splitA_app c _ [] _ hx]
        rfl
theorem splitB_W (s : ByteArray) : (Lib.splitB ⟨#[32]⟩ 0 (Lib.countB s ⟨#[32]⟩) s).map (fun x => x.data.toList) = splitW s.data.toList := by
  rw [Lib.splitB_data]
  exact splitK_A 32 _ _ (Nat.le_refl _)

/-! ### bytes as whole numbers -/
def toB (l : List Int) : List UInt8 := l.map fun x => UInt8.ofNat x.toNat
def byI (l : List UInt8) : List Int := l.map fun c => ((c.toNat : Nat) : Int)
theorem toB_byI (l : List UInt8) : toB (byI l) = l := by
  unfold toB byI
  rw [List.map_map]
  conv => rhs; rw [← List.map_id l]
  apply List.map_congr_left
  intro x _
  simp
theorem bytesOk_byI (l : List UInt8) : bytesOk (byI l) := by
  unfold bytesOk byI
  rw [List.all_eq_true]
  intro x hx
  obtain ⟨c, _, rfl⟩ := List.mem_map.1 hx
  have := c.toNat_lt
  rw [Bool.and_eq_true, decide_eq_true_eq, decide_eq_true_eq]
  omega
theorem byI_len (l : List UInt8) : (byI l).length = l.length := List.length_map _
theorem toB_len (l : List Int) : (toB l).length = l.length := List.length_map _
def unB (l : List UInt8) : Bool := (unhP l).isSome
def unD (l : List UInt8) : List UInt8 := (unhP l).getD []
end Go.Sy
