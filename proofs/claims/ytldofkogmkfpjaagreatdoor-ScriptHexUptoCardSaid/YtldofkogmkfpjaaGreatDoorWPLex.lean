/-
  Lines of a leap second file, in plain words.
-/
import Derived.Test.YtldofkogmkfpjaaGreatDoorWPDec
import Derived.Lib.Bytealg
namespace Go.Sy
set_option linter.unusedVariables false

theorem tx_extract (l : List UInt8) (a b : Nat) : (tx l).extract a b = tx ((l.drop a).take (b - a)) := by
  apply ByteArray.ext
  rw [ByteArray.data_extract]
  apply Array.ext'
  simp [tx]
theorem tx_get (s : ByteArray) : ∃ l, s = tx l ∧ l.length = s.size := ⟨s.data.toList, (toList_tx s).symm, Array.length_toList⟩
def isBl (c : UInt8) : Bool := decide (c = 32) || decide (c = 9)
def isHex (c : UInt8) : Bool := isDig c || (decide (97 ≤ c.toNat) && decide (c.toNat ≤ 102))
def hexd (c : UInt8) : Int := if c.toNat ≤ 57 then (c.toNat : Int) - 48 else (c.toNat : Int) - 87
def hval (l : List UInt8) : Int := l.foldl (fun s c => s * 16 + hexd c) 0
structure LnV where
  k : Int
  a : Int
  b : Int
  w : List Int
theorem fold_bound {f : UInt8 → Int} {B : Int} (hB : 0 < B) : ∀ (l : List UInt8) (s : Int), (∀ c ∈ l, 0 ≤ f c ∧ f c < B) → s * B ^ l.length ≤ l.foldl (fun s c => s * B + f c) s ∧ l.foldl (fun s c => s * B + f c) s < (s + 1) * B ^ l.length
  | [], s, _ => by simp; omega
  | c :: l, s, h => by
    obtain ⟨h1, h2⟩ := fold_bound hB l (s * B + f c) fun x hx => h x (by simp [hx])
    have h3 := h c (by simp)
    have hp : 0 < B ^ l.length := Int.pow_pos hB
    rw [List.foldl_cons, List.length_cons, Int.pow_succ, Int.mul_comm (B ^ l.length) B, ← Int.mul_assoc, ← Int.mul_assoc]
    refine ⟨Int.le_trans (Int.mul_le_mul_of_nonneg_right (by omega) (Int.le_of_lt hp)) h1, Int.lt_of_lt_of_le h2 (Int.mul_le_mul_of_nonneg_right ?_ (Int.le_of_lt hp))⟩
    rw [Int.add_mul]; omega
theorem dval_bound {l : List UInt8} (h : l.all isDig = true) : 0 ≤ dval l ∧ dval l < 10 ^ l.length := by
  rw [List.all_eq_true] at h
  have := fold_bound (f := dig) (B := 10) (by omega) l 0 fun c hc => by have := dig_in (h c hc); omega
  unfold dval
  simpa using this
end Go.Sy
