/-
  Lines of a leap second file, in plain words.
-/
import Derived.Test.YtldofkogmkfpjaaGreatDoorWPDec
import Derived.Lib.Bytealg
namespace Go.Sy
set_option linter.unusedVariables false

theorem tx_extract (l : List UInt8) (a b : Nat) : (tx l).extract a b = tx ((l.drop a).take (b - a)) := by
  apply ByteArray.ext
  rw [ByteArray.data_extract]
  apply Array.ext'
  simp [tx]
theorem tx_get (s : ByteArray) : ∃ l, s = tx l ∧ l.length = s.size := ⟨s.data.toList, (toList_tx s).symm, Array.length_toList⟩
def isBl (c : UInt8) : Bool := decide (c = 32) || decide (c = 9)
def isHex (c : UInt8) : Bool := isDig c || (decide (97 ≤ c.toNat) && decide (c.toNat ≤ 102))
def hexd (c : UInt8) : Int := if c.toNat ≤ 57 then (c.toNat : Int) - 48 else (c.toNat : Int) - 87
def hval (l : List UInt8) : Int := l.foldl (fun s c => s * 16 + hexd c) 0
structure LnV where
  k : Int
  a : Int
  b : Int
  w : List Int
end Go.Sy
