/-
  The sum of bytes, as plain functions.
-/
import Derived.Test.YtldofkogmkfpjaaGreatDoorWPBits
namespace Go.Sy.Sh
open Go.Ev Go.Sy
def rotN (x k : Nat) : Nat := x * 2 ^ k % 4294967296 + x / 2 ^ (32 - k)
def fN (t b c d : Nat) : Nat := if t / 20 = 0 then (b &&& c) ||| ((4294967295 - b) &&& d) else if t / 20 = 2 then (b &&& c) ||| (b &&& d) ||| (c &&& d) else b ^^^ c ^^^ d
def kN (t : Nat) : Nat := if t / 20 = 0 then 1518500249 else if t / 20 = 1 then 1859775393 else if t / 20 = 2 then 2400959708 else 3395469782
def wordN (b : List Nat) (i : Nat) : Nat := nthN b i * 16777216 + nthN b (i + 1) * 65536 + nthN b (i + 2) * 256 + nthN b (i + 3)
/-- The first t words that come of a block. -/
def sp (b : List Nat) : Nat → List Nat
  | 0 => []
  | t + 1 => sp b t ++ [if t < 16 then wordN b (4 * t) else rotN (nthN (sp b t) (t - 3) ^^^ nthN (sp b t) (t - 8) ^^^ nthN (sp b t) (t - 14) ^^^ nthN (sp b t) (t - 16)) 1]
def stepN (t : Nat) (x : List Nat) (w : Nat) : List Nat :=
  [(rotN (nthN x 0) 5 + fN t (nthN x 1) (nthN x 2) (nthN x 3) + nthN x 4 + kN t + w) % 4294967296, nthN x 0, rotN (nthN x 1) 30, nthN x 2, nthN x 3]
def xs (s w : List Nat) : Nat → List Nat
  | 0 => s
  | t + 1 => stepN t (xs s w t) (nthN w t)
end Go.Sy.Sh
