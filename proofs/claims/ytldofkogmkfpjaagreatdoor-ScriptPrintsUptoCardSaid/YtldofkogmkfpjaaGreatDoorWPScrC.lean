/-
  Layer 29 (script), plainly: what the program's functions answer.
-/
import Derived.Test.YtldofkogmkfpjaaGreatDoorWPScrB
import Derived.Test.YtldofkogmkfpjaaGreatDoorWPDec
namespace Go.Sy
open Go.Ev
set_option linter.unusedVariables false
set_option linter.unusedSimpArgs false

def KR : List Kd := [.int .i64, .int .i64, .int .i64, .int .i64, .int .u64, .int .i64, .int .i64, .int .i64, .int .i64, .bool, .int .i64, .int .i64, .int .i64, .ints .u8, .int .i64, .int .u64, .int .i64, .int .u64, .int .i64, .int .i64, .int .i64]
/-- A request that can be told: its numbers, its wide numbers' halves, its bytes. -/
def qOk (n w d : List Int) : Prop := (n.all fun x => decide (isH x)) = true ∧ (isH (w.getD 0 0) ∧ isW (w.getD 1 0)) ∧ (isH (w.getD 2 0) ∧ isW (w.getD 3 0)) ∧ (isH (w.getD 4 0) ∧ isW (w.getD 5 0)) ∧ bytesOk d ∧ d.length ≤ 100000000
instance (n w d : List Int) : Decidable (qOk n w d) := by unfold qOk; exact inferInstance
def wV3 (w : List Int) : List Int := [wVal (w.getD 0 0) (w.getD 1 0), wVal (w.getD 2 0) (w.getD 3 0), wVal (w.getD 4 0) (w.getD 5 0)]
/-- A request's line, with its end. -/
def lnQ (n w d : List Int) : List UInt8 := lineR ⟨n, wV3 w, toB d⟩ ++ [10]
def flagI (b : Bool) : Int := if b then 1 else 0
/-- An element's numbers and bytes. -/
def rI (r : List D) (i : Nat) : Int := (r.getD i (.i 0)).toI
def rN (r : List D) : List Int := [rI r 0, rI r 1, rI r 2, rI r 8, flagI (r.getD 9 (.i 0)).toB, rI r 10, rI r 11, rI r 12, rI r 5, rI r 6, rI r 7, rI r 18, rI r 19, rI r 20]
def rW (r : List D) : List Int := [rI r 3, rI r 4, rI r 14, rI r 15, rI r 16, rI r 17]
def rD (r : List D) : List Int := (r.getD 13 (.i 0)).toL
def lnR (r : List D) : List UInt8 := lnQ (rN r) (rW r) (rD r)
def okR (r : List D) : Prop := qOk (rN r) (rW r) (rD r)
def allR (L : List (List D)) : Prop := ∀ r ∈ L, okR r
instance (r : List D) : Decidable (okR r) := by unfold okR; exact inferInstance
instance (L : List (List D)) : Decidable (allR L) := by unfold allR; exact inferInstance
def prnQ (L : List (List D)) : List UInt8 := L.flatMap lnR

/-! ### reading -/
/-- The first numbers of a line, from the i-th on. -/
def riGo (W : List (List UInt8)) : Nat → List Int → List Int × Bool
  | 0, out => (out, true)
  | k + 1, out => bif atoiB (W.getD (13 - k) []) then riGo W k (out.set (13 - k) (atoiV (W.getD (13 - k) []))) else (out, false)
def riP (W : List (List UInt8)) : List Int × Bool := riGo W 14 (List.replicate 14 0)
def rwGo (W : List (List UInt8)) : Nat → List Int → List Int × Bool
  | 0, out => (out, true)
  | k + 1, out => bif decide (pE (W.getD (16 - k) []) = 0) then rwGo W k ((out.set (2 * (2 - k)) (wHi (pV (W.getD (16 - k) [])))).set (2 * (2 - k) + 1) (wLo (pV (W.getD (16 - k) [])))) else (out, false)
def rwP (W : List (List UInt8)) : List Int × Bool := rwGo W 3 (List.replicate 6 0)
def rowW (W : List (List UInt8)) : List (List D) := W.map fun l => [.s (tx l)]
/-- Has a line the words of a request? -/
def rdP (l : List UInt8) : Bool := decide ((splitW l).length = 18) && ((riP (splitW l)).2 && ((rwP (splitW l)).2 && (Lib.hasPrefix ((splitW l).getD 17 []) [120] && unB (Lib.trimPrefix ((splitW l).getD 17 []) [120]))))
def rdN (l : List UInt8) : List Int := bif rdP l then (riP (splitW l)).1 else List.replicate 14 0
def rdW (l : List UInt8) : List Int := bif rdP l then (rwP (splitW l)).1 else List.replicate 6 0
def rdD (l : List UInt8) : List UInt8 := bif rdP l then unD (Lib.trimPrefix ((splitW l).getD 17 []) [120]) else []
def rdX (l : List UInt8) : Bool := rdP l && decide ((rdN l).getD 4 0 = 1)
def lxN (n : List Int) (x : Bool) : List Int := [n.getD 0 0, n.getD 1 0, n.getD 2 0, n.getD 3 0, flagI x, n.getD 5 0, n.getD 6 0, n.getD 7 0, n.getD 8 0, n.getD 9 0, n.getD 10 0, n.getD 11 0, n.getD 12 0, n.getD 13 0]
def rdB (l : List UInt8) : Bool := rdP l && decide (lnQ (lxN (rdN l) (rdX l)) (rdW l) (byI (rdD l)) = l ++ [10])
/-- The element that is read. -/
def rdR (l : List UInt8) : List D := [.i ((rdN l).getD 0 0), .i ((rdN l).getD 1 0), .i ((rdN l).getD 2 0), .i ((rdW l).getD 0 0), .i ((rdW l).getD 1 0), .i ((rdN l).getD 8 0), .i ((rdN l).getD 9 0), .i ((rdN l).getD 10 0), .i ((rdN l).getD 3 0), .b (rdX l), .i ((rdN l).getD 5 0), .i ((rdN l).getD 6 0), .i ((rdN l).getD 7 0), .l (byI (rdD l)), .i ((rdW l).getD 2 0), .i ((rdW l).getD 3 0), .i ((rdW l).getD 4 0), .i ((rdW l).getD 5 0), .i ((rdN l).getD 11 0), .i ((rdN l).getD 12 0), .i ((rdN l).getD 13 0)]
/-- A text's requests; else the number of the first line that is none. -/
def psGo : Nat → List UInt8 → Nat → List (List D) → List (List D) × Int
  | 0, _, _, _ => ([], 0)
  | k + 1, t, n, out => if t = [] then (out, 0) else
      bif rdB (t.takeWhile (· ≠ 10)) && decide (10 ∈ t) then psGo k ((t.dropWhile (· ≠ 10)).drop 1) (n + 1) (out ++ [rdR (t.takeWhile (· ≠ 10))]) else ([], n)
def psP (t : List UInt8) : List (List D) × Int := psGo (t.length + 1) t 1 []

/-! ### the document's reading -/
end Go.Sy
