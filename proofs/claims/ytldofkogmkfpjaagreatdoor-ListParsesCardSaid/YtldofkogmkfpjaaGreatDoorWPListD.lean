/-
  Layer 11 (list), plainly: how a file is read; what is printed.
-/
import Derived.Test.YtldofkogmkfpjaaGreatDoorWPList
import Derived.Test.YtldofkogmkfpjaaGreatDoorWPLexJ
import Derived.Test.YtldofkogmkfpjaaGreatDoorWPSha
import Derived.Test.YtldofkogmkfpjaaGreatDoorWEvC
namespace Go.Sy
open Go.Ev Go.Sy.Sh
set_option linter.unusedVariables false

def bytN (l : List UInt8) : List Nat := l.map UInt8.toNat
noncomputable def sumW (u x : Int) (L : List (List D)) : List Int := castL (wordsN (bytN (dgP u x L)))
def adE (o : Option LnV) (l : List (Int × Int)) (L : List (List D)) : Int := match o with
  | none => 4
  | some v => if v.k ≠ 1 ∧ v.k ≠ 5 ∧ 0 < mapGet l v.k then 4 else if v.k = 5 ∧ behP L v.a v.b = false then 10 else 0
/-- A file that is read, so far. -/
structure RS where
  u : Int
  x : Int
  w : List Int
  m : List (Int × Int)
  L : List (List D)
def rs0 : RS := ⟨0, 0, [0, 0, 0, 0, 0], [], []⟩
def rsUpd (r : RS) (v : LnV) (t : Int) : RS := if v.k = 5 then ⟨r.u, r.x, r.w, mapSet r.m 5 t, r.L ++ [[D.i v.a, D.i v.b]]⟩
  else ⟨if v.k = 2 then v.a else r.u, if v.k = 3 then v.a else r.x, if v.k = 4 then v.w else r.w, mapSet r.m v.k t, r.L⟩
def rsGo : List (List UInt8) → Int → RS → RS ⊕ (Int × Int)
  | [], _, r => .inl r
  | l :: ls, t, r => if adE (scanP l) r.m r.L = 0 then rsGo ls (t + 1) (rsUpd r ((scanP l).getD ln0) t) else .inr (t, adE (scanP l) r.m r.L)
abbrev PR := (Int × Int × List (List D)) × (Int × Int)
noncomputable def rsFin (n : Nat) (r : RS) : PR :=
  if mapGet r.m 2 = 0 ∨ mapGet r.m 3 = 0 ∨ mapGet r.m 4 = 0 ∨ mapGet r.m 5 = 0 then ((0, 0, []), ((n : Int) + 1, 4))
  else if nrm 5 (sumW r.u r.x r.L) = nrm 5 r.w then ((r.u, r.x, r.L), (0, 0)) else ((0, 0, []), (mapGet r.m 4, 11))
noncomputable def rsOut (n : Nat) : RS ⊕ (Int × Int) → PR
  | .inl r => rsFin n r
  | .inr e => ((0, 0, []), e)
noncomputable def parT (s : List UInt8) : PR := if 65536 < s.length then ((0, 0, []), (0, 2)) else rsOut (linesP s).length (rsGo (linesP s) 1 rs0)

/-- An entry as a row. -/
def rowP (p : Int × Int) : List D := [D.i p.1, D.i p.2]
/-! ### what is printed -/

def hexc (d : Nat) : UInt8 := UInt8.ofNat (if d < 10 then 48 + d else 87 + d)
def hex8 (w : Nat) : List UInt8 := (List.range 8).map fun k => hexc (w / 16 ^ (7 - k) % 16)
def lnU (u : Int) : List UInt8 := [35, 36, 9] ++ Lib.itoa u
def lnX (x : Int) : List UInt8 := [35, 64, 9] ++ Lib.itoa x
def lnE (r : List D) : List UInt8 := Lib.itoa (atR r) ++ 9 :: Lib.itoa (ofR r)
def lnH (w : List Nat) : List UInt8 := [35, 104] ++ w.flatMap fun x => 9 :: hex8 x
def fileL (u x : Int) (L : List (List D)) (w : List Nat) : List (List UInt8) := [lnU u, lnX x] ++ (L.map lnE ++ [lnH w])
noncomputable def prnL (u x : Int) (L : List (List D)) : List UInt8 := joinL (fileL u x L (wordsN (bytN (dgL u x L))))
noncomputable def prnP (u x : Int) (L : List (List D)) : List UInt8 := if (chkP u x L).2 = 0 then prnL u x L else []
end Go.Sy
