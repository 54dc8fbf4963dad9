/-
  Symbolic values, part 8: what a function's callees do, as one table; words for texts that a program prints.
-/
import Derived.Test.YtnhdfmnmciminaaSyCode
import Derived.KernelRfl
namespace Go.Sy
open Go.Ev
set_option linter.unusedVariables false

def Γof : List (FuncId × SpecF) → Env
  | [], _ => fun _ _ _ => none
  | (j, f) :: l, k => bif Nat.beq j k then f else Γof l k
theorem env_nil (C : Cfg) : EnvOk C (Γof []) := fun k args bx K out h => by cases h
theorem env_cons {C : Cfg} {j : FuncId} {f : SpecF} {l : List (FuncId × SpecF)} (h : SpecOk C j f) (hl : EnvOk C (Γof l)) : EnvOk C (Γof ((j, f) :: l)) := fun k => by
  unfold Γof
  cases hb : Nat.beq j k with
  | true => have : j = k := Nat.eq_of_beq_eq_true hb
            subst this; exact h
  | false => exact hl k
abbrev vI (n : Int) : SV := .one (.c (.int .i64 n))
abbrev vB (b : Bool) : SV := .one (.c (.bool b))
abbrev vS (s : ByteArray) : SV := .one (.c (.str s))
abbrev agg (l : List Sg) : SV := .one (.agg l)
abbrev tI (n : Int) : S1 := .c (.int .i64 n)
abbrev gI (n : Int) : Sg := .c (.int .i64 n)
abbrev ret (v : SV) : Option Out := some ⟨v, []⟩
def noSh : Nat → Shape := fun _ => ⟨0, [], [], []⟩
def shOf : List (Nat × Shape) → Nat → Shape
  | [], _ => ⟨0, [], [], []⟩
  | (j, s) :: l, i => bif Nat.beq j i then s else shOf l i
end Go.Sy
