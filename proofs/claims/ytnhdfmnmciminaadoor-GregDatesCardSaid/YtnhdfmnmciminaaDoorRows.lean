/-
  NARROWER THAN 'FOR EVERY INPUT', by the rows' own cells (each row's printed sentence says how): GregMonths: laid · GregDays: laid · GregDates: laid · GregNext: laid · GregCycle: laid.
  DERIVED. THE GIVEN ROWS OF THIS SEAT. 5 by the template 'for every input the law returns true; each argument reads behind the call as it read before'; 0 by the template 'total and deterministic' (their statements: YtnhdfmnmciminaaDoorTotals.lean).
  GIVEN WITH THE SEED: the statements are not yours to turn. If you find one false, say at which input.
  Laid BY PROGRAM, IN A SANDBOX (cutbox-rows.mjs): the forced cells as the released guide's own fill.sh prints them over the translation 3921fe6fa4571d61… (all of the seat's roots in one cut). By AI agents, Wed Nov 11 2026. No macro, syntax, notation, axiom, sorry.
-/
import Derived.Test.YtnhdfmnmciminaaDoorChecked
import GoSem.Claim
import GoSem.ClaimJoined
import GoSem.ClaimMapViews
import Derived.JoinedTies
import Derived.KernelRfl
namespace Go.Proofs.YtnhdfmnmciminaaDoor
/- THE CELL 'sum', in the pinned program and in every row, IS THE sha256 OF THE DUMP (.gsa) THAT YtnhdfmnmciminaaDoorProg.lean LOADS. Nothing in Lean hashes anything: it is a label: what it is worth is what the hold of that sum in a sandbox is worth. -/
noncomputable def Tryd.pinned : Pinned := { name := "ytnhdfmnmciminaadoor", sum := "3921fe6fa4571d61b49e0c3bea86e0cd111c4214bb380463ba9b80577b9240c3", checked := Tryd.checked }
namespace Rows
def none {H : Type} : Left H := { results := [], args := [] }

/- WHAT THE LISTED PACKAGE-LEVEL VARIABLES READ AS WHEN THE CALL BEGINS. Each datum BY PROGRAM (the guide's laid-datum.mjs) off the statement by which the dump's own 'gosem.cut.vars' lays the variable. In a bare row this is a premise. The card (YtnhdfmnmciminaaDoorCards.lean) ties it to the program's text. -/
def laid_epact_greg_lengths {H : Type} : DataW H := .agg [.lit (.int .i64 31), .lit (.int .i64 28), .lit (.int .i64 31), .lit (.int .i64 30), .lit (.int .i64 31), .lit (.int .i64 30), .lit (.int .i64 31), .lit (.int .i64 31), .lit (.int .i64 30), .lit (.int .i64 31), .lit (.int .i64 30), .lit (.int .i64 31)]

/-- 'epactlaw05.GregMonths': WHATEVER THE INPUT: true; the input reads as it did. -/
def gregMonthsSpec : ChangeSpec := { name := "gregMonths", fn := fun _ => fun
  | [d1, d2, d3] => { results := [.lit (.bool true)], args := [d1, d2, d3] }
  | _ => none }
def gregMonthsRow : OpenClaim := { program := "ytnhdfmnmciminaadoor", sum := "3921fe6fa4571d61b49e0c3bea86e0cd111c4214bb380463ba9b80577b9240c3", func := "epact/epactlaw05.GregMonths", spec := "gregMonths", named := ["epact/greg.lengths"], apart := false, laid := [("epact/greg.lengths", laid_epact_greg_lengths)] }
def GregMonthsSaid : Prop := gregMonthsRow.holds Tryd.pinned (OpenSpec.ofChange gregMonthsSpec)

/-- ITS FALSE NEIGHBOUR: 'it returns false'. Refute it at one input. -/
def gregMonthsWrong : ChangeSpec := { name := "gregMonths", fn := fun _ => fun
  | [d1, d2, d3] => { results := [.lit (.bool false)], args := [d1, d2, d3] }
  | _ => none }
def GregMonthsWrongFalsely : Prop := gregMonthsRow.holds Tryd.pinned (OpenSpec.ofChange gregMonthsWrong)

/-- 'epactlaw05.GregDays': WHATEVER THE INPUT: true; the input reads as it did. -/
def gregDaysSpec : ChangeSpec := { name := "gregDays", fn := fun _ => fun
  | [d] => { results := [.lit (.bool true)], args := [d] }
  | _ => none }
def gregDaysRow : OpenClaim := { program := "ytnhdfmnmciminaadoor", sum := "3921fe6fa4571d61b49e0c3bea86e0cd111c4214bb380463ba9b80577b9240c3", func := "epact/epactlaw05.GregDays", spec := "gregDays", named := ["epact/greg.lengths"], apart := false, laid := [("epact/greg.lengths", laid_epact_greg_lengths)] }
def GregDaysSaid : Prop := gregDaysRow.holds Tryd.pinned (OpenSpec.ofChange gregDaysSpec)

/-- ITS FALSE NEIGHBOUR: 'it returns false'. Refute it at one input. -/
def gregDaysWrong : ChangeSpec := { name := "gregDays", fn := fun _ => fun
  | [d] => { results := [.lit (.bool false)], args := [d] }
  | _ => none }
def GregDaysWrongFalsely : Prop := gregDaysRow.holds Tryd.pinned (OpenSpec.ofChange gregDaysWrong)

/-- 'epactlaw05.GregDates': WHATEVER THE INPUT: true; the input reads as it did. -/
def gregDatesSpec : ChangeSpec := { name := "gregDates", fn := fun _ => fun
  | [d] => { results := [.lit (.bool true)], args := [d] }
  | _ => none }
def gregDatesRow : OpenClaim := { program := "ytnhdfmnmciminaadoor", sum := "3921fe6fa4571d61b49e0c3bea86e0cd111c4214bb380463ba9b80577b9240c3", func := "epact/epactlaw05.GregDates", spec := "gregDates", named := ["epact/greg.lengths"], apart := false, laid := [("epact/greg.lengths", laid_epact_greg_lengths)] }
def GregDatesSaid : Prop := gregDatesRow.holds Tryd.pinned (OpenSpec.ofChange gregDatesSpec)

/-- ITS FALSE NEIGHBOUR: 'it returns false'. Refute it at one input. -/
def gregDatesWrong : ChangeSpec := { name := "gregDates", fn := fun _ => fun
  | [d] => { results := [.lit (.bool false)], args := [d] }
  | _ => none }
def GregDatesWrongFalsely : Prop := gregDatesRow.holds Tryd.pinned (OpenSpec.ofChange gregDatesWrong)

/-- 'epactlaw05.GregNext': WHATEVER THE INPUT: true; the input reads as it did. -/
def gregNextSpec : ChangeSpec := { name := "gregNext", fn := fun _ => fun
  | [d] => { results := [.lit (.bool true)], args := [d] }
  | _ => none }
def gregNextRow : OpenClaim := { program := "ytnhdfmnmciminaadoor", sum := "3921fe6fa4571d61b49e0c3bea86e0cd111c4214bb380463ba9b80577b9240c3", func := "epact/epactlaw05.GregNext", spec := "gregNext", named := ["epact/greg.lengths"], apart := false, laid := [("epact/greg.lengths", laid_epact_greg_lengths)] }
def GregNextSaid : Prop := gregNextRow.holds Tryd.pinned (OpenSpec.ofChange gregNextSpec)

/-- ITS FALSE NEIGHBOUR: 'it returns false'. Refute it at one input. -/
def gregNextWrong : ChangeSpec := { name := "gregNext", fn := fun _ => fun
  | [d] => { results := [.lit (.bool false)], args := [d] }
  | _ => none }
def GregNextWrongFalsely : Prop := gregNextRow.holds Tryd.pinned (OpenSpec.ofChange gregNextWrong)

/-- 'epactlaw05.GregCycle': WHATEVER THE INPUT: true; the input reads as it did. -/
def gregCycleSpec : ChangeSpec := { name := "gregCycle", fn := fun _ => fun
  | [d] => { results := [.lit (.bool true)], args := [d] }
  | _ => none }
def gregCycleRow : OpenClaim := { program := "ytnhdfmnmciminaadoor", sum := "3921fe6fa4571d61b49e0c3bea86e0cd111c4214bb380463ba9b80577b9240c3", func := "epact/epactlaw05.GregCycle", spec := "gregCycle", named := ["epact/greg.lengths"], apart := false, laid := [("epact/greg.lengths", laid_epact_greg_lengths)] }
def GregCycleSaid : Prop := gregCycleRow.holds Tryd.pinned (OpenSpec.ofChange gregCycleSpec)

/-- ITS FALSE NEIGHBOUR: 'it returns false'. Refute it at one input. -/
def gregCycleWrong : ChangeSpec := { name := "gregCycle", fn := fun _ => fun
  | [d] => { results := [.lit (.bool false)], args := [d] }
  | _ => none }
def GregCycleWrongFalsely : Prop := gregCycleRow.holds Tryd.pinned (OpenSpec.ofChange gregCycleWrong)

/- THE SECOND FORM. 'bulk': how many values and letters a reading holds, each counted each time it is reached (what is shared counts as often as it is met; a slice's spare places count too). A statement '..UptoSaid' is the law's where the arguments, and the package variables that the reading takes, are together of bulk at most 1048576: NARROWER than '..Said'. Prove '..Said' where nothing that the law and all that it calls make is longer than what came in: it says more and counts as full. Else prove '..UptoSaid'. A law counts once. -/
mutual
def uptoBulk {H : Type} : DataW H → Nat
  | .lit (.string bytes) => bytes.length + 1
  | .lit _ => 1
  | .nil => 1
  | .ptr d => uptoBulk d + 1
  | .slice elems spare => uptoBulkAll elems + uptoBulkAll spare + 1
  | .agg parts => uptoBulkAll parts + 1
  | .iface _ d => uptoBulk d + 1
  | .map entries => uptoBulkEntries entries + 1
  | .held _ => 1
def uptoBulkAll {H : Type} : List (DataW H) → Nat
  | [] => 0
  | d :: r => uptoBulk d + uptoBulkAll r
def uptoBulkEntries {H : Type} : List (Lit × DataW H) → Nat
  | [] => 0
  | x :: r => uptoBulkEntry x + uptoBulkEntries r
def uptoBulkEntry {H : Type} : Lit × DataW H → Nat
  | (.string bytes, d) => bytes.length + uptoBulk d + 1
  | (_, d) => uptoBulk d + 1
 end
def uptoSmall : (H : Type) → List (DataW H) → Bool := fun _ ds => decide (uptoBulkAll ds ≤ 1048576)
def OpenSpec.upto (s : _root_.Go.ChangeSpec) : _root_.Go.OpenSpec := { _root_.Go.OpenSpec.ofChange s with cond := some uptoSmall }

/-- 'epactlaw05.GregMonths', WHERE WHAT IT READS IS OF BULK AT MOST 1048576: true; the input reads as it did. -/
def gregMonthsUptoRow : OpenClaim := { program := "ytnhdfmnmciminaadoor", sum := "3921fe6fa4571d61b49e0c3bea86e0cd111c4214bb380463ba9b80577b9240c3", func := "epact/epactlaw05.GregMonths", spec := "gregMonths", named := ["epact/greg.lengths"], apart := false, laid := [("epact/greg.lengths", laid_epact_greg_lengths)], narrowed := true }
def GregMonthsUptoSaid : Prop := gregMonthsUptoRow.holds Tryd.pinned (OpenSpec.upto gregMonthsSpec)

/-- 'epactlaw05.GregDays', WHERE WHAT IT READS IS OF BULK AT MOST 1048576: true; the input reads as it did. -/
def gregDaysUptoRow : OpenClaim := { program := "ytnhdfmnmciminaadoor", sum := "3921fe6fa4571d61b49e0c3bea86e0cd111c4214bb380463ba9b80577b9240c3", func := "epact/epactlaw05.GregDays", spec := "gregDays", named := ["epact/greg.lengths"], apart := false, laid := [("epact/greg.lengths", laid_epact_greg_lengths)], narrowed := true }
def GregDaysUptoSaid : Prop := gregDaysUptoRow.holds Tryd.pinned (OpenSpec.upto gregDaysSpec)

/-- 'epactlaw05.GregDates', WHERE WHAT IT READS IS OF BULK AT MOST 1048576: true; the input reads as it did. -/
def gregDatesUptoRow : OpenClaim := { program := "ytnhdfmnmciminaadoor", sum := "3921fe6fa4571d61b49e0c3bea86e0cd111c4214bb380463ba9b80577b9240c3", func := "epact/epactlaw05.GregDates", spec := "gregDates", named := ["epact/greg.lengths"], apart := false, laid := [("epact/greg.lengths", laid_epact_greg_lengths)], narrowed := true }
def GregDatesUptoSaid : Prop := gregDatesUptoRow.holds Tryd.pinned (OpenSpec.upto gregDatesSpec)

/-- 'epactlaw05.GregNext', WHERE WHAT IT READS IS OF BULK AT MOST 1048576: true; the input reads as it did. -/
def gregNextUptoRow : OpenClaim := { program := "ytnhdfmnmciminaadoor", sum := "3921fe6fa4571d61b49e0c3bea86e0cd111c4214bb380463ba9b80577b9240c3", func := "epact/epactlaw05.GregNext", spec := "gregNext", named := ["epact/greg.lengths"], apart := false, laid := [("epact/greg.lengths", laid_epact_greg_lengths)], narrowed := true }
def GregNextUptoSaid : Prop := gregNextUptoRow.holds Tryd.pinned (OpenSpec.upto gregNextSpec)

/-- 'epactlaw05.GregCycle', WHERE WHAT IT READS IS OF BULK AT MOST 1048576: true; the input reads as it did. -/
def gregCycleUptoRow : OpenClaim := { program := "ytnhdfmnmciminaadoor", sum := "3921fe6fa4571d61b49e0c3bea86e0cd111c4214bb380463ba9b80577b9240c3", func := "epact/epactlaw05.GregCycle", spec := "gregCycle", named := ["epact/greg.lengths"], apart := false, laid := [("epact/greg.lengths", laid_epact_greg_lengths)], narrowed := true }
def GregCycleUptoSaid : Prop := gregCycleUptoRow.holds Tryd.pinned (OpenSpec.upto gregCycleSpec)

end Rows
end Go.Proofs.YtnhdfmnmciminaaDoor
