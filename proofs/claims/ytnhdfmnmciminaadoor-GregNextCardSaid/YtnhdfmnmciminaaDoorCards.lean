/-
  DERIVED. GIVEN WITH THE SEED: THE CARDS: each row of YtnhdfmnmciminaaDoorRows.lean that lists a variable, with what it lists TIED to the program's text (the seventh form; the later family's looks); each row that meets fmt, with fmt's text TOLD by the authors' own Lean function (tested against real Go, not proved from fmt's source: count such statements apart). THE CARD IS WHAT COUNTS. Prove the row's statement (the work); the ties are given (YtnhdfmnmciminaaDoorTie.lean); close each card by the builder's one call (the guide's Derived/Test/ToyasCard.lean, 'card_holds'). Laid BY PROGRAM, IN A SANDBOX (cutbox-door.mjs). By AI agents, Wed Nov 11 2026. No macro, syntax, notation, axiom, sorry.
-/
import Derived.Test.YtnhdfmnmciminaaDoorRows
import GoSem.ClaimSeven
namespace Go.Proofs.YtnhdfmnmciminaaDoor
namespace Rows

/-- THE TIED CARD OF 'epactlaw05.GregMonths'. -/
def gregMonthsCard : Claim7 := { stood := { row := gregMonthsRow, standIns := [], harness := (true, "ff938f2cc07a9055381b102122b4a9cbe91448f1d9378156c70cac147c532cfb"), looks := false }, kinds := [], alts := [], laidByText := true, laidKinds := [.data], laidTests := true, laidLooks := .later }
def GregMonthsCardSaid : Prop := Claim7.holds Tryd.pinned (.plain (OpenSpec.ofChange gregMonthsSpec)) gregMonthsCard

/-- THE TIED CARD OF 'epactlaw05.GregDays'. -/
def gregDaysCard : Claim7 := { stood := { row := gregDaysRow, standIns := [], harness := (true, "ff938f2cc07a9055381b102122b4a9cbe91448f1d9378156c70cac147c532cfb"), looks := false }, kinds := [], alts := [], laidByText := true, laidKinds := [.data], laidTests := true, laidLooks := .later }
def GregDaysCardSaid : Prop := Claim7.holds Tryd.pinned (.plain (OpenSpec.ofChange gregDaysSpec)) gregDaysCard

/-- THE TIED CARD OF 'epactlaw05.GregDates'. -/
def gregDatesCard : Claim7 := { stood := { row := gregDatesRow, standIns := [], harness := (true, "ff938f2cc07a9055381b102122b4a9cbe91448f1d9378156c70cac147c532cfb"), looks := false }, kinds := [], alts := [], laidByText := true, laidKinds := [.data], laidTests := true, laidLooks := .later }
def GregDatesCardSaid : Prop := Claim7.holds Tryd.pinned (.plain (OpenSpec.ofChange gregDatesSpec)) gregDatesCard

/-- THE TIED CARD OF 'epactlaw05.GregNext'. -/
def gregNextCard : Claim7 := { stood := { row := gregNextRow, standIns := [], harness := (true, "ff938f2cc07a9055381b102122b4a9cbe91448f1d9378156c70cac147c532cfb"), looks := false }, kinds := [], alts := [], laidByText := true, laidKinds := [.data], laidTests := true, laidLooks := .later }
def GregNextCardSaid : Prop := Claim7.holds Tryd.pinned (.plain (OpenSpec.ofChange gregNextSpec)) gregNextCard

/-- THE TIED CARD OF 'epactlaw05.GregCycle'. -/
def gregCycleCard : Claim7 := { stood := { row := gregCycleRow, standIns := [], harness := (true, "ff938f2cc07a9055381b102122b4a9cbe91448f1d9378156c70cac147c532cfb"), looks := false }, kinds := [], alts := [], laidByText := true, laidKinds := [.data], laidTests := true, laidLooks := .later }
def GregCycleCardSaid : Prop := Claim7.holds Tryd.pinned (.plain (OpenSpec.ofChange gregCycleSpec)) gregCycleCard

/-- THE SECOND FORM's CARD OF 'epactlaw05.GregMonths'. -/
def gregMonthsUptoCard : Claim7 := { stood := { row := gregMonthsUptoRow, standIns := [], harness := (true, "ff938f2cc07a9055381b102122b4a9cbe91448f1d9378156c70cac147c532cfb"), looks := false }, kinds := [], alts := [], laidByText := true, laidKinds := [.data], laidTests := true, laidLooks := .later }
def GregMonthsUptoCardSaid : Prop := Claim7.holds Tryd.pinned (.plain (OpenSpec.upto gregMonthsSpec)) gregMonthsUptoCard

/-- THE SECOND FORM's CARD OF 'epactlaw05.GregDays'. -/
def gregDaysUptoCard : Claim7 := { stood := { row := gregDaysUptoRow, standIns := [], harness := (true, "ff938f2cc07a9055381b102122b4a9cbe91448f1d9378156c70cac147c532cfb"), looks := false }, kinds := [], alts := [], laidByText := true, laidKinds := [.data], laidTests := true, laidLooks := .later }
def GregDaysUptoCardSaid : Prop := Claim7.holds Tryd.pinned (.plain (OpenSpec.upto gregDaysSpec)) gregDaysUptoCard

/-- THE SECOND FORM's CARD OF 'epactlaw05.GregDates'. -/
def gregDatesUptoCard : Claim7 := { stood := { row := gregDatesUptoRow, standIns := [], harness := (true, "ff938f2cc07a9055381b102122b4a9cbe91448f1d9378156c70cac147c532cfb"), looks := false }, kinds := [], alts := [], laidByText := true, laidKinds := [.data], laidTests := true, laidLooks := .later }
def GregDatesUptoCardSaid : Prop := Claim7.holds Tryd.pinned (.plain (OpenSpec.upto gregDatesSpec)) gregDatesUptoCard

/-- THE SECOND FORM's CARD OF 'epactlaw05.GregNext'. -/
def gregNextUptoCard : Claim7 := { stood := { row := gregNextUptoRow, standIns := [], harness := (true, "ff938f2cc07a9055381b102122b4a9cbe91448f1d9378156c70cac147c532cfb"), looks := false }, kinds := [], alts := [], laidByText := true, laidKinds := [.data], laidTests := true, laidLooks := .later }
def GregNextUptoCardSaid : Prop := Claim7.holds Tryd.pinned (.plain (OpenSpec.upto gregNextSpec)) gregNextUptoCard

/-- THE SECOND FORM's CARD OF 'epactlaw05.GregCycle'. -/
def gregCycleUptoCard : Claim7 := { stood := { row := gregCycleUptoRow, standIns := [], harness := (true, "ff938f2cc07a9055381b102122b4a9cbe91448f1d9378156c70cac147c532cfb"), looks := false }, kinds := [], alts := [], laidByText := true, laidKinds := [.data], laidTests := true, laidLooks := .later }
def GregCycleUptoCardSaid : Prop := Claim7.holds Tryd.pinned (.plain (OpenSpec.upto gregCycleSpec)) gregCycleUptoCard
end Rows
end Go.Proofs.YtnhdfmnmciminaaDoor
