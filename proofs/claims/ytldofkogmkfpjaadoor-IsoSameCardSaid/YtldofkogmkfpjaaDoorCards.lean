/-
  DERIVED. GIVEN WITH THE SEED: THE CARDS: each row of YtldofkogmkfpjaaDoorRows.lean that lists a variable, with what it lists TIED to the program's text (the seventh form; the later family's looks); each row that meets fmt, with fmt's text TOLD by the authors' own Lean function (tested against real Go, not proved from fmt's source: count such statements apart). THE CARD IS WHAT COUNTS. Prove the row's statement (the work); the ties are given (YtldofkogmkfpjaaDoorTie.lean); close each card by the builder's one call (the guide's Derived/Test/ToyasCard.lean, 'card_holds'). Laid BY PROGRAM, IN A SANDBOX (cutbox-door.mjs). By AI agents, Wed Nov 11 2026. No macro, syntax, notation, axiom, sorry.
-/
import Derived.Test.YtldofkogmkfpjaaDoorRows
import GoSem.ClaimSeven
namespace Go.Proofs.YtldofkogmkfpjaaDoor
namespace Rows

/-- THE TIED CARD OF 'epactlaw08.CalWeekdays'. -/
def calWeekdaysCard : Claim7 := { stood := { row := calWeekdaysRow, standIns := [], harness := (true, "2c7c3d3f544f8739839c61a432dd57e25f5904cbae84e81f9218b12c50fd47b2"), looks := true }, kinds := [], alts := [], laidByText := true, laidKinds := [.data], laidTests := true, laidLooks := .later }
def CalWeekdaysCardSaid : Prop := Claim7.holds Tryd.pinned (.plain (OpenSpec.ofChange calWeekdaysSpec)) calWeekdaysCard

/-- THE TIED CARD OF 'epactlaw08.CalYears'. -/
def calYearsCard : Claim7 := { stood := { row := calYearsRow, standIns := [], harness := (true, "2c7c3d3f544f8739839c61a432dd57e25f5904cbae84e81f9218b12c50fd47b2"), looks := true }, kinds := [], alts := [], laidByText := true, laidKinds := [.data], laidTests := true, laidLooks := .later }
def CalYearsCardSaid : Prop := Claim7.holds Tryd.pinned (.plain (OpenSpec.ofChange calYearsSpec)) calYearsCard

/-- THE TIED CARD OF 'epactlaw08.CalFromYears'. -/
def calFromYearsCard : Claim7 := { stood := { row := calFromYearsRow, standIns := [], harness := (true, "2c7c3d3f544f8739839c61a432dd57e25f5904cbae84e81f9218b12c50fd47b2"), looks := true }, kinds := [], alts := [], laidByText := true, laidKinds := [.data], laidTests := true, laidLooks := .later }
def CalFromYearsCardSaid : Prop := Claim7.holds Tryd.pinned (.plain (OpenSpec.ofChange calFromYearsSpec)) calFromYearsCard

/-- THE TIED CARD OF 'epactlaw08.CalWeeks'. -/
def calWeeksCard : Claim7 := { stood := { row := calWeeksRow, standIns := [], harness := (true, "2c7c3d3f544f8739839c61a432dd57e25f5904cbae84e81f9218b12c50fd47b2"), looks := true }, kinds := [], alts := [], laidByText := true, laidKinds := [.data], laidTests := true, laidLooks := .later }
def CalWeeksCardSaid : Prop := Claim7.holds Tryd.pinned (.plain (OpenSpec.ofChange calWeeksSpec)) calWeeksCard

/-- THE TIED CARD OF 'epactlaw08.CalFromWeeks'. -/
def calFromWeeksCard : Claim7 := { stood := { row := calFromWeeksRow, standIns := [], harness := (true, "2c7c3d3f544f8739839c61a432dd57e25f5904cbae84e81f9218b12c50fd47b2"), looks := true }, kinds := [], alts := [], laidByText := true, laidKinds := [.data], laidTests := true, laidLooks := .later }
def CalFromWeeksCardSaid : Prop := Claim7.holds Tryd.pinned (.plain (OpenSpec.ofChange calFromWeeksSpec)) calFromWeeksCard

/-- THE TIED CARD OF 'epactlaw04.DecPrints'. -/
def decPrintsCard : Claim7 := { stood := { row := decPrintsRow, standIns := [], harness := (true, "2c7c3d3f544f8739839c61a432dd57e25f5904cbae84e81f9218b12c50fd47b2"), looks := true }, kinds := [], alts := [], laidByText := true, laidKinds := [.data, .data, .data], laidTests := true, laidLooks := .later }
def DecPrintsCardSaid : Prop := Claim7.holds Tryd.pinned (.plain (OpenSpec.ofChange decPrintsSpec)) decPrintsCard

/-- THE TIED CARD OF 'epactlaw04.DecParses'. -/
def decParsesCard : Claim7 := { stood := { row := decParsesRow, standIns := [], harness := (true, "2c7c3d3f544f8739839c61a432dd57e25f5904cbae84e81f9218b12c50fd47b2"), looks := true }, kinds := [], alts := [], laidByText := true, laidKinds := [.data, .data, .data], laidTests := true, laidLooks := .later }
def DecParsesCardSaid : Prop := Claim7.holds Tryd.pinned (.plain (OpenSpec.ofChange decParsesSpec)) decParsesCard

/-- THE TIED CARD OF 'epactlaw04.DecLong'. -/
def decLongCard : Claim7 := { stood := { row := decLongRow, standIns := [], harness := (true, "2c7c3d3f544f8739839c61a432dd57e25f5904cbae84e81f9218b12c50fd47b2"), looks := true }, kinds := [], alts := [], laidByText := true, laidKinds := [.data, .data, .data], laidTests := true, laidLooks := .later }
def DecLongCardSaid : Prop := Claim7.holds Tryd.pinned (.plain (OpenSpec.ofChange decLongSpec)) decLongCard

/-- THE TIED CARD OF 'epactlaw10.LexScans'. -/
def lexScansCard : Claim7 := { stood := { row := lexScansRow, standIns := [], harness := (true, "2c7c3d3f544f8739839c61a432dd57e25f5904cbae84e81f9218b12c50fd47b2"), looks := true }, kinds := [], alts := [], laidByText := true, laidKinds := [.data, .data, .data, .data, .sentinel, .sentinel, .pinned], laidTests := true, laidLooks := .later }
def LexScansCardSaid : Prop := Claim7.holds Tryd.pinned (.plain (OpenSpec.ofChange lexScansSpec)) lexScansCard

/-- THE TIED CARD OF 'epactlaw10.LexLines'. -/
def lexLinesCard : Claim7 := { stood := { row := lexLinesRow, standIns := [], harness := (true, "2c7c3d3f544f8739839c61a432dd57e25f5904cbae84e81f9218b12c50fd47b2"), looks := true }, kinds := [], alts := [], laidByText := true, laidKinds := [.data, .data, .data, .data, .sentinel, .sentinel, .pinned], laidTests := true, laidLooks := .later }
def LexLinesCardSaid : Prop := Claim7.holds Tryd.pinned (.plain (OpenSpec.ofChange lexLinesSpec)) lexLinesCard

/-- THE TIED CARD OF 'epactlaw10.LexJoins'. -/
def lexJoinsCard : Claim7 := { stood := { row := lexJoinsRow, standIns := [], harness := (true, "2c7c3d3f544f8739839c61a432dd57e25f5904cbae84e81f9218b12c50fd47b2"), looks := true }, kinds := [], alts := [], laidByText := true, laidKinds := [.data, .data, .data, .data, .sentinel, .sentinel, .pinned], laidTests := true, laidLooks := .later }
def LexJoinsCardSaid : Prop := Claim7.holds Tryd.pinned (.plain (OpenSpec.ofChange lexJoinsSpec)) lexJoinsCard

/-- THE TIED CARD OF 'epactlaw10.LexData'. -/
def lexDataCard : Claim7 := { stood := { row := lexDataRow, standIns := [], harness := (true, "2c7c3d3f544f8739839c61a432dd57e25f5904cbae84e81f9218b12c50fd47b2"), looks := true }, kinds := [], alts := [], laidByText := true, laidKinds := [.data, .data, .data, .data, .sentinel, .sentinel, .pinned], laidTests := true, laidLooks := .later }
def LexDataCardSaid : Prop := Claim7.holds Tryd.pinned (.plain (OpenSpec.ofChange lexDataSpec)) lexDataCard

/-- THE TIED CARD OF 'epactlaw10.LexNotes'. -/
def lexNotesCard : Claim7 := { stood := { row := lexNotesRow, standIns := [], harness := (true, "2c7c3d3f544f8739839c61a432dd57e25f5904cbae84e81f9218b12c50fd47b2"), looks := true }, kinds := [], alts := [], laidByText := true, laidKinds := [.data, .data, .data, .data, .sentinel, .sentinel, .pinned], laidTests := true, laidLooks := .later }
def LexNotesCardSaid : Prop := Claim7.holds Tryd.pinned (.plain (OpenSpec.ofChange lexNotesSpec)) lexNotesCard

/-- THE TIED CARD OF 'epactlaw25.IsoSame'. -/
def isoSameCard : Claim7 := { stood := { row := isoSameRow, standIns := [], harness := (true, "2c7c3d3f544f8739839c61a432dd57e25f5904cbae84e81f9218b12c50fd47b2"), looks := true }, kinds := [], alts := [], laidByText := true, laidKinds := [.data, .data, .data, .data, .data, .sentinel, .sentinel, .pinned], laidTests := true, laidLooks := .later }
def IsoSameCardSaid : Prop := Claim7.holds Tryd.pinned (.plain (OpenSpec.ofChange isoSameSpec)) isoSameCard

/-- THE SECOND FORM's CARD OF 'epactlaw08.CalWeekdays'. -/
def calWeekdaysUptoCard : Claim7 := { stood := { row := calWeekdaysUptoRow, standIns := [], harness := (true, "2c7c3d3f544f8739839c61a432dd57e25f5904cbae84e81f9218b12c50fd47b2"), looks := true }, kinds := [], alts := [], laidByText := true, laidKinds := [.data], laidTests := true, laidLooks := .later }
def CalWeekdaysUptoCardSaid : Prop := Claim7.holds Tryd.pinned (.plain (OpenSpec.upto calWeekdaysSpec)) calWeekdaysUptoCard

/-- THE SECOND FORM's CARD OF 'epactlaw08.CalYears'. -/
def calYearsUptoCard : Claim7 := { stood := { row := calYearsUptoRow, standIns := [], harness := (true, "2c7c3d3f544f8739839c61a432dd57e25f5904cbae84e81f9218b12c50fd47b2"), looks := true }, kinds := [], alts := [], laidByText := true, laidKinds := [.data], laidTests := true, laidLooks := .later }
def CalYearsUptoCardSaid : Prop := Claim7.holds Tryd.pinned (.plain (OpenSpec.upto calYearsSpec)) calYearsUptoCard

/-- THE SECOND FORM's CARD OF 'epactlaw08.CalFromYears'. -/
def calFromYearsUptoCard : Claim7 := { stood := { row := calFromYearsUptoRow, standIns := [], harness := (true, "2c7c3d3f544f8739839c61a432dd57e25f5904cbae84e81f9218b12c50fd47b2"), looks := true }, kinds := [], alts := [], laidByText := true, laidKinds := [.data], laidTests := true, laidLooks := .later }
def CalFromYearsUptoCardSaid : Prop := Claim7.holds Tryd.pinned (.plain (OpenSpec.upto calFromYearsSpec)) calFromYearsUptoCard

/-- THE SECOND FORM's CARD OF 'epactlaw08.CalWeeks'. -/
def calWeeksUptoCard : Claim7 := { stood := { row := calWeeksUptoRow, standIns := [], harness := (true, "2c7c3d3f544f8739839c61a432dd57e25f5904cbae84e81f9218b12c50fd47b2"), looks := true }, kinds := [], alts := [], laidByText := true, laidKinds := [.data], laidTests := true, laidLooks := .later }
def CalWeeksUptoCardSaid : Prop := Claim7.holds Tryd.pinned (.plain (OpenSpec.upto calWeeksSpec)) calWeeksUptoCard

/-- THE SECOND FORM's CARD OF 'epactlaw08.CalFromWeeks'. -/
def calFromWeeksUptoCard : Claim7 := { stood := { row := calFromWeeksUptoRow, standIns := [], harness := (true, "2c7c3d3f544f8739839c61a432dd57e25f5904cbae84e81f9218b12c50fd47b2"), looks := true }, kinds := [], alts := [], laidByText := true, laidKinds := [.data], laidTests := true, laidLooks := .later }
def CalFromWeeksUptoCardSaid : Prop := Claim7.holds Tryd.pinned (.plain (OpenSpec.upto calFromWeeksSpec)) calFromWeeksUptoCard

/-- THE SECOND FORM's CARD OF 'epactlaw04.DecPrints'. -/
def decPrintsUptoCard : Claim7 := { stood := { row := decPrintsUptoRow, standIns := [], harness := (true, "2c7c3d3f544f8739839c61a432dd57e25f5904cbae84e81f9218b12c50fd47b2"), looks := true }, kinds := [], alts := [], laidByText := true, laidKinds := [.data, .data, .data], laidTests := true, laidLooks := .later }
def DecPrintsUptoCardSaid : Prop := Claim7.holds Tryd.pinned (.plain (OpenSpec.upto decPrintsSpec)) decPrintsUptoCard

/-- THE SECOND FORM's CARD OF 'epactlaw04.DecParses'. -/
def decParsesUptoCard : Claim7 := { stood := { row := decParsesUptoRow, standIns := [], harness := (true, "2c7c3d3f544f8739839c61a432dd57e25f5904cbae84e81f9218b12c50fd47b2"), looks := true }, kinds := [], alts := [], laidByText := true, laidKinds := [.data, .data, .data], laidTests := true, laidLooks := .later }
def DecParsesUptoCardSaid : Prop := Claim7.holds Tryd.pinned (.plain (OpenSpec.upto decParsesSpec)) decParsesUptoCard

/-- THE SECOND FORM's CARD OF 'epactlaw04.DecLong'. -/
def decLongUptoCard : Claim7 := { stood := { row := decLongUptoRow, standIns := [], harness := (true, "2c7c3d3f544f8739839c61a432dd57e25f5904cbae84e81f9218b12c50fd47b2"), looks := true }, kinds := [], alts := [], laidByText := true, laidKinds := [.data, .data, .data], laidTests := true, laidLooks := .later }
def DecLongUptoCardSaid : Prop := Claim7.holds Tryd.pinned (.plain (OpenSpec.upto decLongSpec)) decLongUptoCard

/-- THE SECOND FORM's CARD OF 'epactlaw10.LexScans'. -/
def lexScansUptoCard : Claim7 := { stood := { row := lexScansUptoRow, standIns := [], harness := (true, "2c7c3d3f544f8739839c61a432dd57e25f5904cbae84e81f9218b12c50fd47b2"), looks := true }, kinds := [], alts := [], laidByText := true, laidKinds := [.data, .data, .data, .data, .sentinel, .sentinel, .pinned], laidTests := true, laidLooks := .later }
def LexScansUptoCardSaid : Prop := Claim7.holds Tryd.pinned (.plain (OpenSpec.upto lexScansSpec)) lexScansUptoCard

/-- THE SECOND FORM's CARD OF 'epactlaw10.LexLines'. -/
def lexLinesUptoCard : Claim7 := { stood := { row := lexLinesUptoRow, standIns := [], harness := (true, "2c7c3d3f544f8739839c61a432dd57e25f5904cbae84e81f9218b12c50fd47b2"), looks := true }, kinds := [], alts := [], laidByText := true, laidKinds := [.data, .data, .data, .data, .sentinel, .sentinel, .pinned], laidTests := true, laidLooks := .later }
def LexLinesUptoCardSaid : Prop := Claim7.holds Tryd.pinned (.plain (OpenSpec.upto lexLinesSpec)) lexLinesUptoCard

/-- THE SECOND FORM's CARD OF 'epactlaw10.LexJoins'. -/
def lexJoinsUptoCard : Claim7 := { stood := { row := lexJoinsUptoRow, standIns := [], harness := (true, "2c7c3d3f544f8739839c61a432dd57e25f5904cbae84e81f9218b12c50fd47b2"), looks := true }, kinds := [], alts := [], laidByText := true, laidKinds := [.data, .data, .data, .data, .sentinel, .sentinel, .pinned], laidTests := true, laidLooks := .later }
def LexJoinsUptoCardSaid : Prop := Claim7.holds Tryd.pinned (.plain (OpenSpec.upto lexJoinsSpec)) lexJoinsUptoCard

/-- THE SECOND FORM's CARD OF 'epactlaw10.LexData'. -/
def lexDataUptoCard : Claim7 := { stood := { row := lexDataUptoRow, standIns := [], harness := (true, "2c7c3d3f544f8739839c61a432dd57e25f5904cbae84e81f9218b12c50fd47b2"), looks := true }, kinds := [], alts := [], laidByText := true, laidKinds := [.data, .data, .data, .data, .sentinel, .sentinel, .pinned], laidTests := true, laidLooks := .later }
def LexDataUptoCardSaid : Prop := Claim7.holds Tryd.pinned (.plain (OpenSpec.upto lexDataSpec)) lexDataUptoCard

/-- THE SECOND FORM's CARD OF 'epactlaw10.LexNotes'. -/
def lexNotesUptoCard : Claim7 := { stood := { row := lexNotesUptoRow, standIns := [], harness := (true, "2c7c3d3f544f8739839c61a432dd57e25f5904cbae84e81f9218b12c50fd47b2"), looks := true }, kinds := [], alts := [], laidByText := true, laidKinds := [.data, .data, .data, .data, .sentinel, .sentinel, .pinned], laidTests := true, laidLooks := .later }
def LexNotesUptoCardSaid : Prop := Claim7.holds Tryd.pinned (.plain (OpenSpec.upto lexNotesSpec)) lexNotesUptoCard

/-- THE SECOND FORM's CARD OF 'epactlaw25.IsoSame'. -/
def isoSameUptoCard : Claim7 := { stood := { row := isoSameUptoRow, standIns := [], harness := (true, "2c7c3d3f544f8739839c61a432dd57e25f5904cbae84e81f9218b12c50fd47b2"), looks := true }, kinds := [], alts := [], laidByText := true, laidKinds := [.data, .data, .data, .data, .data, .sentinel, .sentinel, .pinned], laidTests := true, laidLooks := .later }
def IsoSameUptoCardSaid : Prop := Claim7.holds Tryd.pinned (.plain (OpenSpec.upto isoSameSpec)) isoSameUptoCard
end Rows
end Go.Proofs.YtldofkogmkfpjaaDoor
