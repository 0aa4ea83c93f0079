/-
  DERIVED. GIVEN WITH THE SEED: THE CARDS: each row of YtjndiielolphgaaDoorRows.lean that lists a variable, with what it lists TIED to the program's text (the seventh form; the later family's looks); each row that meets fmt, with fmt's text TOLD by the authors' own Lean function (tested against real Go, not proved from fmt's source: count such statements apart). THE CARD IS WHAT COUNTS. Prove the row's statement (the work); the ties are given (YtjndiielolphgaaDoorTie.lean); close each card by the builder's one call (the guide's Derived/Test/ToyasCard.lean, 'card_holds'). Laid BY PROGRAM, IN A SANDBOX (cutbox-door.mjs). By AI agents, Wed Nov 11 2026. No macro, syntax, notation, axiom, sorry.
-/
import Derived.Test.YtjndiielolphgaaDoorRows
import GoSem.ClaimSeven
namespace Go.Proofs.YtjndiielolphgaaDoor
namespace Rows

/-- THE TIED CARD OF 'chancerylaw2.CsvImportMatches'. -/
def csvImportMatchesCard : Claim7 := { stood := { row := csvImportMatchesRow, standIns := [], harness := (true, "6ebf6df8718fea72b1695e29555a47e642c2487099b0e89f3e17bc57c98a5c09"), looks := false }, kinds := [], alts := [], laidByText := true, laidKinds := [.data, .pinned], laidTests := true, laidLooks := .later }
def CsvImportMatchesCardSaid : Prop := Claim7.holds Tryd.pinned (.plain (OpenSpec.ofChange csvImportMatchesSpec)) csvImportMatchesCard

/-- THE TIED CARD OF 'chancerylaw2.CsvPrintMatches'. -/
def csvPrintMatchesCard : Claim7 := { stood := { row := csvPrintMatchesRow, standIns := [], harness := (true, "6ebf6df8718fea72b1695e29555a47e642c2487099b0e89f3e17bc57c98a5c09"), looks := false }, kinds := [], alts := [], laidByText := true, laidKinds := [.data, .pinned], laidTests := true, laidLooks := .later }
def CsvPrintMatchesCardSaid : Prop := Claim7.holds Tryd.pinned (.plain (OpenSpec.ofChange csvPrintMatchesSpec)) csvPrintMatchesCard

/-- THE TIED CARD OF 'chancerykeep2.CsvReadsBack'. -/
def csvReadsBackCard : Claim7 := { stood := { row := csvReadsBackRow, standIns := [], harness := (true, "6ebf6df8718fea72b1695e29555a47e642c2487099b0e89f3e17bc57c98a5c09"), looks := false }, kinds := [], alts := [], laidByText := true, laidKinds := [.data, .pinned], laidTests := true, laidLooks := .later }
def CsvReadsBackCardSaid : Prop := Claim7.holds Tryd.pinned (.plain (OpenSpec.ofChange csvReadsBackSpec)) csvReadsBackCard

/-- THE SECOND FORM's CARD OF 'chancerylaw2.CsvImportMatches'. -/
def csvImportMatchesUptoCard : Claim7 := { stood := { row := csvImportMatchesUptoRow, standIns := [], harness := (true, "6ebf6df8718fea72b1695e29555a47e642c2487099b0e89f3e17bc57c98a5c09"), looks := false }, kinds := [], alts := [], laidByText := true, laidKinds := [.data, .pinned], laidTests := true, laidLooks := .later }
def CsvImportMatchesUptoCardSaid : Prop := Claim7.holds Tryd.pinned (.plain (OpenSpec.upto csvImportMatchesSpec)) csvImportMatchesUptoCard

/-- THE SECOND FORM's CARD OF 'chancerylaw2.CsvPrintMatches'. -/
def csvPrintMatchesUptoCard : Claim7 := { stood := { row := csvPrintMatchesUptoRow, standIns := [], harness := (true, "6ebf6df8718fea72b1695e29555a47e642c2487099b0e89f3e17bc57c98a5c09"), looks := false }, kinds := [], alts := [], laidByText := true, laidKinds := [.data, .pinned], laidTests := true, laidLooks := .later }
def CsvPrintMatchesUptoCardSaid : Prop := Claim7.holds Tryd.pinned (.plain (OpenSpec.upto csvPrintMatchesSpec)) csvPrintMatchesUptoCard

/-- THE SECOND FORM's CARD OF 'chancerykeep2.CsvReadsBack'. -/
def csvReadsBackUptoCard : Claim7 := { stood := { row := csvReadsBackUptoRow, standIns := [], harness := (true, "6ebf6df8718fea72b1695e29555a47e642c2487099b0e89f3e17bc57c98a5c09"), looks := false }, kinds := [], alts := [], laidByText := true, laidKinds := [.data, .pinned], laidTests := true, laidLooks := .later }
def CsvReadsBackUptoCardSaid : Prop := Claim7.holds Tryd.pinned (.plain (OpenSpec.upto csvReadsBackSpec)) csvReadsBackUptoCard
end Rows
end Go.Proofs.YtjndiielolphgaaDoor
