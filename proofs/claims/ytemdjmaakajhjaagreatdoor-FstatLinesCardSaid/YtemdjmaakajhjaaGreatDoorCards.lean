/-
  DERIVED. GIVEN WITH THE SEED: THE CARDS: each row of YtemdjmaakajhjaaGreatDoorRows.lean that lists a variable, with what it lists TIED to the program's text (the seventh form; the later family's looks); each row that meets fmt, with fmt's text TOLD by the authors' own Lean function (tested against real Go, not proved from fmt's source: count such statements apart). THE CARD IS WHAT COUNTS. Prove the row's statement (the work); the ties are given (YtemdjmaakajhjaaGreatDoorTie.lean); close each card by the builder's one call (the guide's Derived/Test/ToyasCard.lean, 'card_holds'). Laid BY PROGRAM, IN A SANDBOX (cutbox-door.mjs). By AI agents, Wed Nov 11 2026. No macro, syntax, notation, axiom, sorry.
-/
import Derived.Test.YtemdjmaakajhjaaGreatDoorRows
import GoSem.ClaimSeven
namespace Go.Proofs.YtemdjmaakajhjaaGreatDoor
namespace Rows

/-- THE TIED CARD OF 'chancerykeep2.FstatMoves'. -/
def fstatMovesCard : Claim7 := { stood := { row := fstatMovesRow, standIns := [], harness := (true, "385cce26ce9c75647e7af2eb333d45f7affa4dad252dc4bf3c331c5620fdd922"), looks := true }, kinds := [], alts := [], laidByText := true, laidKinds := [.data, .data, .data, .data, .sentinel, .sentinel, .data, .data, .pinned, .pinned], laidTests := true, laidLooks := .later }
def FstatMovesCardSaid : Prop := Claim7.holds Tryz.pinned (.plain (OpenSpec.ofChange fstatMovesSpec)) fstatMovesCard

/-- THE TIED CARD OF 'chancerykeep2.FstatLines'. -/
def fstatLinesCard : Claim7 := { stood := { row := fstatLinesRow, standIns := [], harness := (true, "385cce26ce9c75647e7af2eb333d45f7affa4dad252dc4bf3c331c5620fdd922"), looks := true }, kinds := [], alts := [], laidByText := true, laidKinds := [.data, .data, .data, .data, .sentinel, .sentinel, .data, .data, .pinned, .pinned], laidTests := true, laidLooks := .later }
def FstatLinesCardSaid : Prop := Claim7.holds Tryz.pinned (.plain (OpenSpec.ofChange fstatLinesSpec)) fstatLinesCard

/-- THE TIED CARD OF 'chancerykeep2.FstatWhole'. -/
def fstatWholeCard : Claim7 := { stood := { row := fstatWholeRow, standIns := [], harness := (true, "385cce26ce9c75647e7af2eb333d45f7affa4dad252dc4bf3c331c5620fdd922"), looks := true }, kinds := [], alts := [], laidByText := true, laidKinds := [.data, .data, .data, .data, .sentinel, .sentinel, .data, .data, .pinned, .pinned], laidTests := true, laidLooks := .later }
def FstatWholeCardSaid : Prop := Claim7.holds Tryz.pinned (.plain (OpenSpec.ofChange fstatWholeSpec)) fstatWholeCard

/-- THE SECOND FORM's CARD OF 'chancerykeep2.FstatMoves'. -/
def fstatMovesUptoCard : Claim7 := { stood := { row := fstatMovesUptoRow, standIns := [], harness := (true, "385cce26ce9c75647e7af2eb333d45f7affa4dad252dc4bf3c331c5620fdd922"), looks := true }, kinds := [], alts := [], laidByText := true, laidKinds := [.data, .data, .data, .data, .sentinel, .sentinel, .data, .data, .pinned, .pinned], laidTests := true, laidLooks := .later }
def FstatMovesUptoCardSaid : Prop := Claim7.holds Tryz.pinned (.plain (OpenSpec.upto fstatMovesSpec)) fstatMovesUptoCard

/-- THE SECOND FORM's CARD OF 'chancerykeep2.FstatLines'. -/
def fstatLinesUptoCard : Claim7 := { stood := { row := fstatLinesUptoRow, standIns := [], harness := (true, "385cce26ce9c75647e7af2eb333d45f7affa4dad252dc4bf3c331c5620fdd922"), looks := true }, kinds := [], alts := [], laidByText := true, laidKinds := [.data, .data, .data, .data, .sentinel, .sentinel, .data, .data, .pinned, .pinned], laidTests := true, laidLooks := .later }
def FstatLinesUptoCardSaid : Prop := Claim7.holds Tryz.pinned (.plain (OpenSpec.upto fstatLinesSpec)) fstatLinesUptoCard

/-- THE SECOND FORM's CARD OF 'chancerykeep2.FstatWhole'. -/
def fstatWholeUptoCard : Claim7 := { stood := { row := fstatWholeUptoRow, standIns := [], harness := (true, "385cce26ce9c75647e7af2eb333d45f7affa4dad252dc4bf3c331c5620fdd922"), looks := true }, kinds := [], alts := [], laidByText := true, laidKinds := [.data, .data, .data, .data, .sentinel, .sentinel, .data, .data, .pinned, .pinned], laidTests := true, laidLooks := .later }
def FstatWholeUptoCardSaid : Prop := Claim7.holds Tryz.pinned (.plain (OpenSpec.upto fstatWholeSpec)) fstatWholeUptoCard
end Rows
end Go.Proofs.YtemdjmaakajhjaaGreatDoor
