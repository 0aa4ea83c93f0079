/-
  DERIVED. GIVEN WITH THE SEED: THE CARDS: each row of YtcbolipiaflfbaaGreatDoorRows.lean that lists a variable, with what it lists TIED to the program's text (the seventh form; the later family's looks); each row that meets fmt, with fmt's text TOLD by the authors' own Lean function (tested against real Go, not proved from fmt's source: count such statements apart). THE CARD IS WHAT COUNTS. Prove the row's statement (the work); the ties are given (YtcbolipiaflfbaaGreatDoorTie.lean); close each card by the builder's one call (the guide's Derived/Test/ToyasCard.lean, 'card_holds'). Laid BY PROGRAM, IN A SANDBOX (cutbox-door.mjs). By AI agents, Wed Nov 11 2026. No macro, syntax, notation, axiom, sorry.
-/
import Derived.Test.YtcbolipiaflfbaaGreatDoorRows
import GoSem.ClaimSeven
namespace Go.Proofs.YtcbolipiaflfbaaGreatDoor
namespace Rows

/-- THE TIED CARD OF 'chancerykeep2.FmathInverts'. -/
def fmathInvertsCard : Claim7 := { stood := { row := fmathInvertsRow, standIns := [], harness := (true, "ffd2c5c2f38d88da0999c9bad77352cac4a49748a36af93466b79f8c5fecebc2"), looks := true }, kinds := [], alts := [], laidByText := true, laidKinds := [.data, .data, .data, .data, .sentinel, .sentinel, .data, .pinned, .pinned], laidTests := true, laidLooks := .later }
def FmathInvertsCardSaid : Prop := Claim7.holds Tryz.pinned (.plain (OpenSpec.ofChange fmathInvertsSpec)) fmathInvertsCard

/-- THE TIED CARD OF 'chancerykeep2.FmoneyReturns'. -/
def fmoneyReturnsCard : Claim7 := { stood := { row := fmoneyReturnsRow, standIns := [], harness := (true, "ffd2c5c2f38d88da0999c9bad77352cac4a49748a36af93466b79f8c5fecebc2"), looks := true }, kinds := [], alts := [], laidByText := true, laidKinds := [.data, .data, .data, .data, .sentinel, .sentinel, .data, .data, .pinned, .pinned], laidTests := true, laidLooks := .later }
def FmoneyReturnsCardSaid : Prop := Claim7.holds Tryz.pinned (.plain (OpenSpec.ofChange fmoneyReturnsSpec)) fmoneyReturnsCard

/-- THE TIED CARD OF 'chancerykeep2.FstatMoves'. -/
def fstatMovesCard : Claim7 := { stood := { row := fstatMovesRow, standIns := [], harness := (true, "ffd2c5c2f38d88da0999c9bad77352cac4a49748a36af93466b79f8c5fecebc2"), looks := true }, kinds := [], alts := [], laidByText := true, laidKinds := [.data, .data, .data, .data, .sentinel, .sentinel, .data, .data, .pinned, .pinned], laidTests := true, laidLooks := .later }
def FstatMovesCardSaid : Prop := Claim7.holds Tryz.pinned (.plain (OpenSpec.ofChange fstatMovesSpec)) fstatMovesCard

/-- THE TIED CARD OF 'chancerykeep2.FstatLines'. -/
def fstatLinesCard : Claim7 := { stood := { row := fstatLinesRow, standIns := [], harness := (true, "ffd2c5c2f38d88da0999c9bad77352cac4a49748a36af93466b79f8c5fecebc2"), looks := true }, kinds := [], alts := [], laidByText := true, laidKinds := [.data, .data, .data, .data, .sentinel, .sentinel, .data, .data, .pinned, .pinned], laidTests := true, laidLooks := .later }
def FstatLinesCardSaid : Prop := Claim7.holds Tryz.pinned (.plain (OpenSpec.ofChange fstatLinesSpec)) fstatLinesCard

/-- THE TIED CARD OF 'chancerykeep2.FstatWhole'. -/
def fstatWholeCard : Claim7 := { stood := { row := fstatWholeRow, standIns := [], harness := (true, "ffd2c5c2f38d88da0999c9bad77352cac4a49748a36af93466b79f8c5fecebc2"), looks := true }, kinds := [], alts := [], laidByText := true, laidKinds := [.data, .data, .data, .data, .sentinel, .sentinel, .data, .data, .pinned, .pinned], laidTests := true, laidLooks := .later }
def FstatWholeCardSaid : Prop := Claim7.holds Tryz.pinned (.plain (OpenSpec.ofChange fstatWholeSpec)) fstatWholeCard

/-- THE TIED CARD OF 'chancerykeep2.FstatRanks'. -/
def fstatRanksCard : Claim7 := { stood := { row := fstatRanksRow, standIns := [], harness := (true, "ffd2c5c2f38d88da0999c9bad77352cac4a49748a36af93466b79f8c5fecebc2"), looks := true }, kinds := [], alts := [], laidByText := true, laidKinds := [.data, .data, .data, .data, .sentinel, .sentinel, .data, .data, .pinned, .pinned], laidTests := true, laidLooks := .later }
def FstatRanksCardSaid : Prop := Claim7.holds Tryz.pinned (.plain (OpenSpec.ofChange fstatRanksSpec)) fstatRanksCard

/-- THE SECOND FORM's CARD OF 'chancerykeep2.FmathInverts'. -/
def fmathInvertsUptoCard : Claim7 := { stood := { row := fmathInvertsUptoRow, standIns := [], harness := (true, "ffd2c5c2f38d88da0999c9bad77352cac4a49748a36af93466b79f8c5fecebc2"), looks := true }, kinds := [], alts := [], laidByText := true, laidKinds := [.data, .data, .data, .data, .sentinel, .sentinel, .data, .pinned, .pinned], laidTests := true, laidLooks := .later }
def FmathInvertsUptoCardSaid : Prop := Claim7.holds Tryz.pinned (.plain (OpenSpec.upto fmathInvertsSpec)) fmathInvertsUptoCard

/-- THE SECOND FORM's CARD OF 'chancerykeep2.FmoneyReturns'. -/
def fmoneyReturnsUptoCard : Claim7 := { stood := { row := fmoneyReturnsUptoRow, standIns := [], harness := (true, "ffd2c5c2f38d88da0999c9bad77352cac4a49748a36af93466b79f8c5fecebc2"), looks := true }, kinds := [], alts := [], laidByText := true, laidKinds := [.data, .data, .data, .data, .sentinel, .sentinel, .data, .data, .pinned, .pinned], laidTests := true, laidLooks := .later }
def FmoneyReturnsUptoCardSaid : Prop := Claim7.holds Tryz.pinned (.plain (OpenSpec.upto fmoneyReturnsSpec)) fmoneyReturnsUptoCard

/-- THE SECOND FORM's CARD OF 'chancerykeep2.FstatMoves'. -/
def fstatMovesUptoCard : Claim7 := { stood := { row := fstatMovesUptoRow, standIns := [], harness := (true, "ffd2c5c2f38d88da0999c9bad77352cac4a49748a36af93466b79f8c5fecebc2"), looks := true }, kinds := [], alts := [], laidByText := true, laidKinds := [.data, .data, .data, .data, .sentinel, .sentinel, .data, .data, .pinned, .pinned], laidTests := true, laidLooks := .later }
def FstatMovesUptoCardSaid : Prop := Claim7.holds Tryz.pinned (.plain (OpenSpec.upto fstatMovesSpec)) fstatMovesUptoCard

/-- THE SECOND FORM's CARD OF 'chancerykeep2.FstatLines'. -/
def fstatLinesUptoCard : Claim7 := { stood := { row := fstatLinesUptoRow, standIns := [], harness := (true, "ffd2c5c2f38d88da0999c9bad77352cac4a49748a36af93466b79f8c5fecebc2"), looks := true }, kinds := [], alts := [], laidByText := true, laidKinds := [.data, .data, .data, .data, .sentinel, .sentinel, .data, .data, .pinned, .pinned], laidTests := true, laidLooks := .later }
def FstatLinesUptoCardSaid : Prop := Claim7.holds Tryz.pinned (.plain (OpenSpec.upto fstatLinesSpec)) fstatLinesUptoCard

/-- THE SECOND FORM's CARD OF 'chancerykeep2.FstatWhole'. -/
def fstatWholeUptoCard : Claim7 := { stood := { row := fstatWholeUptoRow, standIns := [], harness := (true, "ffd2c5c2f38d88da0999c9bad77352cac4a49748a36af93466b79f8c5fecebc2"), looks := true }, kinds := [], alts := [], laidByText := true, laidKinds := [.data, .data, .data, .data, .sentinel, .sentinel, .data, .data, .pinned, .pinned], laidTests := true, laidLooks := .later }
def FstatWholeUptoCardSaid : Prop := Claim7.holds Tryz.pinned (.plain (OpenSpec.upto fstatWholeSpec)) fstatWholeUptoCard

/-- THE SECOND FORM's CARD OF 'chancerykeep2.FstatRanks'. -/
def fstatRanksUptoCard : Claim7 := { stood := { row := fstatRanksUptoRow, standIns := [], harness := (true, "ffd2c5c2f38d88da0999c9bad77352cac4a49748a36af93466b79f8c5fecebc2"), looks := true }, kinds := [], alts := [], laidByText := true, laidKinds := [.data, .data, .data, .data, .sentinel, .sentinel, .data, .data, .pinned, .pinned], laidTests := true, laidLooks := .later }
def FstatRanksUptoCardSaid : Prop := Claim7.holds Tryz.pinned (.plain (OpenSpec.upto fstatRanksSpec)) fstatRanksUptoCard
end Rows
end Go.Proofs.YtcbolipiaflfbaaGreatDoor
