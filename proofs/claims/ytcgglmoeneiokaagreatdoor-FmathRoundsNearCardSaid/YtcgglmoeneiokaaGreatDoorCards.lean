/-
  DERIVED. GIVEN WITH THE SEED: THE CARDS: each row of YtcgglmoeneiokaaGreatDoorRows.lean that lists a variable, with what it lists TIED to the program's text (the seventh form; the later family's looks); each row that meets fmt, with fmt's text TOLD by the authors' own Lean function (tested against real Go, not proved from fmt's source: count such statements apart). THE CARD IS WHAT COUNTS. Prove the row's statement (the work); the ties are given (YtcgglmoeneiokaaGreatDoorTie.lean); close each card by the builder's one call (the guide's Derived/Test/ToyasCard.lean, 'card_holds'). Laid BY PROGRAM, IN A SANDBOX (cutbox-door.mjs). By AI agents, Wed Nov 11 2026. No macro, syntax, notation, axiom, sorry.
-/
import Derived.Test.YtcgglmoeneiokaaGreatDoorRows
import GoSem.ClaimSeven
namespace Go.Proofs.YtcgglmoeneiokaaGreatDoor
namespace Rows

/-- THE TIED CARD OF 'chancerykeep2.FmathDivisors'. -/
def fmathDivisorsCard : Claim7 := { stood := { row := fmathDivisorsRow, standIns := [], harness := (true, "7136a2d3deabd1a02a9f3a24bee143beae996defd8d5d81c3efb99c3c5449c27"), looks := true }, kinds := [], alts := [], laidByText := true, laidKinds := [.data, .data, .data, .data, .sentinel, .sentinel, .data, .pinned, .pinned], laidTests := true, laidLooks := .later }
def FmathDivisorsCardSaid : Prop := Claim7.holds Tryz.pinned (.plain (OpenSpec.ofChange fmathDivisorsSpec)) fmathDivisorsCard

/-- THE TIED CARD OF 'chancerykeep2.FmathPascal'. -/
def fmathPascalCard : Claim7 := { stood := { row := fmathPascalRow, standIns := [], harness := (true, "7136a2d3deabd1a02a9f3a24bee143beae996defd8d5d81c3efb99c3c5449c27"), looks := true }, kinds := [], alts := [], laidByText := true, laidKinds := [.data, .data, .data, .data, .sentinel, .sentinel, .data, .pinned, .pinned], laidTests := true, laidLooks := .later }
def FmathPascalCardSaid : Prop := Claim7.holds Tryz.pinned (.plain (OpenSpec.ofChange fmathPascalSpec)) fmathPascalCard

/-- THE TIED CARD OF 'chancerykeep2.FmathInverts'. -/
def fmathInvertsCard : Claim7 := { stood := { row := fmathInvertsRow, standIns := [], harness := (true, "7136a2d3deabd1a02a9f3a24bee143beae996defd8d5d81c3efb99c3c5449c27"), looks := true }, kinds := [], alts := [], laidByText := true, laidKinds := [.data, .data, .data, .data, .sentinel, .sentinel, .data, .pinned, .pinned], laidTests := true, laidLooks := .later }
def FmathInvertsCardSaid : Prop := Claim7.holds Tryz.pinned (.plain (OpenSpec.ofChange fmathInvertsSpec)) fmathInvertsCard

/-- THE TIED CARD OF 'chancerykeep2.FmathDivides'. -/
def fmathDividesCard : Claim7 := { stood := { row := fmathDividesRow, standIns := [], harness := (true, "7136a2d3deabd1a02a9f3a24bee143beae996defd8d5d81c3efb99c3c5449c27"), looks := true }, kinds := [], alts := [], laidByText := true, laidKinds := [.data, .data, .data, .data, .sentinel, .sentinel, .data, .pinned, .pinned], laidTests := true, laidLooks := .later }
def FmathDividesCardSaid : Prop := Claim7.holds Tryz.pinned (.plain (OpenSpec.ofChange fmathDividesSpec)) fmathDividesCard

/-- THE TIED CARD OF 'chancerykeep2.FmathSumsSplit'. -/
def fmathSumsSplitCard : Claim7 := { stood := { row := fmathSumsSplitRow, standIns := [], harness := (true, "7136a2d3deabd1a02a9f3a24bee143beae996defd8d5d81c3efb99c3c5449c27"), looks := true }, kinds := [], alts := [], laidByText := true, laidKinds := [.data, .data, .data, .data, .sentinel, .sentinel, .data, .pinned, .pinned], laidTests := true, laidLooks := .later }
def FmathSumsSplitCardSaid : Prop := Claim7.holds Tryz.pinned (.plain (OpenSpec.ofChange fmathSumsSplitSpec)) fmathSumsSplitCard

/-- THE TIED CARD OF 'chancerykeep2.FmathRoundsNear'. -/
def fmathRoundsNearCard : Claim7 := { stood := { row := fmathRoundsNearRow, standIns := [], harness := (true, "7136a2d3deabd1a02a9f3a24bee143beae996defd8d5d81c3efb99c3c5449c27"), looks := true }, kinds := [], alts := [], laidByText := true, laidKinds := [.data, .data, .data, .data, .sentinel, .sentinel, .data, .pinned, .pinned], laidTests := true, laidLooks := .later }
def FmathRoundsNearCardSaid : Prop := Claim7.holds Tryz.pinned (.plain (OpenSpec.ofChange fmathRoundsNearSpec)) fmathRoundsNearCard

/-- THE SECOND FORM's CARD OF 'chancerykeep2.FmathDivisors'. -/
def fmathDivisorsUptoCard : Claim7 := { stood := { row := fmathDivisorsUptoRow, standIns := [], harness := (true, "7136a2d3deabd1a02a9f3a24bee143beae996defd8d5d81c3efb99c3c5449c27"), looks := true }, kinds := [], alts := [], laidByText := true, laidKinds := [.data, .data, .data, .data, .sentinel, .sentinel, .data, .pinned, .pinned], laidTests := true, laidLooks := .later }
def FmathDivisorsUptoCardSaid : Prop := Claim7.holds Tryz.pinned (.plain (OpenSpec.upto fmathDivisorsSpec)) fmathDivisorsUptoCard

/-- THE SECOND FORM's CARD OF 'chancerykeep2.FmathPascal'. -/
def fmathPascalUptoCard : Claim7 := { stood := { row := fmathPascalUptoRow, standIns := [], harness := (true, "7136a2d3deabd1a02a9f3a24bee143beae996defd8d5d81c3efb99c3c5449c27"), looks := true }, kinds := [], alts := [], laidByText := true, laidKinds := [.data, .data, .data, .data, .sentinel, .sentinel, .data, .pinned, .pinned], laidTests := true, laidLooks := .later }
def FmathPascalUptoCardSaid : Prop := Claim7.holds Tryz.pinned (.plain (OpenSpec.upto fmathPascalSpec)) fmathPascalUptoCard

/-- THE SECOND FORM's CARD OF 'chancerykeep2.FmathInverts'. -/
def fmathInvertsUptoCard : Claim7 := { stood := { row := fmathInvertsUptoRow, standIns := [], harness := (true, "7136a2d3deabd1a02a9f3a24bee143beae996defd8d5d81c3efb99c3c5449c27"), looks := true }, kinds := [], alts := [], laidByText := true, laidKinds := [.data, .data, .data, .data, .sentinel, .sentinel, .data, .pinned, .pinned], laidTests := true, laidLooks := .later }
def FmathInvertsUptoCardSaid : Prop := Claim7.holds Tryz.pinned (.plain (OpenSpec.upto fmathInvertsSpec)) fmathInvertsUptoCard

/-- THE SECOND FORM's CARD OF 'chancerykeep2.FmathDivides'. -/
def fmathDividesUptoCard : Claim7 := { stood := { row := fmathDividesUptoRow, standIns := [], harness := (true, "7136a2d3deabd1a02a9f3a24bee143beae996defd8d5d81c3efb99c3c5449c27"), looks := true }, kinds := [], alts := [], laidByText := true, laidKinds := [.data, .data, .data, .data, .sentinel, .sentinel, .data, .pinned, .pinned], laidTests := true, laidLooks := .later }
def FmathDividesUptoCardSaid : Prop := Claim7.holds Tryz.pinned (.plain (OpenSpec.upto fmathDividesSpec)) fmathDividesUptoCard

/-- THE SECOND FORM's CARD OF 'chancerykeep2.FmathSumsSplit'. -/
def fmathSumsSplitUptoCard : Claim7 := { stood := { row := fmathSumsSplitUptoRow, standIns := [], harness := (true, "7136a2d3deabd1a02a9f3a24bee143beae996defd8d5d81c3efb99c3c5449c27"), looks := true }, kinds := [], alts := [], laidByText := true, laidKinds := [.data, .data, .data, .data, .sentinel, .sentinel, .data, .pinned, .pinned], laidTests := true, laidLooks := .later }
def FmathSumsSplitUptoCardSaid : Prop := Claim7.holds Tryz.pinned (.plain (OpenSpec.upto fmathSumsSplitSpec)) fmathSumsSplitUptoCard

/-- THE SECOND FORM's CARD OF 'chancerykeep2.FmathRoundsNear'. -/
def fmathRoundsNearUptoCard : Claim7 := { stood := { row := fmathRoundsNearUptoRow, standIns := [], harness := (true, "7136a2d3deabd1a02a9f3a24bee143beae996defd8d5d81c3efb99c3c5449c27"), looks := true }, kinds := [], alts := [], laidByText := true, laidKinds := [.data, .data, .data, .data, .sentinel, .sentinel, .data, .pinned, .pinned], laidTests := true, laidLooks := .later }
def FmathRoundsNearUptoCardSaid : Prop := Claim7.holds Tryz.pinned (.plain (OpenSpec.upto fmathRoundsNearSpec)) fmathRoundsNearUptoCard
end Rows
end Go.Proofs.YtcgglmoeneiokaaGreatDoor
