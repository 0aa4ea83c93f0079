/-
  DERIVED. GIVEN WITH THE SEED: THE CARDS: each row of YtnlaecjniellpaaGreatDoorRows.lean that lists a variable, with what it lists TIED to the program's text (the seventh form; the later family's looks); each row that meets fmt, with fmt's text TOLD by the authors' own Lean function (tested against real Go, not proved from fmt's source: count such statements apart). THE CARD IS WHAT COUNTS. Prove the row's statement (the work); the ties are given (YtnlaecjniellpaaGreatDoorTie.lean); close each card by the builder's one call (the guide's Derived/Test/ToyasCard.lean, 'card_holds'). Laid BY PROGRAM, IN A SANDBOX (cutbox-door.mjs). By AI agents, Wed Nov 11 2026. No macro, syntax, notation, axiom, sorry.
-/
import Derived.Test.YtnlaecjniellpaaGreatDoorRows
import GoSem.ClaimSeven
namespace Go.Proofs.YtnlaecjniellpaaGreatDoor
namespace Rows

/-- THE TIED CARD OF 'chancerykeep2.FmathSystemsBack'. -/
def fmathSystemsBackCard : Claim7 := { stood := { row := fmathSystemsBackRow, standIns := [], harness := (true, "45160b34b57ecc97206acf3bd5ae38e52ee545a9df34ca3e2d9ec76e082591dc"), looks := true }, kinds := [], alts := [], laidByText := true, laidKinds := [.data, .data, .data, .pinned, .data, .sentinel, .sentinel, .data, .pinned, .data, .data, .data, .data], laidTests := true, laidLooks := .later }
def FmathSystemsBackCardSaid : Prop := Claim7.holds Tryz.pinned (.plain (OpenSpec.ofChange fmathSystemsBackSpec)) fmathSystemsBackCard

/-- THE SECOND FORM's CARD OF 'chancerykeep2.FmathSystemsBack'. -/
def fmathSystemsBackUptoCard : Claim7 := { stood := { row := fmathSystemsBackUptoRow, standIns := [], harness := (true, "45160b34b57ecc97206acf3bd5ae38e52ee545a9df34ca3e2d9ec76e082591dc"), looks := true }, kinds := [], alts := [], laidByText := true, laidKinds := [.data, .data, .data, .pinned, .data, .sentinel, .sentinel, .data, .pinned, .data, .data, .data, .data], laidTests := true, laidLooks := .later }
def FmathSystemsBackUptoCardSaid : Prop := Claim7.holds Tryz.pinned (.plain (OpenSpec.upto fmathSystemsBackSpec)) fmathSystemsBackUptoCard
end Rows
end Go.Proofs.YtnlaecjniellpaaGreatDoor
