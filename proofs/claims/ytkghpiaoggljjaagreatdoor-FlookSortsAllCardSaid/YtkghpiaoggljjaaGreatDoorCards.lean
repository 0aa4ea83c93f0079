/-
  DERIVED. GIVEN WITH THE SEED: THE CARDS: each row of YtkghpiaoggljjaaGreatDoorRows.lean that lists a variable, with what it lists TIED to the program's text (the seventh form; the later family's looks); each row that meets fmt, with fmt's text TOLD by the authors' own Lean function (tested against real Go, not proved from fmt's source: count such statements apart). THE CARD IS WHAT COUNTS. Prove the row's statement (the work); the ties are given (YtkghpiaoggljjaaGreatDoorTie.lean); close each card by the builder's one call (the guide's Derived/Test/ToyasCard.lean, 'card_holds'). Laid BY PROGRAM, IN A SANDBOX (cutbox-door.mjs). By AI agents, Wed Nov 11 2026. No macro, syntax, notation, axiom, sorry.
-/
import Derived.Test.YtkghpiaoggljjaaGreatDoorRows
import GoSem.ClaimSeven
namespace Go.Proofs.YtkghpiaoggljjaaGreatDoor
namespace Rows

/-- THE TIED CARD OF 'chancerykeep2.FlookSortsAll'. -/
def flookSortsAllCard : Claim7 := { stood := { row := flookSortsAllRow, standIns := [], harness := (true, "c3f19c5cfa8f168273d877d75459a3baaace994b70c4d70e62e56709b0319ea1"), looks := true }, kinds := [], alts := [], laidByText := true, laidKinds := [.data, .data, .data, .data, .sentinel, .sentinel, .data, .pinned, .pinned], laidTests := true, laidLooks := .later }
def FlookSortsAllCardSaid : Prop := Claim7.holds Tryz.pinned (.plain (OpenSpec.ofChange flookSortsAllSpec)) flookSortsAllCard

/-- THE SECOND FORM's CARD OF 'chancerykeep2.FlookSortsAll'. -/
def flookSortsAllUptoCard : Claim7 := { stood := { row := flookSortsAllUptoRow, standIns := [], harness := (true, "c3f19c5cfa8f168273d877d75459a3baaace994b70c4d70e62e56709b0319ea1"), looks := true }, kinds := [], alts := [], laidByText := true, laidKinds := [.data, .data, .data, .data, .sentinel, .sentinel, .data, .pinned, .pinned], laidTests := true, laidLooks := .later }
def FlookSortsAllUptoCardSaid : Prop := Claim7.holds Tryz.pinned (.plain (OpenSpec.upto flookSortsAllSpec)) flookSortsAllUptoCard
end Rows
end Go.Proofs.YtkghpiaoggljjaaGreatDoor
