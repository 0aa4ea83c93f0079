/-
  DERIVED. GIVEN WITH THE SEED: THE CARDS: each row of YtkbhlkinlcmgoaaGreatDoorRows.lean that lists a variable, with what it lists TIED to the program's text (the seventh form; the later family's looks); each row that meets fmt, with fmt's text TOLD by the authors' own Lean function (tested against real Go, not proved from fmt's source: count such statements apart). THE CARD IS WHAT COUNTS. Prove the row's statement (the work); the ties are given (YtkbhlkinlcmgoaaGreatDoorTie.lean); close each card by the builder's one call (the guide's Derived/Test/ToyasCard.lean, 'card_holds'). Laid BY PROGRAM, IN A SANDBOX (cutbox-door.mjs). By AI agents, Wed Nov 11 2026. No macro, syntax, notation, axiom, sorry.
-/
import Derived.Test.YtkbhlkinlcmgoaaGreatDoorRows
import GoSem.ClaimSeven
namespace Go.Proofs.YtkbhlkinlcmgoaaGreatDoor
namespace Rows

/-- THE TIED CARD OF 'chancerykeep2.FmoneyPlans'. -/
def fmoneyPlansCard : Claim7 := { stood := { row := fmoneyPlansRow, standIns := [], harness := (true, "5161aec2221b9a1b3633ffe05d0a5012945ccc967e70a150a336ff59c914730b"), looks := true }, kinds := [], alts := [], laidByText := true, laidKinds := [.data, .data, .data, .data, .sentinel, .sentinel, .data, .data, .pinned, .pinned], laidTests := true, laidLooks := .later }
def FmoneyPlansCardSaid : Prop := Claim7.holds Tryz.pinned (.plain (OpenSpec.ofChange fmoneyPlansSpec)) fmoneyPlansCard

/-- THE SECOND FORM's CARD OF 'chancerykeep2.FmoneyPlans'. -/
def fmoneyPlansUptoCard : Claim7 := { stood := { row := fmoneyPlansUptoRow, standIns := [], harness := (true, "5161aec2221b9a1b3633ffe05d0a5012945ccc967e70a150a336ff59c914730b"), looks := true }, kinds := [], alts := [], laidByText := true, laidKinds := [.data, .data, .data, .data, .sentinel, .sentinel, .data, .data, .pinned, .pinned], laidTests := true, laidLooks := .later }
def FmoneyPlansUptoCardSaid : Prop := Claim7.holds Tryz.pinned (.plain (OpenSpec.upto fmoneyPlansSpec)) fmoneyPlansUptoCard
end Rows
end Go.Proofs.YtkbhlkinlcmgoaaGreatDoor
