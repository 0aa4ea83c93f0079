/-
  DERIVED. GIVEN WITH THE SEED: THE CARDS: each row of YtgponoogifeopaaGreatDoorRows.lean that lists a variable, with what it lists TIED to the program's text (the seventh form; the later family's looks); each row that meets fmt, with fmt's text TOLD by the authors' own Lean function (tested against real Go, not proved from fmt's source: count such statements apart). THE CARD IS WHAT COUNTS. Prove the row's statement (the work); the ties are given (YtgponoogifeopaaGreatDoorTie.lean); close each card by the builder's one call (the guide's Derived/Test/ToyasCard.lean, 'card_holds'). Laid BY PROGRAM, IN A SANDBOX (cutbox-door.mjs). By AI agents, Wed Nov 11 2026. No macro, syntax, notation, axiom, sorry.
-/
import Derived.Test.YtgponoogifeopaaGreatDoorRows
import GoSem.ClaimSeven
namespace Go.Proofs.YtgponoogifeopaaGreatDoor
namespace Rows

/-- THE TIED CARD OF 'chancerykeep2.FmathInverts'. -/
def fmathInvertsCard : Claim7 := { stood := { row := fmathInvertsRow, standIns := [], harness := (true, "243b26323086eea38519c3f2399506bd5e8291423902312e832f3712c4bef8fd"), looks := true }, kinds := [], alts := [], laidByText := true, laidKinds := [.data, .data, .data, .data, .sentinel, .sentinel, .data, .pinned, .pinned], laidTests := true, laidLooks := .later }
def FmathInvertsCardSaid : Prop := Claim7.holds Tryz.pinned (.plain (OpenSpec.ofChange fmathInvertsSpec)) fmathInvertsCard

/-- THE TIED CARD OF 'chancerykeep2.FstatRanks'. -/
def fstatRanksCard : Claim7 := { stood := { row := fstatRanksRow, standIns := [], harness := (true, "243b26323086eea38519c3f2399506bd5e8291423902312e832f3712c4bef8fd"), looks := true }, kinds := [], alts := [], laidByText := true, laidKinds := [.data, .data, .data, .data, .sentinel, .sentinel, .data, .data, .pinned, .pinned], laidTests := true, laidLooks := .later }
def FstatRanksCardSaid : Prop := Claim7.holds Tryz.pinned (.plain (OpenSpec.ofChange fstatRanksSpec)) fstatRanksCard

/-- THE SECOND FORM's CARD OF 'chancerykeep2.FmathInverts'. -/
def fmathInvertsUptoCard : Claim7 := { stood := { row := fmathInvertsUptoRow, standIns := [], harness := (true, "243b26323086eea38519c3f2399506bd5e8291423902312e832f3712c4bef8fd"), looks := true }, kinds := [], alts := [], laidByText := true, laidKinds := [.data, .data, .data, .data, .sentinel, .sentinel, .data, .pinned, .pinned], laidTests := true, laidLooks := .later }
def FmathInvertsUptoCardSaid : Prop := Claim7.holds Tryz.pinned (.plain (OpenSpec.upto fmathInvertsSpec)) fmathInvertsUptoCard

/-- THE SECOND FORM's CARD OF 'chancerykeep2.FstatRanks'. -/
def fstatRanksUptoCard : Claim7 := { stood := { row := fstatRanksUptoRow, standIns := [], harness := (true, "243b26323086eea38519c3f2399506bd5e8291423902312e832f3712c4bef8fd"), looks := true }, kinds := [], alts := [], laidByText := true, laidKinds := [.data, .data, .data, .data, .sentinel, .sentinel, .data, .data, .pinned, .pinned], laidTests := true, laidLooks := .later }
def FstatRanksUptoCardSaid : Prop := Claim7.holds Tryz.pinned (.plain (OpenSpec.upto fstatRanksSpec)) fstatRanksUptoCard
end Rows
end Go.Proofs.YtgponoogifeopaaGreatDoor
