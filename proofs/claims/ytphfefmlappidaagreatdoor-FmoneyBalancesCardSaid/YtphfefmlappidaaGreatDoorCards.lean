/-
  DERIVED. GIVEN WITH THE SEED: THE CARDS: each row of YtphfefmlappidaaGreatDoorRows.lean that lists a variable, with what it lists TIED to the program's text (the seventh form; the later family's looks); each row that meets fmt, with fmt's text TOLD by the authors' own Lean function (tested against real Go, not proved from fmt's source: count such statements apart). THE CARD IS WHAT COUNTS. Prove the row's statement (the work); the ties are given (YtphfefmlappidaaGreatDoorTie.lean); close each card by the builder's one call (the guide's Derived/Test/ToyasCard.lean, 'card_holds'). Laid BY PROGRAM, IN A SANDBOX (cutbox-door.mjs). By AI agents, Wed Nov 11 2026. No macro, syntax, notation, axiom, sorry.
-/
import Derived.Test.YtphfefmlappidaaGreatDoorRows
import GoSem.ClaimSeven
namespace Go.Proofs.YtphfefmlappidaaGreatDoor
namespace Rows

/-- THE TIED CARD OF 'chancerykeep2.FmoneyBalances'. -/
def fmoneyBalancesCard : Claim7 := { stood := { row := fmoneyBalancesRow, standIns := [], harness := (true, "8a052a9934ecb550b163628ba506950198ff98e56f386d0514deeb6cb7f2a342"), looks := true }, kinds := [], alts := [], laidByText := true, laidKinds := [.data, .data, .data, .data, .sentinel, .sentinel, .data, .data, .pinned, .pinned], laidTests := true, laidLooks := .later }
def FmoneyBalancesCardSaid : Prop := Claim7.holds Tryz.pinned (.plain (OpenSpec.ofChange fmoneyBalancesSpec)) fmoneyBalancesCard

/-- THE TIED CARD OF 'chancerykeep2.FmoneyReturns'. -/
def fmoneyReturnsCard : Claim7 := { stood := { row := fmoneyReturnsRow, standIns := [], harness := (true, "8a052a9934ecb550b163628ba506950198ff98e56f386d0514deeb6cb7f2a342"), looks := true }, kinds := [], alts := [], laidByText := true, laidKinds := [.data, .data, .data, .data, .sentinel, .sentinel, .data, .data, .pinned, .pinned], laidTests := true, laidLooks := .later }
def FmoneyReturnsCardSaid : Prop := Claim7.holds Tryz.pinned (.plain (OpenSpec.ofChange fmoneyReturnsSpec)) fmoneyReturnsCard

/-- THE TIED CARD OF 'chancerykeep2.FdateBack'. -/
def fdateBackCard : Claim7 := { stood := { row := fdateBackRow, standIns := [], harness := (true, "8a052a9934ecb550b163628ba506950198ff98e56f386d0514deeb6cb7f2a342"), looks := true }, kinds := [], alts := [], laidByText := true, laidKinds := [.data, .data, .data, .data, .sentinel, .sentinel, .data, .pinned, .pinned], laidTests := true, laidLooks := .later }
def FdateBackCardSaid : Prop := Claim7.holds Tryz.pinned (.plain (OpenSpec.ofChange fdateBackSpec)) fdateBackCard

/-- THE TIED CARD OF 'chancerykeep2.FdateMonths'. -/
def fdateMonthsCard : Claim7 := { stood := { row := fdateMonthsRow, standIns := [], harness := (true, "8a052a9934ecb550b163628ba506950198ff98e56f386d0514deeb6cb7f2a342"), looks := true }, kinds := [], alts := [], laidByText := true, laidKinds := [.data, .data, .data, .data, .sentinel, .sentinel, .data, .pinned, .pinned], laidTests := true, laidLooks := .later }
def FdateMonthsCardSaid : Prop := Claim7.holds Tryz.pinned (.plain (OpenSpec.ofChange fdateMonthsSpec)) fdateMonthsCard

/-- THE TIED CARD OF 'chancerykeep2.FdateWorks'. -/
def fdateWorksCard : Claim7 := { stood := { row := fdateWorksRow, standIns := [], harness := (true, "8a052a9934ecb550b163628ba506950198ff98e56f386d0514deeb6cb7f2a342"), looks := true }, kinds := [], alts := [], laidByText := true, laidKinds := [.data, .data, .data, .data, .sentinel, .sentinel, .data, .pinned, .pinned], laidTests := true, laidLooks := .later }
def FdateWorksCardSaid : Prop := Claim7.holds Tryz.pinned (.plain (OpenSpec.ofChange fdateWorksSpec)) fdateWorksCard

/-- THE SECOND FORM's CARD OF 'chancerykeep2.FmoneyBalances'. -/
def fmoneyBalancesUptoCard : Claim7 := { stood := { row := fmoneyBalancesUptoRow, standIns := [], harness := (true, "8a052a9934ecb550b163628ba506950198ff98e56f386d0514deeb6cb7f2a342"), looks := true }, kinds := [], alts := [], laidByText := true, laidKinds := [.data, .data, .data, .data, .sentinel, .sentinel, .data, .data, .pinned, .pinned], laidTests := true, laidLooks := .later }
def FmoneyBalancesUptoCardSaid : Prop := Claim7.holds Tryz.pinned (.plain (OpenSpec.upto fmoneyBalancesSpec)) fmoneyBalancesUptoCard

/-- THE SECOND FORM's CARD OF 'chancerykeep2.FmoneyReturns'. -/
def fmoneyReturnsUptoCard : Claim7 := { stood := { row := fmoneyReturnsUptoRow, standIns := [], harness := (true, "8a052a9934ecb550b163628ba506950198ff98e56f386d0514deeb6cb7f2a342"), looks := true }, kinds := [], alts := [], laidByText := true, laidKinds := [.data, .data, .data, .data, .sentinel, .sentinel, .data, .data, .pinned, .pinned], laidTests := true, laidLooks := .later }
def FmoneyReturnsUptoCardSaid : Prop := Claim7.holds Tryz.pinned (.plain (OpenSpec.upto fmoneyReturnsSpec)) fmoneyReturnsUptoCard

/-- THE SECOND FORM's CARD OF 'chancerykeep2.FdateBack'. -/
def fdateBackUptoCard : Claim7 := { stood := { row := fdateBackUptoRow, standIns := [], harness := (true, "8a052a9934ecb550b163628ba506950198ff98e56f386d0514deeb6cb7f2a342"), looks := true }, kinds := [], alts := [], laidByText := true, laidKinds := [.data, .data, .data, .data, .sentinel, .sentinel, .data, .pinned, .pinned], laidTests := true, laidLooks := .later }
def FdateBackUptoCardSaid : Prop := Claim7.holds Tryz.pinned (.plain (OpenSpec.upto fdateBackSpec)) fdateBackUptoCard

/-- THE SECOND FORM's CARD OF 'chancerykeep2.FdateMonths'. -/
def fdateMonthsUptoCard : Claim7 := { stood := { row := fdateMonthsUptoRow, standIns := [], harness := (true, "8a052a9934ecb550b163628ba506950198ff98e56f386d0514deeb6cb7f2a342"), looks := true }, kinds := [], alts := [], laidByText := true, laidKinds := [.data, .data, .data, .data, .sentinel, .sentinel, .data, .pinned, .pinned], laidTests := true, laidLooks := .later }
def FdateMonthsUptoCardSaid : Prop := Claim7.holds Tryz.pinned (.plain (OpenSpec.upto fdateMonthsSpec)) fdateMonthsUptoCard

/-- THE SECOND FORM's CARD OF 'chancerykeep2.FdateWorks'. -/
def fdateWorksUptoCard : Claim7 := { stood := { row := fdateWorksUptoRow, standIns := [], harness := (true, "8a052a9934ecb550b163628ba506950198ff98e56f386d0514deeb6cb7f2a342"), looks := true }, kinds := [], alts := [], laidByText := true, laidKinds := [.data, .data, .data, .data, .sentinel, .sentinel, .data, .pinned, .pinned], laidTests := true, laidLooks := .later }
def FdateWorksUptoCardSaid : Prop := Claim7.holds Tryz.pinned (.plain (OpenSpec.upto fdateWorksSpec)) fdateWorksUptoCard
end Rows
end Go.Proofs.YtphfefmlappidaaGreatDoor
