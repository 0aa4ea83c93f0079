/- FdateMonths: months are added one by one, and the last day of a month is the day before the next one.
Conditions: the package variables hold what the row lists. -/
import Derived.Test.YtphfefmlappidaaGreatDoorCards
import Derived.Test.YtphfefmlappidaaGreatDoorTie
import Derived.ProofKit
import Derived.SevenTiedAt
import Derived.Stop.Joined
import Derived.Test.YtphfefmlappidaaGreatDoorFdMonthsSaid
import Derived.Test.YtphfefmlappidaaGreatDoorFdcA
namespace Go.Proofs.YtphfefmlappidaaGreatDoor.fdateMonths
open Go.ChangeShapes Go.WideShapes Go.ChangeAt Go.RowKit
set_option linter.unusedVariables false

/-- the card: the given statement -/
theorem proved : Rows.FdateMonthsCardSaid :=
  Claim7.holds_tied_plain_at .later [] _ _ _ _ said (fun _ h => by cases h) (by kernel_rfl) (fun _ h => by cases h) fdateMonths_row_tie rfl ⟨rfl, rfl⟩ (by kernel_rfl) rfl plain (goesBy_none none_goes rfl)
end Go.Proofs.YtphfefmlappidaaGreatDoor.fdateMonths
