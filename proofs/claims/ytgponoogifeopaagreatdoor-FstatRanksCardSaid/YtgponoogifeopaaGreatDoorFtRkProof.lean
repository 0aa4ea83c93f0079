/- For any ints and any int, the law FstatRanks is true: ranks, quantiles and counts agree with the order of the numbers.
Conditions: the package variables hold what the row lists. -/
import Derived.Test.YtgponoogifeopaaGreatDoorCards
import Derived.Test.YtgponoogifeopaaGreatDoorTie
import Derived.ProofKit
import Derived.SevenTiedAt
import Derived.Stop.Joined
import Derived.Test.YtgponoogifeopaaGreatDoorFtRkSaid
import Derived.Test.YtgponoogifeopaaGreatDoorFtaD
namespace Go.Proofs.YtgponoogifeopaaGreatDoor.fstatRanks
open Go.ChangeShapes Go.WideShapes Go.ChangeAt Go.RowKit
set_option linter.unusedVariables false

/-- the card: the given statement -/
theorem proved : Rows.FstatRanksCardSaid :=
  Claim7.holds_tied_plain_at .later [] _ _ _ _ said (fun _ h => by cases h) (by kernel_rfl) (fun _ h => by cases h) fstatRanks_row_tie rfl ⟨rfl, rfl⟩ (by kernel_rfl) rfl plain (goesBy_none none_goes rfl)
end Go.Proofs.YtgponoogifeopaaGreatDoor.fstatRanks
