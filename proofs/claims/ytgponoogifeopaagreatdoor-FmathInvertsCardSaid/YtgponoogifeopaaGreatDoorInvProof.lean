/- FmathInverts returns true and leaves its argument as it was; its card.
Conditions: the package variables hold what the row lists. -/
import Derived.Test.YtgponoogifeopaaGreatDoorCards
import Derived.Test.YtgponoogifeopaaGreatDoorTie
import Derived.ProofKit
import Derived.SevenTiedAt
import Derived.Stop.Joined
import Derived.Test.YtgponoogifeopaaGreatDoorInvSaid
import Derived.Test.YtgponoogifeopaaGreatDoorIvbA
namespace Go.Proofs.YtgponoogifeopaaGreatDoor.fmathInverts
open Go.ChangeShapes Go.WideShapes Go.ChangeAt Go.RowKit
set_option linter.unusedVariables false

/-- the card: the given statement -/
theorem proved : Rows.FmathInvertsCardSaid :=
  Claim7.holds_tied_plain_at .later [] _ _ _ _ said (fun _ h => by cases h) (by kernel_rfl) (fun _ h => by cases h) fmathInverts_row_tie rfl ⟨rfl, rfl⟩ (by kernel_rfl) rfl plain (goesBy_none none_goes rfl)
end Go.Proofs.YtgponoogifeopaaGreatDoor.fmathInverts
