/- FmoneyPlans returns true and leaves its arguments as they were; its card.
Conditions: the package variables hold what the row lists. -/
import Derived.Test.YtkbhlkinlcmgoaaGreatDoorCards
import Derived.Test.YtkbhlkinlcmgoaaGreatDoorTie
import Derived.ProofKit
import Derived.SevenTiedAt
import Derived.Stop.Joined
import Derived.Test.YtkbhlkinlcmgoaaGreatDoorPlanSaid
import Derived.Test.YtkbhlkinlcmgoaaGreatDoorGoes
namespace Go.Proofs.YtkbhlkinlcmgoaaGreatDoor.fmoneyPlans
open Go.ChangeShapes Go.WideShapes Go.ChangeAt Go.RowKit
set_option linter.unusedVariables false

/-- the card: the given statement -/
theorem proved : Rows.FmoneyPlansCardSaid :=
  Claim7.holds_tied_plain_at .later [] _ _ _ _ said (fun _ h => by cases h) (by kernel_rfl) (fun _ h => by cases h) fmoneyPlans_row_tie rfl ⟨rfl, rfl⟩ (by kernel_rfl) rfl plain (goesBy_none none_goes rfl)
end Go.Proofs.YtkbhlkinlcmgoaaGreatDoor.fmoneyPlans
