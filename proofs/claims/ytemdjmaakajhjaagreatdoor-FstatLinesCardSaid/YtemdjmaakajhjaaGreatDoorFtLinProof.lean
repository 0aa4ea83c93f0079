/- FstatLines returns true and leaves its arguments as they were; its card.
Conditions: the package variables hold what the row lists. -/
import Derived.Test.YtemdjmaakajhjaaGreatDoorCards
import Derived.Test.YtemdjmaakajhjaaGreatDoorTie
import Derived.ProofKit
import Derived.SevenTiedAt
import Derived.Stop.Joined
import Derived.Test.YtemdjmaakajhjaaGreatDoorFtLinSaid
import Derived.Test.YtemdjmaakajhjaaGreatDoorFtaD
namespace Go.Proofs.YtemdjmaakajhjaaGreatDoor.fstatLines
open Go.ChangeShapes Go.WideShapes Go.ChangeAt Go.RowKit
set_option linter.unusedVariables false

/-- the card: the given statement -/
theorem proved : Rows.FstatLinesCardSaid :=
  Claim7.holds_tied_plain_at .later [] _ _ _ _ said (fun _ h => by cases h) (by kernel_rfl) (fun _ h => by cases h) fstatLines_row_tie rfl ⟨rfl, rfl⟩ (by kernel_rfl) rfl plain (goesBy_none none_goes rfl)
end Go.Proofs.YtemdjmaakajhjaaGreatDoor.fstatLines
