/- For any ints and any three ints, the law FlookSortsAll is true: sorted rows are in order and are the same rows.
Conditions: the package variables hold what the row lists. -/
import Derived.Test.YtkghpiaoggljjaaGreatDoorCards
import Derived.Test.YtkghpiaoggljjaaGreatDoorTie
import Derived.ProofKit
import Derived.SevenTiedAt
import Derived.Stop.Joined
import Derived.Test.YtkghpiaoggljjaaGreatDoorSrtSaid
import Derived.Test.YtkghpiaoggljjaaGreatDoorSojC
namespace Go.Proofs.YtkghpiaoggljjaaGreatDoor.flookSortsAll
open Go.ChangeShapes Go.WideShapes Go.ChangeAt Go.RowKit
set_option linter.unusedVariables false

/-- the card: the given statement -/
theorem proved : Rows.FlookSortsAllCardSaid :=
  Claim7.holds_tied_plain_at .later [] _ _ _ _ said (fun _ h => by cases h) (by kernel_rfl) (fun _ h => by cases h) flookSortsAll_row_tie rfl ⟨rfl, rfl⟩ (by kernel_rfl) rfl plain (goesBy_none none_goes rfl)
end Go.Proofs.YtkghpiaoggljjaaGreatDoor.flookSortsAll
