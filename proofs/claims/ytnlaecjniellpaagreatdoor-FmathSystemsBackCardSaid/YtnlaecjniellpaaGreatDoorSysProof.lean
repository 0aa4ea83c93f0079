/- FmathSystemsBack returns true and leaves its arguments as they were; its card.
Conditions: the package variables hold what the row lists. -/
import Derived.Test.YtnlaecjniellpaaGreatDoorCards
import Derived.Test.YtnlaecjniellpaaGreatDoorSysTie
import Derived.ProofKit
import Derived.SevenTiedAt
import Derived.Stop.Joined
import Derived.Test.YtnlaecjniellpaaGreatDoorSysSaid
import Derived.Test.YtnlaecjniellpaaGreatDoorSygA
namespace Go.Proofs.YtnlaecjniellpaaGreatDoor.fmathSystemsBack
open Go.ChangeShapes Go.WideShapes Go.ChangeAt Go.RowKit
set_option linter.unusedVariables false

/-- the card: the given statement -/
theorem proved : Rows.FmathSystemsBackCardSaid :=
  Claim7.holds_tied_plain_at .later [] _ _ _ _ said (fun _ h => by cases h) (by kernel_rfl) (fun _ h => by cases h) Parted.fmathSystemsBack_row_tie rfl ⟨rfl, rfl⟩ (by kernel_rfl) rfl plain (goesBy_none none_goes rfl)
end Go.Proofs.YtnlaecjniellpaaGreatDoor.fmathSystemsBack
