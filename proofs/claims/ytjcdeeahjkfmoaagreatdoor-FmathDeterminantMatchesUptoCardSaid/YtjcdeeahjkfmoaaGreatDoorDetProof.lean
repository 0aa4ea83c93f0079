/- For any value, the law FmathDeterminantMatches is true: MDETERM is the sum over all permutations. Second form.
Conditions: the argument holds at most 1048576 values and letters; the package variables hold what the row lists. -/
import Derived.Test.YtjcdeeahjkfmoaaGreatDoorCards
import Derived.Test.YtjcdeeahjkfmoaaGreatDoorTie
import Derived.ProofKit
import Derived.SevenTiedAt
import Derived.Stop.Joined
import Derived.Test.YtjcdeeahjkfmoaaGreatDoorDetSaid
import Derived.Test.YtjcdeeahjkfmoaaGreatDoorDekC
namespace Go.Proofs.YtjcdeeahjkfmoaaGreatDoor.fmathDeterminantMatches
open Go.ChangeShapes Go.WideShapes Go.ChangeAt Go.RowKit
set_option linter.unusedVariables false

/-- the card: the given statement -/
theorem proved : Rows.FmathDeterminantMatchesUptoCardSaid :=
  Claim7.holds_tied_plain_at .later [] _ _ _ _ said (fun _ h => by cases h) (by kernel_rfl) (fun _ h => by cases h) fmathDeterminantMatchesUpto_row_tie rfl ⟨rfl, rfl⟩ (by kernel_rfl) rfl plain (goesBy_none none_goes rfl)
end Go.Proofs.YtjcdeeahjkfmoaaGreatDoor.fmathDeterminantMatches
