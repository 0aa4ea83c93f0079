/- What is computed of the program's text for: For any value, the law FmathDeterminantMatches is true: MDETERM is the sum over all permutations. Second form.
Conditions: the argument holds at most 1048576 values and letters; the package variables hold what the row lists. -/
import Derived.Test.YtjcdeeahjkfmoaaGreatDoorCards
import Derived.Test.YtjcdeeahjkfmoaaGreatDoorTie
import Derived.ProofKit
import Derived.SevenTiedAt
import Derived.Stop.Joined
namespace Go.Proofs.YtjcdeeahjkfmoaaGreatDoor.fmathDeterminantMatches
open Go.ChangeShapes Go.WideShapes Go.ChangeAt Go.RowKit
set_option linter.unusedVariables false

theorem both_true {a b : Bool} (h : a = true) (k : b = true) : (a && b) = true := by rw [h, k]; rfl
set_option maxHeartbeats 8000000 in
theorem closed : joinedFacts Tryz.pinned.checked.prog 9 Tryz.f9 Rows.fmathDeterminantMatchesSpec Rows.fmathDeterminantMatchesUptoRow = true := by
  unfold joinedFacts
  repeat' (with_reducible refine both_true ?_ ?_)
  all_goals (as_aux_lemma => kernel_rfl)

end Go.Proofs.YtjcdeeahjkfmoaaGreatDoor.fmathDeterminantMatches
