/- What is computed of the program's text for: For any ints and any three ints, the law FlookSortsAll is true: sorted rows are in order and are the same rows.
Conditions: the package variables hold what the row lists. -/
import Derived.Test.YtkghpiaoggljjaaGreatDoorCards
import Derived.Test.YtkghpiaoggljjaaGreatDoorTie
import Derived.ProofKit
import Derived.SevenTiedAt
import Derived.Stop.Joined
namespace Go.Proofs.YtkghpiaoggljjaaGreatDoor.flookSortsAll
open Go.ChangeShapes Go.WideShapes Go.ChangeAt Go.RowKit
set_option linter.unusedVariables false

theorem both_true {a b : Bool} (h : a = true) (k : b = true) : (a && b) = true := by rw [h, k]; rfl
set_option maxHeartbeats 8000000 in
theorem closed : joinedFacts Tryz.pinned.checked.prog 3 Tryz.f3 Rows.flookSortsAllSpec Rows.flookSortsAllRow = true := by
  unfold joinedFacts
  repeat' (with_reducible refine both_true ?_ ?_)
  all_goals (as_aux_lemma => kernel_rfl)

end Go.Proofs.YtkghpiaoggljjaaGreatDoor.flookSortsAll
