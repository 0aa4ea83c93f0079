/- What is computed of the program's text for: For any ints and any int, the law FstatRanks is true: ranks, quantiles and counts agree with the order of the numbers.
Conditions: the package variables hold what the row lists. -/
import Derived.Test.YtgponoogifeopaaGreatDoorCards
import Derived.Test.YtgponoogifeopaaGreatDoorTie
import Derived.ProofKit
import Derived.SevenTiedAt
import Derived.Stop.Joined
namespace Go.Proofs.YtgponoogifeopaaGreatDoor.fstatRanks
open Go.ChangeShapes Go.WideShapes Go.ChangeAt Go.RowKit
set_option linter.unusedVariables false

theorem both_true {a b : Bool} (h : a = true) (k : b = true) : (a && b) = true := by rw [h, k]; rfl
set_option maxHeartbeats 8000000 in
theorem closed : joinedFacts Tryz.pinned.checked.prog 4 Tryz.f4 Rows.fstatRanksSpec Rows.fstatRanksRow = true := by
  unfold joinedFacts
  repeat' (with_reducible refine both_true ?_ ?_)
  all_goals (as_aux_lemma => kernel_rfl)

end Go.Proofs.YtgponoogifeopaaGreatDoor.fstatRanks
