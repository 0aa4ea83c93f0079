/- The walks of the two 'separator' functions: each returns whether its byte is one of the four separators. No conditions. -/
import Derived.Test.YtjndiielolphgaaDoorRows
import Derived.Test.YtjndiielolphgaaDoorKit
namespace Go.Proofs.YtjndiielolphgaaDoor
open Go.RowKit

def isSep (c : Int) : Bool := c == 44 || (c == 59 || (c == 124 || c == 9))

theorem isSep_124 : isSep 124 = true := rfl
theorem isSep_rest {c : Int} (h1 : (c == 44) = false) (h2 : (c == 59) = false) (_h3 : ¬ c = 124) : isSep c = (c == 124 || c == 9) := by
  simp [isSep, h1, h2]
set_option maxHeartbeats 400000 in
theorem lawSep_any (c : Int) (w : World) :
    Calls Tryd.prog 9 #[.int .u8 c] w fun e w' => e = .returned (.bool (isSep c)) ∧ w' = w := by
  by_cases h1 : c = 44
  · subst h1
    go_enter Tryd.func9, Tryd.ntmps9
    go_wp2
    go_ret
    exact ⟨rfl, rfl⟩
  · have g1 : (c == 44) = false := by simpa using h1
    by_cases h2 : c = 59
    · subst h2
      go_enter Tryd.func9, Tryd.ntmps9
      go_wp2
      go_ret
      exact ⟨rfl, rfl⟩
    · have g2 : (c == 59) = false := by simpa using h2
      go_enter Tryd.func9, Tryd.ntmps9
      go_wp2
      · go_ret
        exact ⟨by rw [show c = 124 by assumption]; rfl, rfl⟩
      · go_ret
        exact ⟨by rw [isSep_rest g1 g2 (by assumption)]; rfl, rfl⟩
set_option maxHeartbeats 400000 in
theorem csvSep_any (c : Int) (w : World) :
    Calls Tryd.prog 28 #[.int .u8 c] w fun e w' => e = .returned (.bool (isSep c)) ∧ w' = w := by
  by_cases h1 : c = 44
  · subst h1
    go_enter Tryd.func28, Tryd.ntmps28
    go_wp2
    go_ret
    exact ⟨rfl, rfl⟩
  · have g1 : (c == 44) = false := by simpa using h1
    by_cases h2 : c = 59
    · subst h2
      go_enter Tryd.func28, Tryd.ntmps28
      go_wp2
      go_ret
      exact ⟨rfl, rfl⟩
    · have g2 : (c == 59) = false := by simpa using h2
      go_enter Tryd.func28, Tryd.ntmps28
      go_wp2
      · go_ret
        exact ⟨by rw [show c = 124 by assumption]; rfl, rfl⟩
      · go_ret
        exact ⟨by rw [isSep_rest g1 g2 (by assumption)]; rfl, rfl⟩
end Go.Proofs.YtjndiielolphgaaDoor
