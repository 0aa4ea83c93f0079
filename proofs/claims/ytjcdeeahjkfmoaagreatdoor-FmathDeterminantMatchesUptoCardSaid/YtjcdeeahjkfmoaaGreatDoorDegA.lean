/- Contracts of the program's functions, joined from smaller texts. Conditions stand at each theorem. -/
import Derived.Test.YtjcdeeahjkfmoaaGreatDoorDefA
import Derived.Test.YtjcdeeahjkfmoaaGreatDoorDefB
import Derived.Test.YtjcdeeahjkfmoaaGreatDoorDeeB
set_option linter.unusedVariables false
set_option linter.unusedSimpArgs false
set_option maxRecDepth 100000
set_option maxHeartbeats 8000000
namespace Go.Proofs.YtjcdeeahjkfmoaaGreatDoor
namespace Num
def dr1 (m : Nat → Nat → Rat) : Rat := m 0 0
theorem lap_det1 (m : Nat → Nat → Rat) : lap m 1 1 0 0 = dr1 m := by
 simp [lap, lapS, sg, List.range, List.range.loop, Nat.testBit]
 unfold dr1
 grind
def dr2 (m : Nat → Nat → Rat) : Rat := 0 + m 0 0 * (m 1 1) - m 0 1 * (m 1 0)
theorem lap_det2 (m : Nat → Nat → Rat) : lap m 2 2 0 0 = dr2 m := by
 simp [lap, lapS, sg, List.range, List.range.loop, Nat.testBit]
 unfold dr2
 grind
def dr3 (m : Nat → Nat → Rat) : Rat := 0 + m 0 0 * (0 + m 1 1 * (m 2 2) - m 1 2 * (m 2 1)) - m 0 1 * (0 + m 1 0 * (m 2 2) - m 1 2 * (m 2 0)) + m 0 2 * (0 + m 1 0 * (m 2 1) - m 1 1 * (m 2 0))
theorem lap_det3 (m : Nat → Nat → Rat) : lap m 3 3 0 0 = dr3 m := by
 simp [lap, lapS, sg, List.range, List.range.loop, Nat.testBit]
 unfold dr3
 grind
def dr4 (m : Nat → Nat → Rat) : Rat := 0 + m 0 0 * (0 + m 1 1 * (0 + m 2 2 * (m 3 3) - m 2 3 * (m 3 2)) - m 1 2 * (0 + m 2 1 * (m 3 3) - m 2 3 * (m 3 1)) + m 1 3 * (0 + m 2 1 * (m 3 2) - m 2 2 * (m 3 1))) - m 0 1 * (0 + m 1 0 * (0 + m 2 2 * (m 3 3) - m 2 3 * (m 3 2)) - m 1 2 * (0 + m 2 0 * (m 3 3) - m 2 3 * (m 3 0)) + m 1 3 * (0 + m 2 0 * (m 3 2) - m 2 2 * (m 3 0))) + m 0 2 * (0 + m 1 0 * (0 + m 2 1 * (m 3 3) - m 2 3 * (m 3 1)) - m 1 1 * (0 + m 2 0 * (m 3 3) - m 2 3 * (m 3 0)) + m 1 3 * (0 + m 2 0 * (m 3 1) - m 2 1 * (m 3 0))) - m 0 3 * (0 + m 1 0 * (0 + m 2 1 * (m 3 2) - m 2 2 * (m 3 1)) - m 1 1 * (0 + m 2 0 * (m 3 2) - m 2 2 * (m 3 0)) + m 1 2 * (0 + m 2 0 * (m 3 1) - m 2 1 * (m 3 0)))
theorem lap_det4 (m : Nat → Nat → Rat) : lap m 4 4 0 0 = dr4 m := by
 simp [lap, lapS, sg, List.range, List.range.loop, Nat.testBit]
 unfold dr4
 grind
def dr5 (m : Nat → Nat → Rat) : Rat := 0 + m 0 0 * (0 + m 1 1 * (0 + m 2 2 * (0 + m 3 3 * (m 4 4) - m 3 4 * (m 4 3)) - m 2 3 * (0 + m 3 2 * (m 4 4) - m 3 4 * (m 4 2)) + m 2 4 * (0 + m 3 2 * (m 4 3) - m 3 3 * (m 4 2))) - m 1 2 * (0 + m 2 1 * (0 + m 3 3 * (m 4 4) - m 3 4 * (m 4 3)) - m 2 3 * (0 + m 3 1 * (m 4 4) - m 3 4 * (m 4 1)) + m 2 4 * (0 + m 3 1 * (m 4 3) - m 3 3 * (m 4 1))) + m 1 3 * (0 + m 2 1 * (0 + m 3 2 * (m 4 4) - m 3 4 * (m 4 2)) - m 2 2 * (0 + m 3 1 * (m 4 4) - m 3 4 * (m 4 1)) + m 2 4 * (0 + m 3 1 * (m 4 2) - m 3 2 * (m 4 1))) - m 1 4 * (0 + m 2 1 * (0 + m 3 2 * (m 4 3) - m 3 3 * (m 4 2)) - m 2 2 * (0 + m 3 1 * (m 4 3) - m 3 3 * (m 4 1)) + m 2 3 * (0 + m 3 1 * (m 4 2) - m 3 2 * (m 4 1)))) - m 0 1 * (0 + m 1 0 * (0 + m 2 2 * (0 + m 3 3 * (m 4 4) - m 3 4 * (m 4 3)) - m 2 3 * (0 + m 3 2 * (m 4 4) - m 3 4 * (m 4 2)) + m 2 4 * (0 + m 3 2 * (m 4 3) - m 3 3 * (m 4 2))) - m 1 2 * (0 + m 2 0 * (0 + m 3 3 * (m 4 4) - m 3 4 * (m 4 3)) - m 2 3 * (0 + m 3 0 * (m 4 4) - m 3 4 * (m 4 0)) + m 2 4 * (0 + m 3 0 * (m 4 3) - m 3 3 * (m 4 0))) + m 1 3 * (0 + m 2 0 * (0 + m 3 2 * (m 4 4) - m 3 4 * (m 4 2)) - m 2 2 * (0 + m 3 0 * (m 4 4) - m 3 4 * (m 4 0)) + m 2 4 * (0 + m 3 0 * (m 4 2) - m 3 2 * (m 4 0))) - m 1 4 * (0 + m 2 0 * (0 + m 3 2 * (m 4 3) - m 3 3 * (m 4 2)) - m 2 2 * (0 + m 3 0 * (m 4 3) - m 3 3 * (m 4 0)) + m 2 3 * (0 + m 3 0 * (m 4 2) - m 3 2 * (m 4 0)))) + m 0 2 * (0 + m 1 0 * (0 + m 2 1 * (0 + m 3 3 * (m 4 4) - m 3 4 * (m 4 3)) - m 2 3 * (0 + m 3 1 * (m 4 4) - m 3 4 * (m 4 1)) + m 2 4 * (0 + m 3 1 * (m 4 3) - m 3 3 * (m 4 1))) - m 1 1 * (0 + m 2 0 * (0 + m 3 3 * (m 4 4) - m 3 4 * (m 4 3)) - m 2 3 * (0 + m 3 0 * (m 4 4) - m 3 4 * (m 4 0)) + m 2 4 * (0 + m 3 0 * (m 4 3) - m 3 3 * (m 4 0))) + m 1 3 * (0 + m 2 0 * (0 + m 3 1 * (m 4 4) - m 3 4 * (m 4 1)) - m 2 1 * (0 + m 3 0 * (m 4 4) - m 3 4 * (m 4 0)) + m 2 4 * (0 + m 3 0 * (m 4 1) - m 3 1 * (m 4 0))) - m 1 4 * (0 + m 2 0 * (0 + m 3 1 * (m 4 3) - m 3 3 * (m 4 1)) - m 2 1 * (0 + m 3 0 * (m 4 3) - m 3 3 * (m 4 0)) + m 2 3 * (0 + m 3 0 * (m 4 1) - m 3 1 * (m 4 0)))) - m 0 3 * (0 + m 1 0 * (0 + m 2 1 * (0 + m 3 2 * (m 4 4) - m 3 4 * (m 4 2)) - m 2 2 * (0 + m 3 1 * (m 4 4) - m 3 4 * (m 4 1)) + m 2 4 * (0 + m 3 1 * (m 4 2) - m 3 2 * (m 4 1))) - m 1 1 * (0 + m 2 0 * (0 + m 3 2 * (m 4 4) - m 3 4 * (m 4 2)) - m 2 2 * (0 + m 3 0 * (m 4 4) - m 3 4 * (m 4 0)) + m 2 4 * (0 + m 3 0 * (m 4 2) - m 3 2 * (m 4 0))) + m 1 2 * (0 + m 2 0 * (0 + m 3 1 * (m 4 4) - m 3 4 * (m 4 1)) - m 2 1 * (0 + m 3 0 * (m 4 4) - m 3 4 * (m 4 0)) + m 2 4 * (0 + m 3 0 * (m 4 1) - m 3 1 * (m 4 0))) - m 1 4 * (0 + m 2 0 * (0 + m 3 1 * (m 4 2) - m 3 2 * (m 4 1)) - m 2 1 * (0 + m 3 0 * (m 4 2) - m 3 2 * (m 4 0)) + m 2 2 * (0 + m 3 0 * (m 4 1) - m 3 1 * (m 4 0)))) + m 0 4 * (0 + m 1 0 * (0 + m 2 1 * (0 + m 3 2 * (m 4 3) - m 3 3 * (m 4 2)) - m 2 2 * (0 + m 3 1 * (m 4 3) - m 3 3 * (m 4 1)) + m 2 3 * (0 + m 3 1 * (m 4 2) - m 3 2 * (m 4 1))) - m 1 1 * (0 + m 2 0 * (0 + m 3 2 * (m 4 3) - m 3 3 * (m 4 2)) - m 2 2 * (0 + m 3 0 * (m 4 3) - m 3 3 * (m 4 0)) + m 2 3 * (0 + m 3 0 * (m 4 2) - m 3 2 * (m 4 0))) + m 1 2 * (0 + m 2 0 * (0 + m 3 1 * (m 4 3) - m 3 3 * (m 4 1)) - m 2 1 * (0 + m 3 0 * (m 4 3) - m 3 3 * (m 4 0)) + m 2 3 * (0 + m 3 0 * (m 4 1) - m 3 1 * (m 4 0))) - m 1 3 * (0 + m 2 0 * (0 + m 3 1 * (m 4 2) - m 3 2 * (m 4 1)) - m 2 1 * (0 + m 3 0 * (m 4 2) - m 3 2 * (m 4 0)) + m 2 2 * (0 + m 3 0 * (m 4 1) - m 3 1 * (m 4 0))))
theorem lap_det5 (m : Nat → Nat → Rat) : lap m 5 5 0 0 = dr5 m := by
 simp [lap, lapS, sg, List.range, List.range.loop, Nat.testBit]
 unfold dr5
 grind
def swapR (m : Nat → Nat → Rat) (i k : Nat) : Nat → Nat → Rat := fun r => if r = i then m k else if r = k then m i else m r
def rowR (m : Nat → Nat → Rat) (j i : Nat) (f : Rat) : Nat → Nat → Rat := fun r c => if r = j then m j c - f * m i c else m r c
theorem swap5_01 (m : Nat → Nat → Rat) : dr5 (swapR m 0 1) = - dr5 m := by
 simp [dr5, swapR]
 grind
theorem swap5_02 (m : Nat → Nat → Rat) : dr5 (swapR m 0 2) = - dr5 m := by
 simp [dr5, swapR]
 grind
theorem swap5_03 (m : Nat → Nat → Rat) : dr5 (swapR m 0 3) = - dr5 m := by
 simp [dr5, swapR]
 grind
theorem swap5_04 (m : Nat → Nat → Rat) : dr5 (swapR m 0 4) = - dr5 m := by
 simp [dr5, swapR]
 grind
theorem swap5_12 (m : Nat → Nat → Rat) : dr5 (swapR m 1 2) = - dr5 m := by
 simp [dr5, swapR]
 grind
theorem swap5_13 (m : Nat → Nat → Rat) : dr5 (swapR m 1 3) = - dr5 m := by
 simp [dr5, swapR]
 grind
theorem swap5_14 (m : Nat → Nat → Rat) : dr5 (swapR m 1 4) = - dr5 m := by
 simp [dr5, swapR]
 grind
theorem swap5_23 (m : Nat → Nat → Rat) : dr5 (swapR m 2 3) = - dr5 m := by
 simp [dr5, swapR]
 grind
theorem swap5_24 (m : Nat → Nat → Rat) : dr5 (swapR m 2 4) = - dr5 m := by
 simp [dr5, swapR]
 grind
theorem swap5_34 (m : Nat → Nat → Rat) : dr5 (swapR m 3 4) = - dr5 m := by
 simp [dr5, swapR]
 grind
theorem row5_01 (m : Nat → Nat → Rat) (f : Rat) : dr5 (rowR m 0 1 f) = dr5 m := by
 simp [dr5, rowR]
 grind
theorem row5_02 (m : Nat → Nat → Rat) (f : Rat) : dr5 (rowR m 0 2 f) = dr5 m := by
 simp [dr5, rowR]
 grind
theorem row5_03 (m : Nat → Nat → Rat) (f : Rat) : dr5 (rowR m 0 3 f) = dr5 m := by
 simp [dr5, rowR]
 grind
theorem row5_04 (m : Nat → Nat → Rat) (f : Rat) : dr5 (rowR m 0 4 f) = dr5 m := by
 simp [dr5, rowR]
 grind
theorem row5_10 (m : Nat → Nat → Rat) (f : Rat) : dr5 (rowR m 1 0 f) = dr5 m := by
 simp [dr5, rowR]
 grind
theorem row5_12 (m : Nat → Nat → Rat) (f : Rat) : dr5 (rowR m 1 2 f) = dr5 m := by
 simp [dr5, rowR]
 grind
theorem row5_13 (m : Nat → Nat → Rat) (f : Rat) : dr5 (rowR m 1 3 f) = dr5 m := by
 simp [dr5, rowR]
 grind
theorem row5_14 (m : Nat → Nat → Rat) (f : Rat) : dr5 (rowR m 1 4 f) = dr5 m := by
 simp [dr5, rowR]
 grind
theorem row5_20 (m : Nat → Nat → Rat) (f : Rat) : dr5 (rowR m 2 0 f) = dr5 m := by
 simp [dr5, rowR]
 grind
theorem row5_21 (m : Nat → Nat → Rat) (f : Rat) : dr5 (rowR m 2 1 f) = dr5 m := by
 simp [dr5, rowR]
 grind
theorem row5_23 (m : Nat → Nat → Rat) (f : Rat) : dr5 (rowR m 2 3 f) = dr5 m := by
 simp [dr5, rowR]
 grind
theorem row5_24 (m : Nat → Nat → Rat) (f : Rat) : dr5 (rowR m 2 4 f) = dr5 m := by
 simp [dr5, rowR]
 grind
theorem row5_30 (m : Nat → Nat → Rat) (f : Rat) : dr5 (rowR m 3 0 f) = dr5 m := by
 simp [dr5, rowR]
 grind
theorem row5_31 (m : Nat → Nat → Rat) (f : Rat) : dr5 (rowR m 3 1 f) = dr5 m := by
 simp [dr5, rowR]
 grind
theorem row5_32 (m : Nat → Nat → Rat) (f : Rat) : dr5 (rowR m 3 2 f) = dr5 m := by
 simp [dr5, rowR]
 grind
theorem row5_34 (m : Nat → Nat → Rat) (f : Rat) : dr5 (rowR m 3 4 f) = dr5 m := by
 simp [dr5, rowR]
 grind
theorem row5_40 (m : Nat → Nat → Rat) (f : Rat) : dr5 (rowR m 4 0 f) = dr5 m := by
 simp [dr5, rowR]
 grind
theorem row5_41 (m : Nat → Nat → Rat) (f : Rat) : dr5 (rowR m 4 1 f) = dr5 m := by
 simp [dr5, rowR]
 grind
theorem row5_42 (m : Nat → Nat → Rat) (f : Rat) : dr5 (rowR m 4 2 f) = dr5 m := by
 simp [dr5, rowR]
 grind
theorem row5_43 (m : Nat → Nat → Rat) (f : Rat) : dr5 (rowR m 4 3 f) = dr5 m := by
 simp [dr5, rowR]
 grind
theorem tri5 (m : Nat → Nat → Rat) (h : ∀ r c, c < r → r < 5 → m r c = 0) : dr5 m = m 0 0 * m 1 1 * m 2 2 * m 3 3 * m 4 4 := by
 have z10 := h 1 0 (by omega) (by omega)
 have z20 := h 2 0 (by omega) (by omega)
 have z21 := h 2 1 (by omega) (by omega)
 have z30 := h 3 0 (by omega) (by omega)
 have z31 := h 3 1 (by omega) (by omega)
 have z32 := h 3 2 (by omega) (by omega)
 have z40 := h 4 0 (by omega) (by omega)
 have z41 := h 4 1 (by omega) (by omega)
 have z42 := h 4 2 (by omega) (by omega)
 have z43 := h 4 3 (by omega) (by omega)
 simp [dr5, z10, z20, z21, z30, z31, z32, z40, z41, z42, z43]
 grind
theorem none5_0 (m : Nat → Nat → Rat) (h : ∀ r c, c < 0 → c < r → r < 5 → m r c = 0) (hz : ∀ r, 0 ≤ r → r < 5 → m r 0 = 0) : dr5 m = 0 := by
 have z00 := hz 0 (by omega) (by omega)
 have z10 := hz 1 (by omega) (by omega)
 have z20 := hz 2 (by omega) (by omega)
 have z30 := hz 3 (by omega) (by omega)
 have z40 := hz 4 (by omega) (by omega)
 simp [dr5, z00, z10, z20, z30, z40]
 grind
theorem none5_1 (m : Nat → Nat → Rat) (h : ∀ r c, c < 1 → c < r → r < 5 → m r c = 0) (hz : ∀ r, 1 ≤ r → r < 5 → m r 1 = 0) : dr5 m = 0 := by
 have z10 := h 1 0 (by omega) (by omega) (by omega)
 have z20 := h 2 0 (by omega) (by omega) (by omega)
 have z30 := h 3 0 (by omega) (by omega) (by omega)
 have z40 := h 4 0 (by omega) (by omega) (by omega)
 have z11 := hz 1 (by omega) (by omega)
 have z21 := hz 2 (by omega) (by omega)
 have z31 := hz 3 (by omega) (by omega)
 have z41 := hz 4 (by omega) (by omega)
 simp [dr5, z10, z20, z30, z40, z11, z21, z31, z41]
 grind
theorem none5_2 (m : Nat → Nat → Rat) (h : ∀ r c, c < 2 → c < r → r < 5 → m r c = 0) (hz : ∀ r, 2 ≤ r → r < 5 → m r 2 = 0) : dr5 m = 0 := by
 have z10 := h 1 0 (by omega) (by omega) (by omega)
 have z20 := h 2 0 (by omega) (by omega) (by omega)
 have z30 := h 3 0 (by omega) (by omega) (by omega)
 have z40 := h 4 0 (by omega) (by omega) (by omega)
 have z21 := h 2 1 (by omega) (by omega) (by omega)
 have z31 := h 3 1 (by omega) (by omega) (by omega)
 have z41 := h 4 1 (by omega) (by omega) (by omega)
 have z22 := hz 2 (by omega) (by omega)
 have z32 := hz 3 (by omega) (by omega)
 have z42 := hz 4 (by omega) (by omega)
 simp [dr5, z10, z20, z30, z40, z21, z31, z41, z22, z32, z42]
 grind
theorem none5_3 (m : Nat → Nat → Rat) (h : ∀ r c, c < 3 → c < r → r < 5 → m r c = 0) (hz : ∀ r, 3 ≤ r → r < 5 → m r 3 = 0) : dr5 m = 0 := by
 have z10 := h 1 0 (by omega) (by omega) (by omega)
 have z20 := h 2 0 (by omega) (by omega) (by omega)
 have z30 := h 3 0 (by omega) (by omega) (by omega)
 have z40 := h 4 0 (by omega) (by omega) (by omega)
 have z21 := h 2 1 (by omega) (by omega) (by omega)
 have z31 := h 3 1 (by omega) (by omega) (by omega)
 have z41 := h 4 1 (by omega) (by omega) (by omega)
 have z32 := h 3 2 (by omega) (by omega) (by omega)
 have z42 := h 4 2 (by omega) (by omega) (by omega)
 have z33 := hz 3 (by omega) (by omega)
 have z43 := hz 4 (by omega) (by omega)
 simp [dr5, z10, z20, z30, z40, z21, z31, z41, z32, z42, z33, z43]
 grind
theorem none5_4 (m : Nat → Nat → Rat) (h : ∀ r c, c < 4 → c < r → r < 5 → m r c = 0) (hz : ∀ r, 4 ≤ r → r < 5 → m r 4 = 0) : dr5 m = 0 := by
 have z10 := h 1 0 (by omega) (by omega) (by omega)
 have z20 := h 2 0 (by omega) (by omega) (by omega)
 have z30 := h 3 0 (by omega) (by omega) (by omega)
 have z40 := h 4 0 (by omega) (by omega) (by omega)
 have z21 := h 2 1 (by omega) (by omega) (by omega)
 have z31 := h 3 1 (by omega) (by omega) (by omega)
 have z41 := h 4 1 (by omega) (by omega) (by omega)
 have z32 := h 3 2 (by omega) (by omega) (by omega)
 have z42 := h 4 2 (by omega) (by omega) (by omega)
 have z43 := h 4 3 (by omega) (by omega) (by omega)
 have z44 := hz 4 (by omega) (by omega)
 simp [dr5, z10, z20, z30, z40, z21, z31, z41, z32, z42, z43, z44]
 grind
end Num
namespace Num
def detR (n : Nat) (m : Mx) : Rat := if n = 5 then dr5 m else detM n m
theorem detR_five (m : Mx) : detR 5 m = dr5 m := if_pos rfl
theorem detR_small {n : Nat} (h4 : n ≤ 4) (m : Mx) : detR n m = detM n m := if_neg (by omega)
theorem dr2_M (m : Mx) : dr2 m = detM 2 m := by show dr2 m = d2 m 0 1 0 1; unfold dr2 d2; grind
theorem dr3_M (m : Mx) : dr3 m = detM 3 m := by show dr3 m = d3 m 0 1 2 0 1 2; unfold dr3 d3 d2; grind
theorem dr4_M (m : Mx) : dr4 m = detM 4 m := by rw [det4]; unfold dr4 d3 d2; grind
theorem lap_detR {n : Nat} (m : Mx) (h1 : 1 ≤ n) (h5 : n ≤ 5) : lap m n n 0 0 = detR n m := by
 obtain rfl | rfl | rfl | rfl | rfl : n = 1 ∨ n = 2 ∨ n = 3 ∨ n = 4 ∨ n = 5 := by omega
 ·exact (lap_det1 m).trans (show dr1 m = detR 1 m from (detR_small (n := 1) (by decide) m).symm)
 ·exact (lap_det2 m).trans ((dr2_M m).trans (detR_small (n := 2) (by decide) m).symm)
 ·exact (lap_det3 m).trans ((dr3_M m).trans (detR_small (n := 3) (by decide) m).symm)
 ·exact (lap_det4 m).trans ((dr4_M m).trans (detR_small (n := 4) (by decide) m).symm)
 ·exact (lap_det5 m).trans (detR_five m).symm
theorem detR_swap {n i k : Nat} (m : Mx) (h5 : n ≤ 5) (hi : i < k) (hk : k < n) : detR n (swapM m i k) = - detR n m := by
 rcases Nat.lt_or_ge n 5 with h | h
 ·rw [detR_small (by omega), detR_small (by omega)]; exact det_swap m (by omega) hi hk
 obtain rfl : n = 5 := by omega
 rw [detR_five, detR_five]
 show dr5 (swapR m i k) = _
 obtain rfl | rfl | rfl | rfl : i = 0 ∨ i = 1 ∨ i = 2 ∨ i = 3 := by omega
 ·obtain rfl | rfl | rfl | rfl : k = 1 ∨ k = 2 ∨ k = 3 ∨ k = 4 := by omega
  ·exact swap5_01 m
  ·exact swap5_02 m
  ·exact swap5_03 m
  ·exact swap5_04 m
 ·obtain rfl | rfl | rfl : k = 2 ∨ k = 3 ∨ k = 4 := by omega
  ·exact swap5_12 m
  ·exact swap5_13 m
  ·exact swap5_14 m
 ·obtain rfl | rfl : k = 3 ∨ k = 4 := by omega
  ·exact swap5_23 m
  ·exact swap5_24 m
 ·obtain rfl : k = 4 := by omega
  exact swap5_34 m
theorem detR_row {n i j : Nat} (m : Mx) (f : Rat) (h5 : n ≤ 5) (hi : i < n) (hj : j < n) (hne : j ≠ i) : detR n (rowM m j i f) = detR n m := by
 rcases Nat.lt_or_ge n 5 with h | h
 ·rw [detR_small (by omega), detR_small (by omega)]; exact det_row m f (by omega) hi hj hne
 obtain rfl : n = 5 := by omega
 rw [detR_five, detR_five]
 show dr5 (rowR m j i f) = _
 obtain rfl | rfl | rfl | rfl | rfl : j = 0 ∨ j = 1 ∨ j = 2 ∨ j = 3 ∨ j = 4 := by omega
 ·obtain rfl | rfl | rfl | rfl : i = 1 ∨ i = 2 ∨ i = 3 ∨ i = 4 := by omega
  ·exact row5_01 m f
  ·exact row5_02 m f
  ·exact row5_03 m f
  ·exact row5_04 m f
 ·obtain rfl | rfl | rfl | rfl : i = 0 ∨ i = 2 ∨ i = 3 ∨ i = 4 := by omega
  ·exact row5_10 m f
  ·exact row5_12 m f
  ·exact row5_13 m f
  ·exact row5_14 m f
 ·obtain rfl | rfl | rfl | rfl : i = 0 ∨ i = 1 ∨ i = 3 ∨ i = 4 := by omega
  ·exact row5_20 m f
  ·exact row5_21 m f
  ·exact row5_23 m f
  ·exact row5_24 m f
 ·obtain rfl | rfl | rfl | rfl : i = 0 ∨ i = 1 ∨ i = 2 ∨ i = 4 := by omega
  ·exact row5_30 m f
  ·exact row5_31 m f
  ·exact row5_32 m f
  ·exact row5_34 m f
 ·obtain rfl | rfl | rfl | rfl : i = 0 ∨ i = 1 ∨ i = 2 ∨ i = 3 := by omega
  ·exact row5_40 m f
  ·exact row5_41 m f
  ·exact row5_42 m f
  ·exact row5_43 m f
theorem detR_tri {n : Nat} (m : Mx) (h5 : n ≤ 5) (h : Tri n n m) : detR n m = prodN (fun r => m r r) n := by
 rcases Nat.lt_or_ge n 5 with h1 | h1
 ·rw [detR_small (by omega)]; exact det_tri m (by omega) h
 obtain rfl : n = 5 := by omega
 rw [detR_five, tri5 m (fun r c hc hr => h r c (by omega) hc hr)]
 show _ = 1 * m 0 0 * m 1 1 * m 2 2 * m 3 3 * m 4 4
 rw [Rat.one_mul]
theorem detR_none {n i : Nat} (m : Mx) (h5 : n ≤ 5) (hi : i < n) (h : Tri n i m) (hz : ∀ r, i ≤ r → r < n → m r i = 0) : detR n m = 0 := by
 rcases Nat.lt_or_ge n 5 with h1 | h1
 ·rw [detR_small (by omega)]; exact det_none m (by omega) hi h hz
 obtain rfl : n = 5 := by omega
 rw [detR_five]
 obtain rfl | rfl | rfl | rfl | rfl : i = 0 ∨ i = 1 ∨ i = 2 ∨ i = 3 ∨ i = 4 := by omega
 ·exact none5_0 m h hz
 ·exact none5_1 m h hz
 ·exact none5_2 m h hz
 ·exact none5_3 m h hz
 ·exact none5_4 m h hz
theorem detR_rows {n : Nat} (m : Mx) (h5 : n ≤ 5) {i : Nat} (hi : i < n) : ∀ j, j ≤ n → detR n (rowsM false i m m j) = detR n m
 | 0, _ => by rw [rowsM_zero]
 | j + 1, hj => by
  have ih := detR_rows m h5 hi j (by omega)
  by_cases e : j ≠ i ∧ (false = true ∨ i < j)
  ·rw [rowsM_row false i m m e, detR_row _ _ h5 hi (by omega) e.1, ih]
  ·rw [rowsM_skip false i m m e, ih]
structure DetSt (n i : Nat) (M m : Mx) (s d : Rat) : Prop where
 sgn : s * s = 1
 det : detR n m = s * detR n M
 dd : d = s * prodN (fun r => m r r) i
 piv : ∀ r, r < i → m r r ≠ 0
 tri : Tri n i m
theorem DetSt.start {n : Nat} (M : Mx) : DetSt n 0 M M 1 1 :=
 ⟨by grind, by grind, by show (1 : Rat) = 1 * 1; grind, fun r h => absurd h (Nat.not_lt_zero _), fun r c h => absurd h (Nat.not_lt_zero _)⟩
theorem DetSt.swap {n i : Nat} {M m : Mx} {s d : Rat} (h : DetSt n i M m s d) (h5 : n ≤ 5) {k : Nat} (hi : i < k) (hk : k < n) : DetSt n i M (swapM m i k) (-s) (-d) := by
 refine ⟨by have := h.sgn; grind, by rw [detR_swap m h5 hi hk, h.det]; grind, ?_, fun r hr => ?_, ?_⟩
 ·rw [h.dd, prodN_congr (f := fun r => swapM m i k r r) (g := fun r => m r r) (fun r hr => by show swapM m i k r r = m r r; rw [swapM_low hr hi])]; grind
 ·rw [swapM_low hr hi]; exact h.piv r hr
 ·intro r c hc hcr hr
  unfold swapM
  by_cases e : r = i
  ·rw [if_pos e]; exact h.tri k c hc (by omega) hk
  ·rw [if_neg e]
   by_cases e2 : r = k
   ·rw [if_pos e2]; exact h.tri i c hc (by omega) (by omega)
   ·rw [if_neg e2]; exact h.tri r c hc hcr hr
theorem DetSt.next {n i : Nat} {M m : Mx} {s d : Rat} (h : DetSt n i M m s d) (h5 : n ≤ 5) (hi : i < n) (hz : m i i ≠ 0) : DetSt n (i + 1) M (rowsM false i m m n) s (d * m i i) := by
 have hii : ∀ c, rowsM false i m m n i c = m i c := fun c => rowsM_of (by omega)
 have low : ∀ r, r < i → rowsM false i m m n r r = m r r := by
  intro r hr
  exact rowsM_of (by
   rintro ⟨_, _, e | e⟩
   ·cases e
   ·omega)
 refine ⟨h.sgn, by rw [detR_rows m h5 hi n (Nat.le_refl _)]; exact h.det, ?_, fun r hr => ?_, ?_⟩
 ·show d * m i i = s * (prodN (fun r => rowsM false i m m n r r) i * rowsM false i m m n i i)
  rw [hii, h.dd, prodN_congr (f := fun r => rowsM false i m m n r r) (g := fun r => m r r) (fun r hr => low r hr)]; grind
 ·by_cases e : r = i
  ·subst e; rw [hii]; exact hz
  ·rw [low r (by omega)]; exact h.piv r (by omega)
 ·intro r c hc hcr hr
  by_cases e : r < n ∧ r ≠ i ∧ (false = true ∨ i < r)
  ·rw [rowsM_at e]
   by_cases ec : c = i
   ·subst ec; exact rat_div_self hz _
   ·rw [h.tri r c (by omega) hcr hr, h.tri i c (by omega) (by omega) hi, Rat.mul_zero]; grind
  ·rw [rowsM_of e]
   by_cases ec : c = i
   ·subst ec; exfalso; apply e; exact ⟨hr, by omega, .inr hcr⟩
   ·exact h.tri r c (by omega) hcr hr
theorem DetSt.done {n : Nat} {M m : Mx} {s d : Rat} (h : DetSt n n M m s d) (h5 : n ≤ 5) : d = detR n M := by
 have h1 := detR_tri m h5 h.tri
 have h2 := h.det
 have h3 := h.dd
 have h4 := h.sgn
 grind
theorem DetSt.none {n i : Nat} {M m : Mx} {s d : Rat} (h : DetSt n i M m s d) (h5 : n ≤ 5) (hi : i < n) (hz : ∀ r, i ≤ r → r < n → m r i = 0) : detR n M = 0 := by
 have h1 := detR_none m h5 hi h.tri hz
 have h2 := h.det
 have h4 := h.sgn
 grind
end Num
namespace Num
inductive El (n : Nat) (M : Mx) : Nat → Mx → Rat → Prop
 | start : El n M 0 M 1
 | swap {i k : Nat} {m : Mx} {d : Rat} (h : El n M i m d) (hi : i < k) (hk : k < n) : El n M i (swapM m i k) (-d)
 | next {i : Nat} {m : Mx} {d : Rat} (h : El n M i m d) (hi : i < n) (hz : m i i ≠ 0) : El n M (i + 1) (rowsM false i m m n) (d * m i i)
theorem El.st {n i : Nat} {M m : Mx} {d : Rat} (h : El n M i m d) (h5 : n ≤ 5) : ∃ s, DetSt n i M m s d := by
 induction h with
 | start => exact ⟨1, .start M⟩
 | swap h hi hk ih => obtain ⟨s, ih⟩ := ih; exact ⟨-s, ih.swap h5 hi hk⟩
 | next h hi hz ih => obtain ⟨s, ih⟩ := ih; exact ⟨s, ih.next h5 hi hz⟩
abbrev Ix : Type := Nat → Nat → Int
def i2 (A : Ix) (a b x y : Nat) : Int := A a x * A b y - A a y * A b x
def i3 (A : Ix) (a b c x y z : Nat) : Int := A a x * i2 A b c y z - A a y * i2 A b c x z + A a z * i2 A b c x y
def i4 (A : Ix) (a b c d x y z u : Nat) : Int := A a x * i3 A b c d y z u - A a y * i3 A b c d x z u + A a z * i3 A b c d x y u - A a u * i3 A b c d x y z
def mi (A : Ix) : Nat → Nat → Nat → Int
 | 0, r, c => A r c
 | 1, r, c => i2 A 0 r 0 c
 | 2, r, c => i3 A 0 1 r 0 1 c
 | _, r, c => i4 A 0 1 2 r 0 1 2 c
def leadI (A : Ix) : Nat → Int
 | 0 => 1
 | i + 1 => mi A i i i
theorem mi_next0 (A : Ix) (r c : Nat) : mi A 0 r c * mi A 0 0 0 - mi A 0 r 0 * mi A 0 0 c = leadI A 0 * mi A 1 r c := by
 show A r c * A 0 0 - A r 0 * A 0 c = 1 * i2 A 0 r 0 c
 unfold i2; grind
theorem mi_next1 (A : Ix) (r c : Nat) : mi A 1 r c * mi A 1 1 1 - mi A 1 r 1 * mi A 1 1 c = leadI A 1 * mi A 2 r c := by
 show i2 A 0 r 0 c * i2 A 0 1 0 1 - i2 A 0 r 0 1 * i2 A 0 1 0 c = A 0 0 * i3 A 0 1 r 0 1 c
 unfold i3 i2; grind
theorem mi_next2 (A : Ix) (r c : Nat) : mi A 2 r c * mi A 2 2 2 - mi A 2 r 2 * mi A 2 2 c = leadI A 2 * mi A 3 r c := by
 show i3 A 0 1 r 0 1 c * i3 A 0 1 2 0 1 2 - i3 A 0 1 r 0 1 2 * i3 A 0 1 2 0 1 c = i2 A 0 1 0 1 * i4 A 0 1 2 r 0 1 2 c
 unfold i4 i3 i2; grind
theorem abs_i2 {A : Ix} {al : Nat → Nat} (h : ∀ r c, (A r c).natAbs ≤ al r) (a b x y : Nat) : (i2 A a b x y).natAbs ≤ 2 * (al a * al b) := by
 unfold i2
 have h1 : (A a x * A b y).natAbs ≤ al a * al b := by rw [Int.natAbs_mul]; exact Nat.mul_le_mul (h _ _) (h _ _)
 have h2 : (A a y * A b x).natAbs ≤ al a * al b := by rw [Int.natAbs_mul]; exact Nat.mul_le_mul (h _ _) (h _ _)
 omega
theorem abs_i3 {A : Ix} {al : Nat → Nat} (h : ∀ r c, (A r c).natAbs ≤ al r) (a b c x y z : Nat) : (i3 A a b c x y z).natAbs ≤ 6 * (al a * al b * al c) := by
 unfold i3
 have k : ∀ x y z, (A a x * i2 A b c y z).natAbs ≤ 2 * (al a * al b * al c) := fun x y z => by
  rw [Int.natAbs_mul]
  refine Nat.le_trans (Nat.mul_le_mul (h _ _) (abs_i2 h b c y z)) (Nat.le_of_eq ?_)
  grind
 have h1 := k x y z
 have h2 := k y x z
 have h3 := k z x y
 omega
theorem abs_i4 {A : Ix} {al : Nat → Nat} (h : ∀ r c, (A r c).natAbs ≤ al r) (a b c d x y z u : Nat) : (i4 A a b c d x y z u).natAbs ≤ 24 * (al a * al b * al c * al d) := by
 unfold i4
 have k : ∀ x y z u, (A a x * i3 A b c d y z u).natAbs ≤ 6 * (al a * al b * al c * al d) := fun x y z u => by
  rw [Int.natAbs_mul]
  refine Nat.le_trans (Nat.mul_le_mul (h _ _) (abs_i3 h b c d y z u)) (Nat.le_of_eq ?_)
  grind
 have h1 := k x y z u
 have h2 := k y x z u
 have h3 := k z x y u
 have h4 := k u x y z
 omega
structure RB (K : Nat) (A : Ix) (al de : Nat → Nat) : Prop where
 pos : ∀ r, 0 < de r ∧ de r ≤ al r
 abs : ∀ r c, (A r c).natAbs ≤ al r
 all : al 0 * al 1 * al 2 * al 3 ≤ K
section
variable {K : Nat} {A : Ix} {al de : Nat → Nat}
theorem RB.one (h : RB K A al de) (r : Nat) : 1 ≤ al r := Nat.le_trans (h.pos r).1 (h.pos r).2
theorem le_mul_one {a b : Nat} (h : 1 ≤ b) : a ≤ a * b := Nat.le_mul_of_pos_right a h
theorem RB.le1 (h : RB K A al de) {r : Nat} (hr : r < 4) : al r ≤ K := by
 have a := h.one 0; have b := h.one 1; have c := h.one 2; have d := h.one 3
 refine Nat.le_trans ?_ h.all
 obtain rfl | rfl | rfl | rfl : r = 0 ∨ r = 1 ∨ r = 2 ∨ r = 3 := by omega
 ·rw [Nat.mul_assoc, Nat.mul_assoc]; exact le_mul_one (Nat.mul_pos b (Nat.mul_pos c d))
 ·rw [Nat.mul_comm (al 0) (al 1), Nat.mul_assoc, Nat.mul_assoc]; exact le_mul_one (Nat.mul_pos a (Nat.mul_pos c d))
 ·rw [Nat.mul_comm (al 0 * al 1) (al 2), Nat.mul_assoc]; exact le_mul_one (Nat.mul_pos (Nat.mul_pos a b) d)
 ·rw [Nat.mul_comm _ (al 3)]; exact le_mul_one (Nat.mul_pos (Nat.mul_pos a b) c)
theorem RB.le2 (h : RB K A al de) {r : Nat} (hr : r < 4) (h1 : 1 ≤ r) : al 0 * al r ≤ K := by
 have b := h.one 1; have c := h.one 2; have d := h.one 3
 refine Nat.le_trans ?_ h.all
 obtain rfl | rfl | rfl : r = 1 ∨ r = 2 ∨ r = 3 := by omega
 ·rw [Nat.mul_assoc]; exact le_mul_one (Nat.mul_pos c d)
 ·rw [show al 0 * al 1 * al 2 * al 3 = al 0 * al 2 * (al 1 * al 3) by grind]; exact le_mul_one (Nat.mul_pos b d)
 ·rw [show al 0 * al 1 * al 2 * al 3 = al 0 * al 3 * (al 1 * al 2) by grind]; exact le_mul_one (Nat.mul_pos b c)
theorem RB.le3 (h : RB K A al de) {r : Nat} (hr : r < 4) (h1 : 2 ≤ r) : al 0 * al 1 * al r ≤ K := by
 have c := h.one 2; have d := h.one 3
 refine Nat.le_trans ?_ h.all
 obtain rfl | rfl : r = 2 ∨ r = 3 := by omega
 ·exact le_mul_one d
 ·rw [show al 0 * al 1 * al 2 * al 3 = al 0 * al 1 * al 3 * al 2 by grind]; exact le_mul_one c
theorem RB.mi_le (h : RB K A al de) {i r : Nat} (hi : i ≤ r) (hr : r < 4) (c : Nat) : (mi A i r c).natAbs ≤ 24 * K := by
 obtain rfl | rfl | rfl | rfl : i = 0 ∨ i = 1 ∨ i = 2 ∨ i = 3 := by omega
 ·have h1 := h.abs r c; have h2 := h.le1 hr
  show (A r c).natAbs ≤ _; omega
 ·have h1 := abs_i2 h.abs 0 r 0 c; have h2 := h.le2 hr hi
  show (i2 A 0 r 0 c).natAbs ≤ _; omega
 ·have h1 := abs_i3 h.abs 0 1 r 0 1 c; have h2 := h.le3 hr hi
  show (i3 A 0 1 r 0 1 c).natAbs ≤ _; omega
 ·obtain rfl : r = 3 := by omega
  have h1 := abs_i4 h.abs 0 1 2 3 0 1 2 c; have h2 := h.all
  show (i4 A 0 1 2 3 0 1 2 c).natAbs ≤ _; omega
theorem RB.leadI_le (h : RB K A al de) (hK : 1 ≤ K) {i : Nat} (hi : i ≤ 4) : (leadI A i).natAbs ≤ 24 * K := by
 cases i with
 | zero => show (1 : Int).natAbs ≤ _; simp; omega
 | succ i => exact h.mi_le (Nat.le_refl i) (by omega) i
def prodD (de : Nat → Nat) : Nat → Nat
 | 0 => 1
 | i + 1 => prodD de i * de i
theorem RB.prod_pos (h : RB K A al de) : ∀ i, 0 < prodD de i
 | 0 => Nat.one_pos
 | i + 1 => Nat.mul_pos (h.prod_pos i) (h.pos i).1
theorem RB.prod_le (h : RB K A al de) {i : Nat} (hi : i ≤ 4) : prodD de i ≤ K := by
 have e : de 0 * de 1 * de 2 * de 3 ≤ K := Nat.le_trans (Nat.mul_le_mul (Nat.mul_le_mul (Nat.mul_le_mul (h.pos 0).2 (h.pos 1).2) (h.pos 2).2) (h.pos 3).2) h.all
 have b := (h.pos 1).1; have c := (h.pos 2).1; have d := (h.pos 3).1; have a := (h.pos 0).1
 refine Nat.le_trans ?_ e
 obtain rfl | rfl | rfl | rfl | rfl : i = 0 ∨ i = 1 ∨ i = 2 ∨ i = 3 ∨ i = 4 := by omega
 ·exact Nat.mul_pos (Nat.mul_pos (Nat.mul_pos a b) c) d
 ·show 1 * de 0 ≤ _; rw [Nat.one_mul, Nat.mul_assoc, Nat.mul_assoc]; exact le_mul_one (Nat.mul_pos b (Nat.mul_pos c d))
 ·show 1 * de 0 * de 1 ≤ _; rw [Nat.one_mul, Nat.mul_assoc (de 0 * de 1)]; exact le_mul_one (Nat.mul_pos c d)
 ·show 1 * de 0 * de 1 * de 2 ≤ _; rw [Nat.one_mul]; exact le_mul_one d
 ·show 1 * de 0 * de 1 * de 2 * de 3 ≤ _; rw [Nat.one_mul]; exact Nat.le_refl _
end
def swF {T : Type} (f : Nat → T) (i k : Nat) : Nat → T := fun r => if r = i then f k else if r = k then f i else f r
theorem swF_low {T : Type} {f : Nat → T} {i k r : Nat} (hi : r < i) (hk : i < k) : swF f i k r = f r := by
 unfold swF; rw [if_neg (by omega), if_neg (by omega)]
theorem swF_i {T : Type} (f : Nat → T) (i k : Nat) : swF f i k i = f k := if_pos rfl
theorem swF_k {T : Type} {f : Nat → T} {i k : Nat} (h : i < k) : swF f i k k = f i := by unfold swF; rw [if_neg (by omega), if_pos rfl]
theorem swF_o {T : Type} {f : Nat → T} {i k r : Nat} (h1 : r ≠ i) (h2 : r ≠ k) : swF f i k r = f r := by unfold swF; rw [if_neg h1, if_neg h2]
theorem RB.swap {K : Nat} {A : Ix} {al de : Nat → Nat} (h : RB K A al de) {i k : Nat} (hi : i < k) (hk : k < 4) : RB K (swF A i k) (swF al i k) (swF de i k) := by
 refine ⟨fun r => ?_, fun r c => ?_, ?_⟩
 ·unfold swF
  by_cases e : r = i
  ·rw [if_pos e, if_pos e]; exact h.pos k
  ·rw [if_neg e, if_neg e]
   by_cases e2 : r = k
   ·rw [if_pos e2, if_pos e2]; exact h.pos i
   ·rw [if_neg e2, if_neg e2]; exact h.pos r
 ·unfold swF
  by_cases e : r = i
  ·rw [if_pos e, if_pos e]; exact h.abs k c
  ·rw [if_neg e, if_neg e]
   by_cases e2 : r = k
   ·rw [if_pos e2, if_pos e2]; exact h.abs i c
   ·rw [if_neg e2, if_neg e2]; exact h.abs r c
 ·refine Nat.le_trans (Nat.le_of_eq ?_) h.all
  obtain rfl | rfl | rfl : i = 0 ∨ i = 1 ∨ i = 2 := by omega
  ·obtain rfl | rfl | rfl : k = 1 ∨ k = 2 ∨ k = 3 := by omega
   all_goals (simp [swF]; grind)
  ·obtain rfl | rfl : k = 2 ∨ k = 3 := by omega
   all_goals (simp [swF]; grind)
  ·obtain rfl : k = 3 := by omega
   simp [swF]; grind
theorem mi_congr {A B : Ix} {i r s : Nat} (h : ∀ t, t < i → A t = B t) (hr : A r = B s) (hi : i < 4) (c : Nat) : mi A i r c = mi B i s c := by
 obtain rfl | rfl | rfl | rfl : i = 0 ∨ i = 1 ∨ i = 2 ∨ i = 3 := by omega
 ·show A r c = B s c; rw [hr]
 ·have a := h 0 (by omega)
  show i2 A 0 r 0 c = i2 B 0 s 0 c; unfold i2; rw [hr, a]
 ·have a := h 0 (by omega); have b := h 1 (by omega)
  show i3 A 0 1 r 0 1 c = i3 B 0 1 s 0 1 c; unfold i3 i2; rw [hr, a, b]
 ·have a := h 0 (by omega); have b := h 1 (by omega); have d := h 2 (by omega)
  show i4 A 0 1 2 r 0 1 2 c = i4 B 0 1 2 s 0 1 2 c; unfold i4 i3 i2; rw [hr, a, b, d]
theorem leadI_congr {A B : Ix} {i : Nat} (h : ∀ t, t < i → A t = B t) (hi : i ≤ 4) : leadI A i = leadI B i := by
 cases i with
 | zero => rfl
 | succ i => exact mi_congr (fun t ht => h t (by omega)) (h i (by omega)) (by omega) i
theorem prodD_congr {d e : Nat → Nat} : ∀ {i : Nat}, (∀ t, t < i → d t = e t) → prodD d i = prodD e i
 | 0, _ => rfl
 | i + 1, h => by show prodD d i * d i = prodD e i * e i; rw [prodD_congr (fun t ht => h t (by omega)), h i (by omega)]
structure MB (n K i : Nat) (m : Mx) (d : Rat) (A : Ix) (al de : Nat → Nat) (s : Rat) : Prop where
 rb : RB K A al de
 sg : s = 1 ∨ s = -1
 nz : leadI A i ≠ 0
 dd : d = s * ((leadI A i : Int) : Rat) / ((prodD de i : Nat) : Rat)
 is : ∀ r c, i ≤ r → r < n → c < n → m r c = ((mi A i r c : Int) : Rat) / (((leadI A i : Int) : Rat) * ((de r : Nat) : Rat))
theorem MB.start {n K : Nat} {M : Mx} {A : Ix} {al de : Nat → Nat} (h : RB K A al de) (hM : ∀ r c, r < n → c < n → M r c = ((A r c : Int) : Rat) / ((de r : Nat) : Rat)) : MB n K 0 M 1 A al de 1 :=
 ⟨h, .inl rfl, by show (1 : Int) ≠ 0; decide, by show (1 : Rat) = 1 * ((1 : Int) : Rat) / ((1 : Nat) : Rat); grind, fun r c _ hr hc => by
  rw [hM r c hr hc]
  show _ = ((A r c : Int) : Rat) / (((1 : Int) : Rat) * _)
  rw [show ((1 : Int) : Rat) = 1 from rfl, Rat.one_mul]⟩
theorem MB.swap {n K i k : Nat} {m : Mx} {d : Rat} {A : Ix} {al de : Nat → Nat} {s : Rat} (h : MB n K i m d A al de s) (h4 : n ≤ 4) (hi : i < k) (hk : k < n) : MB n K i (swapM m i k) (-d) (swF A i k) (swF al i k) (swF de i k) (-s) := by
 have low : ∀ t, t < i → swF A i k t = A t := fun t ht => swF_low ht hi
 refine ⟨h.rb.swap hi (by omega), by rcases h.sg with e | e <;> rw [e] <;> grind, by rw [leadI_congr low (by omega)]; exact h.nz, ?_, fun r c hr hrn hc => ?_⟩
 ·rw [leadI_congr low (by omega), prodD_congr (e := de) (fun t ht => swF_low ht hi), h.dd]; grind
 ·rw [leadI_congr low (by omega)]
  have key : ∃ q, i ≤ q ∧ q < n ∧ swapM m i k r = m q ∧ swF A i k r = A q ∧ swF de i k r = de q := by
   by_cases e : r = i
   ·subst e; exact ⟨k, by omega, hk, if_pos rfl, swF_i _ _ _, swF_i _ _ _⟩
   ·by_cases e2 : r = k
    ·subst e2; exact ⟨i, by omega, by omega, by show swapM m i r r = m i; unfold swapM; rw [if_neg e, if_pos rfl], swF_k hi, swF_k hi⟩
    ·exact ⟨r, hr, hrn, by unfold swapM; rw [if_neg e, if_neg e2], swF_o e e2, swF_o e e2⟩
  obtain ⟨q, hq1, hq2, e1, e2, e3⟩ := key
  rw [e1, e3, mi_congr low e2 (by omega)]
  exact h.is q c hq1 hq2 hc
theorem elim_frac {a b e f g L p q : Rat} (h : a * e - b * f = L * g) (hL : L ≠ 0) (hp : p ≠ 0) (hq : q ≠ 0) (he : e ≠ 0) : a / (L * p) - b / (L * p) / (e / (L * q)) * (f / (L * q)) = g / (e * p) := by grind
theorem mi_next {A : Ix} {i : Nat} (hi : i ≤ 2) (r c : Nat) : mi A i r c * mi A i i i - mi A i r i * mi A i i c = leadI A i * mi A (i + 1) r c := by
 obtain rfl | rfl | rfl : i = 0 ∨ i = 1 ∨ i = 2 := by omega
 ·exact mi_next0 A r c
 ·exact mi_next1 A r c
 ·exact mi_next2 A r c
theorem de_ne {K : Nat} {A : Ix} {al de : Nat → Nat} (h : RB K A al de) (r : Nat) : ((de r : Nat) : Rat) ≠ 0 := nat_ne (by have := (h.pos r).1; omega)
theorem MB.pivot {n K i : Nat} {m : Mx} {d : Rat} {A : Ix} {al de : Nat → Nat} {s : Rat} (h : MB n K i m d A al de s) (hi : i < n) (hz : m i i ≠ 0) : leadI A (i + 1) ≠ 0 := by
 intro e
 apply hz
 rw [h.is i i (Nat.le_refl _) hi hi]
 have e' : mi A i i i = 0 := e
 rw [e']
 show ((0 : Int) : Rat) / _ = 0
 rw [show ((0 : Int) : Rat) = 0 from rfl, Rat.div_def, Rat.zero_mul]
theorem MB.next {n K i : Nat} {m : Mx} {d : Rat} {A : Ix} {al de : Nat → Nat} {s : Rat} (h : MB n K i m d A al de s) (h4 : n ≤ 4) (hi : i < n) (hz : m i i ≠ 0) : MB n K (i + 1) (rowsM false i m m n) (d * m i i) A al de s := by
 have hp := h.pivot hi hz
 have hpr : ((leadI A (i + 1) : Int) : Rat) ≠ 0 := int_ne hp
 have hlr : ((leadI A i : Int) : Rat) ≠ 0 := int_ne h.nz
 refine ⟨h.rb, h.sg, hp, ?_, fun r c hr hrn hc => ?_⟩
 ·rw [h.dd, h.is i i (Nat.le_refl _) hi hi]
  show _ = s * ((mi A i i i : Int) : Rat) / (((prodD de i * de i : Nat)) : Rat)
  rw [Rat.natCast_mul]
  have h1 := de_ne h.rb i
  have h2 : ((prodD de i : Nat) : Rat) ≠ 0 := nat_ne (by have := h.rb.prod_pos i; omega)
  grind
 ·rw [rowsM_at ⟨hrn, by omega, .inr (by omega)⟩, h.is r c (by omega) hrn hc, h.is r i (by omega) hrn hi, h.is i i (Nat.le_refl _) hi hi, h.is i c (Nat.le_refl _) hi hc]
  refine elim_frac (g := ((mi A (i + 1) r c : Int) : Rat)) (e := ((mi A i i i : Int) : Rat)) ?_ hlr (de_ne h.rb r) (de_ne h.rb i) hpr
  have := congrArg (fun z : Int => (z : Rat)) (mi_next (A := A) (i := i) (by omega) r c)
  simp only [Rat.intCast_mul, Rat.intCast_sub] at this
  exact this
theorem El.mb {n K i : Nat} {M m : Mx} {d : Rat} (h : El n M i m d) (h4 : n ≤ 4) {A : Ix} {al de : Nat → Nat} (hR : RB K A al de) (hM : ∀ r c, r < n → c < n → M r c = ((A r c : Int) : Rat) / ((de r : Nat) : Rat)) : ∃ A al de s, MB n K i m d A al de s := by
 induction h with
 | start => exact ⟨A, al, de, 1, .start hR hM⟩
 | swap h hi hk ih => obtain ⟨A, al, de, s, ih⟩ := ih; exact ⟨_, _, _, _, ih.swap h4 hi hk⟩
 | next h hi hz ih => obtain ⟨A, al, de, s, ih⟩ := ih; exact ⟨_, _, _, _, ih.next h4 hi hz⟩
theorem sm_of {q : Rat} {a : Int} {b A B : Nat} (h : q = (a : Rat) / ((b : Nat) : Rat)) (hb : b ≠ 0) (h1 : a.natAbs ≤ A) (h2 : b ≤ B) : Sm q A B := ⟨a, b, hb, h, h1, h2⟩
theorem frac_up {q : Rat} {a : Int} {l : Int} {p : Nat} (h : q = (a : Rat) / ((l : Rat) * ((p : Nat) : Rat))) (hl : l ≠ 0) (hp : p ≠ 0) {A L P : Nat} (h1 : a.natAbs ≤ A) (h2 : l.natAbs ≤ L) (h3 : p ≤ P) : Sm q A (L * P) := by
 have e : ((l.natAbs : Nat) : Rat) = (l : Rat) ∨ ((l.natAbs : Nat) : Rat) = -(l : Rat) := by
  rcases Int.natAbs_eq l with e | e
  ·left; rw [← Rat.intCast_natCast, ← e]
  ·right; rw [← Rat.intCast_natCast, ← Rat.intCast_neg]; congr 1; omega
 have hl' := int_ne hl
 have hp' := nat_ne hp
 rcases e with e | e
 ·exact sm_of (a := a) (b := l.natAbs * p) (by rw [h, Rat.natCast_mul, e]) (Nat.mul_ne_zero (by omega) hp) h1 (Nat.mul_le_mul h2 h3)
 ·exact sm_of (a := -a) (b := l.natAbs * p) (by rw [h, Rat.natCast_mul, e, Rat.intCast_neg]; grind) (Nat.mul_ne_zero (by omega) hp) (by omega) (Nat.mul_le_mul h2 h3)
section
variable {n K i : Nat} {m : Mx} {d : Rat} {A : Ix} {al de : Nat → Nat} {s : Rat} (h : MB n K i m d A al de s) (h4 : n ≤ 4) (hK : 1 ≤ K)
include h h4 hK
theorem MB.sm (hi : i < n) {r c : Nat} (hr : i ≤ r) (hrn : r < n) (hc : c < n) : Sm (m r c) (24 * K) (24 * K * K) :=
 frac_up (h.is r c hr hrn hc) h.nz (by have := (h.rb.pos r).1; omega) (h.rb.mi_le hr (by omega) c) (h.rb.leadI_le hK (by omega)) (Nat.le_trans (h.rb.pos r).2 (h.rb.le1 (by omega)))
theorem MB.smd (hi : i ≤ n) : Sm d (24 * K) K := by
 refine sm_of (a := if s = 1 then leadI A i else - leadI A i) (b := prodD de i) ?_ (by have := h.rb.prod_pos i; omega) ?_ (h.rb.prod_le (by omega))
 ·rw [h.dd]
  rcases h.sg with e | e
  ·rw [if_pos e, e, Rat.one_mul]
  ·rw [if_neg (by rw [e]; decide), e, Rat.intCast_neg]; grind
 ·have := h.rb.leadI_le hK (i := i) (by omega)
  split <;> omega
omit hK in
theorem MB.smq (hi : i < n) (hz : m i i ≠ 0) {r : Nat} (hr : i ≤ r) (hrn : r < n) : Sm (m r i / m i i) (24 * K * K) (24 * K * K) := by
 have hp := h.pivot hi hz
 have hpr : ((mi A i i i : Int) : Rat) ≠ 0 := int_ne hp
 have hlr : ((leadI A i : Int) : Rat) ≠ 0 := int_ne h.nz
 have h1 := de_ne h.rb r
 have h2 := de_ne h.rb i
 have e : m r i / m i i = ((mi A i r i * (de i : Int) : Int) : Rat) / (((mi A i i i : Int) : Rat) * ((de r : Nat) : Rat)) := by
  rw [h.is r i hr hrn hi, h.is i i (Nat.le_refl _) hi hi, Rat.intCast_mul, Rat.intCast_natCast]
  grind
 refine frac_up e hp (by have := (h.rb.pos r).1; omega) ?_ (h.rb.mi_le (Nat.le_refl i) (by omega) i) (Nat.le_trans (h.rb.pos r).2 (h.rb.le1 (by omega)))
 rw [Int.natAbs_mul]
 exact Nat.mul_le_mul (h.rb.mi_le hr (by omega) i) (by simpa using Nat.le_trans (h.rb.pos i).2 (h.rb.le1 (by omega)))
end
structure ElFit (n i : Nat) (m : Mx) (d : Rat) : Prop where
 d : fits (d * m i i) = true
 q : ∀ r, i < r → r < n → fits (m r i / m i i) = true
 p : ∀ r c, i < r → r < n → c < n → fits (m r i / m i i * m i c) = true
 s : ∀ r c, i < r → r < n → c < n → fits (m r c - m r i / m i i * m i c) = true
theorem El.fit {n K i : Nat} {M m : Mx} {d : Rat} (h : El n M i m d) (h4 : n ≤ 4) (hi : i < n) (hz : m i i ≠ 0) {A : Ix} {al de : Nat → Nat} (hR : RB K A al de) (hM : ∀ r c, r < n → c < n → M r c = ((A r c : Int) : Rat) / ((de r : Nat) : Rat)) (hK : 1 ≤ K)
  (h1 : 24 * K < 10 ^ 300) (h2 : 24 * K * K < 10 ^ 300) (h3 : 24 * K * K * (24 * K) < 10 ^ 300) (h5 : 24 * K * K * (24 * K * K) < 10 ^ 300) : ElFit n i m d := by
 obtain ⟨A', al', de', s, hb⟩ := h.mb h4 hR hM
 obtain ⟨A2, al2, de2, s2, hb2⟩ := (h.next hi hz).mb h4 hR hM
 refine ⟨(hb2.smd h4 hK (by omega)).fits h1 (Nat.lt_of_le_of_lt (by omega) h1), fun r hr hrn => (hb.smq h4 hi hz (by omega) hrn).fits h2 h2, fun r c hr hrn hc => ?_, fun r c hr hrn hc => ?_⟩
 ·exact ((hb.smq h4 hi hz (by omega) hrn).mul (hb.sm h4 hK hi (Nat.le_refl _) hi hc)).fits h3 h5
 ·have hx := (hb2.sm h4 hK (by omega) (r := r) (c := c) (by omega) hrn hc).fits h1 h2
  rw [rowsM_at ⟨hrn, by omega, .inr (by omega)⟩] at hx
  exact hx
def wq (q : Rat) : Nat := (numText q).length + (denText q).length
def xq (q : Rat) : Nat := max (up q) 1 * q.den
theorem dec_pos (n : Nat) : 0 < (Lib.decDigits n).length := List.length_pos_iff.2 (decDigits_ne n)
theorem dec_lt (n : Nat) : n < 10 ^ (Lib.decDigits n).length := (decDigits_length_iff (dec_pos n)).1 (Nat.le_refl _)
theorem one_le_ten (k : Nat) : 1 ≤ 10 ^ k := Nat.pow_pos (by decide)
theorem xq_le (q : Rat) : xq q ≤ 10 ^ wq q := by
 unfold xq wq denText
 rw [Nat.pow_add]
 refine Nat.mul_le_mul ?_ (Nat.le_of_lt (dec_lt _))
 have h1 : (Lib.decDigits (up q)).length ≤ (numText q).length := by
  unfold numText; split
  ·simp
  ·exact Nat.le_refl _
 have h2 := dec_lt (up q)
 have h3 : 10 ^ (Lib.decDigits (up q)).length ≤ 10 ^ (numText q).length := Nat.pow_le_pow_right (by decide) h1
 have h4 := one_le_ten (numText q).length
 omega
def prodX : List Nat → Nat
 | [] => 1
 | x :: l => x * prodX l
theorem prodX_le : ∀ qs : List Rat, prodX (qs.map xq) ≤ 10 ^ (qs.map wq).sum
 | [] => by decide
 | q :: l => by
  show xq q * prodX (l.map xq) ≤ 10 ^ (wq q + (l.map wq).sum)
  rw [Nat.pow_add]
  exact Nat.mul_le_mul (xq_le q) (prodX_le l)
def inN (n r c : Nat) : Bool := decide (r < n) && decide (c < n)
def nuM (M : Mx) (n : Nat) : Ix := fun r c => if inN n r c then (M r c).num else 0
def deM (M : Mx) (n : Nat) : Nat → Nat → Nat := fun r c => if inN n r c then (M r c).den else 1
def xM (M : Mx) (n : Nat) : Nat → Nat → Nat := fun r c => if inN n r c then xq (M r c) else 1
def aM (M : Mx) (n : Nat) : Ix := fun r c => match c with
 | 0 => nuM M n r 0 * (deM M n r 1 * deM M n r 2 * deM M n r 3 : Nat)
 | 1 => nuM M n r 1 * (deM M n r 0 * deM M n r 2 * deM M n r 3 : Nat)
 | 2 => nuM M n r 2 * (deM M n r 0 * deM M n r 1 * deM M n r 3 : Nat)
 | 3 => nuM M n r 3 * (deM M n r 0 * deM M n r 1 * deM M n r 2 : Nat)
 | _ => 0
def deR (M : Mx) (n r : Nat) : Nat := deM M n r 0 * deM M n r 1 * deM M n r 2 * deM M n r 3
def alR (M : Mx) (n r : Nat) : Nat := xM M n r 0 * xM M n r 1 * xM M n r 2 * xM M n r 3
theorem deM_pos (M : Mx) (n r c : Nat) : 0 < deM M n r c := by
 unfold deM; split
 ·exact Nat.pos_of_ne_zero (Rat.den_nz _)
 ·exact Nat.one_pos
theorem deM_le (M : Mx) (n r c : Nat) : deM M n r c ≤ xM M n r c := by
 unfold deM xM; split
 ·unfold xq; exact Nat.le_mul_of_pos_left _ (by omega)
 ·exact Nat.le_refl _
theorem nuM_le (M : Mx) (n r c : Nat) : (nuM M n r c).natAbs ≤ xM M n r c := by
 unfold nuM xM; split
 ·unfold xq
  refine Nat.le_trans ?_ (Nat.le_mul_of_pos_right _ (Nat.pos_of_ne_zero (Rat.den_nz _)))
  show up (M r c) ≤ _; omega
 ·simp
theorem four_le {a b c d x y z u : Nat} (h1 : a ≤ x) (h2 : b ≤ y) (h3 : c ≤ z) (h4 : d ≤ u) : a * b * c * d ≤ x * y * z * u := Nat.mul_le_mul (Nat.mul_le_mul (Nat.mul_le_mul h1 h2) h3) h4
theorem rb_M (M : Mx) (n : Nat) : RB (alR M n 0 * alR M n 1 * alR M n 2 * alR M n 3) (aM M n) (alR M n) (deR M n) := by
 refine ⟨fun r => ⟨?_, four_le (deM_le _ _ _ _) (deM_le _ _ _ _) (deM_le _ _ _ _) (deM_le _ _ _ _)⟩, fun r c => ?_, Nat.le_refl _⟩
 ·exact Nat.mul_pos (Nat.mul_pos (Nat.mul_pos (deM_pos _ _ _ _) (deM_pos _ _ _ _)) (deM_pos _ _ _ _)) (deM_pos _ _ _ _)
 ·have d := deM_le M n r
  have a := nuM_le M n r
  unfold alR
  match c with
  | 0 => show (nuM M n r 0 * _).natAbs ≤ _; rw [Int.natAbs_mul, Int.natAbs_natCast, ← Nat.mul_assoc, ← Nat.mul_assoc]; exact four_le (a 0) (d 1) (d 2) (d 3)
  | 1 => show (nuM M n r 1 * _).natAbs ≤ _; rw [Int.natAbs_mul, Int.natAbs_natCast]; exact Nat.le_trans (Nat.le_of_eq (by grind)) (four_le (d 0) (a 1) (d 2) (d 3))
  | 2 => show (nuM M n r 2 * _).natAbs ≤ _; rw [Int.natAbs_mul, Int.natAbs_natCast]; exact Nat.le_trans (Nat.le_of_eq (by grind)) (four_le (d 0) (d 1) (a 2) (d 3))
  | 3 => show (nuM M n r 3 * _).natAbs ≤ _; rw [Int.natAbs_mul, Int.natAbs_natCast]; exact Nat.le_trans (Nat.le_of_eq (by grind)) (four_le (d 0) (d 1) (d 2) (a 3))
  | c + 4 => show (0 : Int).natAbs ≤ _; simp
theorem row_frac {p d x y z : Rat} (hd : d ≠ 0) (hx : x ≠ 0) (hy : y ≠ 0) (hz : z ≠ 0) : p / d = p * (x * y * z) / (d * x * y * z) ∧ p / d = p * (x * y * z) / (x * d * y * z) ∧ p / d = p * (x * y * z) / (x * y * d * z) ∧ p / d = p * (x * y * z) / (x * y * z * d) := by
 refine ⟨?_, ?_, ?_, ?_⟩ <;> grind
theorem num_den (q : Rat) : q = (q.num : Rat) / ((q.den : Nat) : Rat) := by
 have e := Rat.mkRat_self q
 rw [Rat.mkRat_eq_div] at e
 exact e.symm
theorem is_M (M : Mx) {n : Nat} (h4 : n ≤ 4) (r c : Nat) (hr : r < n) (hc : c < n) : M r c = ((aM M n r c : Int) : Rat) / ((deR M n r : Nat) : Rat) := by
 have p : ∀ c, ((deM M n r c : Nat) : Rat) ≠ 0 := fun c => nat_ne (by have := deM_pos M n r c; omega)
 have e1 : ∀ c, c < n → nuM M n r c = (M r c).num := fun c hc => if_pos (by unfold inN; rw [decide_eq_true hr, decide_eq_true hc]; rfl)
 have e2 : ∀ c, c < n → deM M n r c = (M r c).den := fun c hc => if_pos (by unfold inN; rw [decide_eq_true hr, decide_eq_true hc]; rfl)
 have e3 : M r c = ((nuM M n r c : Int) : Rat) / ((deM M n r c : Nat) : Rat) := by rw [e1 c hc, e2 c hc]; exact num_den _
 unfold deR
 rw [e3]
 obtain rfl | rfl | rfl | rfl : c = 0 ∨ c = 1 ∨ c = 2 ∨ c = 3 := by omega
 ·show _ = ((nuM M n r 0 * _ : Int) : Rat) / _
  rw [Rat.intCast_mul, Rat.intCast_natCast]; simp only [Rat.natCast_mul]
  exact (row_frac (p 0) (p 1) (p 2) (p 3)).1
 ·show _ = ((nuM M n r 1 * _ : Int) : Rat) / _
  rw [Rat.intCast_mul, Rat.intCast_natCast]; simp only [Rat.natCast_mul]
  exact (row_frac (p 1) (p 0) (p 2) (p 3)).2.1
 ·show _ = ((nuM M n r 2 * _ : Int) : Rat) / _
  rw [Rat.intCast_mul, Rat.intCast_natCast]; simp only [Rat.natCast_mul]
  exact (row_frac (p 2) (p 0) (p 1) (p 3)).2.2.1
 ·show _ = ((nuM M n r 3 * _ : Int) : Rat) / _
  rw [Rat.intCast_mul, Rat.intCast_natCast]; simp only [Rat.natCast_mul]
  exact (row_frac (p 3) (p 0) (p 1) (p 2)).2.2.2
def matQ (qs : List Rat) (n : Nat) : Mx := fun r c => qs.getD (r * n + c) 0
theorem all_M (qs : List Rat) {n : Nat} (h4 : n ≤ 4) (hl : qs.length = n * n) : alR (matQ qs n) n 0 * alR (matQ qs n) n 1 * alR (matQ qs n) n 2 * alR (matQ qs n) n 3 = prodX (qs.map xq) := by
 obtain rfl | rfl | rfl | rfl | rfl : n = 0 ∨ n = 1 ∨ n = 2 ∨ n = 3 ∨ n = 4 := by omega
 ·obtain rfl : qs = [] := List.eq_nil_of_length_eq_zero hl
  rfl
 ·match qs, hl with
  | [a], _ => simp [alR, xM, inN, matQ, prodX]
 ·match qs, hl with
  | [a, b, c, d], _ => simp [alR, xM, inN, matQ, prodX]; grind
 ·match qs, hl with
  | [a, b, c, d, e, f, g, h, i], _ => simp [alR, xM, inN, matQ, prodX]; grind
 ·match qs, hl with
  | [a, b, c, d, e, f, g, h, i, j, k, l, m, n, o, p], _ => simp [alR, xM, inN, matQ, prodX]; grind
theorem El.light {n i : Nat} {m : Mx} {d : Rat} {qs : List Rat} (h : El n (matQ qs n) i m d) (h4 : n ≤ 4) (hl : qs.length = n * n) (h40 : (qs.map wq).sum ≤ 40) (hi : i < n) (hz : m i i ≠ 0) : ElFit n i m d := by
 have hR := rb_M (matQ qs n) n
 have hK : alR (matQ qs n) n 0 * alR (matQ qs n) n 1 * alR (matQ qs n) n 2 * alR (matQ qs n) n 3 ≤ 10 ^ 40 := by
  rw [all_M qs h4 hl]
  exact Nat.le_trans (prodX_le qs) (Nat.pow_le_pow_right (by decide) h40)
 refine h.fit h4 hi hz (K := 10 ^ 40) ⟨hR.pos, hR.abs, hK⟩ (is_M _ h4) (by decide) (by decide +kernel) (by decide +kernel) (by decide +kernel) (by decide +kernel)
theorem wq_two (q : Rat) : 2 ≤ wq q := by
 have h1 := dec_pos (up q)
 have h2 := dec_pos q.den
 unfold wq denText numText
 split
 ·simp; omega
 ·omega
theorem wq_sum : ∀ qs : List Rat, 2 * qs.length ≤ (qs.map wq).sum
 | [] => by decide
 | q :: l => by
  have := wq_two q
  have := wq_sum l
  simp; omega
end Num
namespace Num
open Go.RowKit Go.Lib
def numOr' (q : Rat) : Val := if fits q = true then numVal' q else faultVal' 5
def detWant (items : List Val) (rs : Int × Int) (q : Rat) : Val :=
 if codeOf items ≠ 0 then faultVal' (codeOf items) else if allNum items = true ∧ rs.1 = rs.2 then numOr' q else faultVal' 2
structure Square (a : Arg) (n : Nat) (qs : List Rat) : Prop where
 n1 : 1 ≤ n
 n5 : n ≤ 5
 rows : (sizeOf a.v).1 = (n : Int)
 len : qs.length = n * n
 items : NumItems a.items qs
 small : ∀ q ∈ qs, smallQ q
theorem up_small {q : Rat} (h : (numS q).size ≤ 30) : up q < 10 ^ 30 := by
 have h1 := dec_lt (up q)
 have h2 : (Lib.decDigits (up q)).length ≤ (numS q).size := by
  show _ ≤ (numText q).toArray.size
  rw [List.size_toArray]
  unfold numText; split
  ·simp
  ·exact Nat.le_refl _
 exact Nat.lt_of_lt_of_le h1 (Nat.pow_le_pow_right (by decide) (by omega))
theorem den_small {q : Rat} (h : (denS q).size ≤ 30) : q.den < 10 ^ 30 := by
 have h1 := dec_lt q.den
 have h2 : (Lib.decDigits q.den).length = (denS q).size := by
  show _ = (denText q).toArray.size
  rw [List.size_toArray]; rfl
 exact Nat.lt_of_lt_of_le h1 (Nat.pow_le_pow_right (by decide) (by omega))
theorem nums_of : ∀ (l : List Val), (∀ x ∈ l, SingleOk x ∧ x.k = 1 ∧ smallV x) → ∃ qs : List Rat, NumItems l qs ∧ ∀ q ∈ qs, smallQ q
 | [], _ => ⟨[], ⟨rfl, fun i h => absurd h (Nat.not_lt_zero i)⟩, fun q h => absurd h List.not_mem_nil⟩
 | x :: l, h => by
  obtain ⟨qs, ⟨h1, h2⟩, h3⟩ := nums_of l (fun y hy => h y (by simp [hy]))
  obtain ⟨hs, hk, hsm⟩ := h x (by simp)
  obtain ⟨q, A, C, hf, rfl⟩ := num_fields hs hk
  refine ⟨q :: qs, ⟨by simp [h1], fun i hi => ?_⟩, fun p hp => ?_⟩
  ·cases i with
   | zero => exact ⟨A, C, rfl⟩
   | succ i => exact h2 i (by simpa using hi)
  ·rcases List.mem_cons.1 hp with rfl | hp
   ·exact ⟨hf, up_small hsm.1, den_small hsm.2.1⟩
   ·exact h3 p hp
theorem single_items {a : Arg} (hv : ValOk a.v a.vs) : ∀ x ∈ a.items, SingleOk x := by
 unfold Arg.items itemsOf
 by_cases h5 : a.v.k = 5
 ·rw [if_pos h5]; exact hv.items h5
 ·rw [if_neg h5]
  intro x hx
  obtain rfl : x = a.v := by simpa using hx
  exact hv.single h5
theorem square_of {w : World} {a : Arg} (hok : ArgOk w a) (hv : ValOk a.v a.vs) (hfew : a.items.length ≤ 30) (hsm : ∀ x ∈ a.items, smallV x) (hn : allNum a.items = true) (hrs : (sizeOf a.v).1 = (sizeOf a.v).2) : ∃ n qs, Square a n qs := by
 obtain ⟨qs, h1, h2⟩ := nums_of a.items (fun x hx => ⟨single_items hv x hx, by have := List.all_eq_true.1 hn x hx; simpa using this, hsm x hx⟩)
 by_cases h5 : a.v.k = 5
 ·have hs := hv.size h5
  have hL := (hok.row h5).2
  have e1 : (sizeOf a.v).1 = a.v.r := by unfold sizeOf; rw [if_pos h5]
  have e2 : (sizeOf a.v).2 = a.v.s := by unfold sizeOf; rw [if_pos h5]
  have e3 : a.items = a.vs := by unfold Arg.items itemsOf; rw [if_pos h5]
  rw [e1, e2] at hrs
  obtain ⟨n, hn⟩ : ∃ n : Nat, a.v.r = (n : Int) := ⟨a.v.r.toNat, by omega⟩
  have hlen : a.items.length = n * n := by
   have h := hs.2.2.2.2
   rw [← hrs, hn, ← Int.natCast_mul] at h
   rw [e3, hL]
   exact (Int.ofNat_inj.1 h).symm
  refine ⟨n, qs, ⟨by omega, ?_, by rw [e1, hn], by rw [← h1.1, hlen], h1, h2⟩⟩
  rcases Nat.lt_or_ge 5 n with h | h
  ·exfalso
   have := Nat.mul_le_mul h h
   omega
  ·exact h
 ·have e1 : (sizeOf a.v).1 = 1 := by unfold sizeOf; rw [if_neg h5]
  have e3 : a.items.length = 1 := by unfold Arg.items itemsOf; rw [if_neg h5]; rfl
  exact ⟨1, qs, ⟨by decide, by decide, by rw [e1]; rfl, by rw [← h1.1, e3], h1, h2⟩⟩
theorem rmdet_any (a : Arg) (g ab C' : Nat) (q : Rat) (w : World) (hok : ArgOk w a) (hv : ValOk a.v a.vs) (hfew : a.items.length ≤ 30) (hsm : ∀ x ∈ a.items, smallV x) (hrow : ValsAt w g 0 [a.v])
  (hab : w.heap[ab]? = some (.cells #[.slice (some ⟨g, 0, none⟩) 1 C', .int .i64 0, .int .i64 0] 50 (0, 0)))
  (hq : ∀ n qs, Square a n qs → q = lap (matQ qs n) n n 0 0) (hE : EnvR w) :
  Calls Tryz.prog 21 #[.string ⟨#[77, 68, 69, 84, 69, 82, 77]⟩, .pointer (some ⟨ab, 0, none⟩)] w fun e w' => e = .returned (detWant a.items (sizeOf a.v) q).agg ∧ Below w.heap.size w w' := by
 have hcode : codeOf a.items = 0 ∨ codeOf a.items ≠ 0 := by omega
 have HOK := hid hok; have HV := hid hv; have HFEW := hid hfew; have HSM := hid hsm; have HQ := hid hq; have HE := hid hE
 have T1 := hid (fun W G hb (hva : ValsAt W G 0 [a.v]) => firstFault_any [a] (some ⟨G, 0, none⟩) 1 1 W rfl (by decide) (fun _ => ⟨G, 0, rfl, hva⟩) (fun x hx => by
  obtain rfl : x = a := by simpa using hx
  exact HOK.out.below hb) (fun x hx => by
  obtain rfl : x = a := by simpa using hx
  have := HFEW.out; omega))
 have T2 := hid (fun W => rsize_any a.v W)
 have T3 := hid (fun W hb => allNum_any a.v a.vs W (fun h5 => ((HOK.out.below hb).row h5).1) (fun h5 => (HOK.out.row h5).2) (by have := HFEW.out; unfold Arg.items at this; omega))
 have T4 := hid (fun W hb => ritems_any a.v a.vs W (fun h5 => ((HOK.out.below hb).row h5).1) (fun h5 => (HOK.out.row h5).2))
 have T6 := hid (fun W => rfault_any (codeOf a.items) W)
 have T7 := hid (fun W => rfault_any 2 W)
 rw [faultVal_is] at T6 T7
 unfold ItemsRet at T4
 have e1 : [a].flatMap Arg.items = a.items := by simp
 have e2 : itemsOf a.v a.vs = a.items := rfl
 rw [e1] at T1
 rw [e2] at T3 T4
 obtain ⟨its, hits⟩ : ∃ z, a.items = z := ⟨_, rfl⟩
 rw [hits] at T1 T3 T4 T6 hcode ⊢
 have HITS := hid hits
 obtain ⟨rs, hrs⟩ : ∃ z, sizeOf a.v = z := ⟨_, rfl⟩
 rw [hrs] at T2 ⊢
 have HRS := hid hrs
 obtain ⟨code, hcd⟩ : ∃ z, codeOf its = z := ⟨_, rfl⟩
 rw [hcd] at T1 T6 hcode
 have HCD := hid hcd
 obtain ⟨an, han⟩ : ∃ z, allNum its = z := ⟨_, rfl⟩
 rw [han] at T3
 have HAN := hid han
 obtain ⟨vv, hvv⟩ : ∃ z, a.v = z := ⟨_, rfl⟩
 rw [hvv] at T1 T2 T3 T4 hrow
 have HVV := hid hvv
 obtain ⟨vk, vn, vd, vt, vo, vc, vr, vz, vA, vL, vC⟩ := vv
 have e0 : Val.agg ⟨vk, vn, vd, vt, vo, vc, vr, vz, vA, vL, vC⟩ = .agg #[.int .i64 vk, .string vn, .string vd, .string vt, .bool vo, .int .i64 vc, .int .i64 vr, .int .i64 vz, .slice vA vL vC] := rfl
 simp only [e0] at T2 T3 T4
 obtain ⟨hR, hb⟩ := rone_new w (.cells #[.int .i64 0, .string ⟨#[]⟩, .string ⟨#[]⟩, .string ⟨#[]⟩, .bool false, .int .i64 0, .int .i64 0, .int .i64 0, .slice none 0 0] 32)
 have HR := hid hR
 have HL := hid hb
 have HAB := hid (keep_block hab hb)
 have HRW := hid (hrow.below hb)
 clear hR hb hab hrow hok hv hfew hsm hq hE hits hrs hcd han hvv e0 e1 e2
 obtain ⟨W0, hW0⟩ : ∃ W0, w.alloc (.cells #[.int .i64 0, .string ⟨#[]⟩, .string ⟨#[]⟩, .string ⟨#[]⟩, .bool false, .int .i64 0, .int .i64 0, .int .i64 0, .slice none 0 0] 32) = W0 := ⟨_, rfl⟩
 rw [hW0] at HR HL HAB HRW
 have HW := hid hW0
 clear hW0
 go_enter Tryz.func21, Tryz.ntmps21
 go_upto_region 97 with fail
 rw [HW.out]
 obtain ⟨⟨s0, s1, s2⟩, _⟩ := three_at HAB.out
 obtain ⟨c0, c1, c2, c3, c4, c5, c6, c7, c8⟩ := (show CellsAt W0 g 0 (.int .i64 vk) (.string vn) (.string vd) (.string vt) (.bool vo) (.int .i64 vc) (.int .i64 vr) (.int .i64 vz) (.slice vA vL vC) from HRW.out.at 0 (by simp))
 go_wp2_with fail
 have hbX : Below W0.heap.size W0 (W0.alloc (.cells #[.int .i64 vk, .string vn, .string vd, .string vt, .bool vo, .int .i64 vc, .int .i64 vr, .int .i64 vz, .slice vA vL vC] 32)) := (Below.refl _ _).alloc (Nat.le_refl _) _
 refine (T1.out _ _ (HL.out.trans (hbX.mono HL.out.size)) (vals_one ⟨vk, vn, vd, vt, vo, vc, vr, vz, vA, vL, vC⟩ (heap_alloc_new W0 (.cells #[.int .i64 vk, .string vn, .string vd, .string vt, .bool vo, .int .i64 vc, .int .i64 vr, .int .i64 vz, .slice vA vL vC] 32)))).mono ?_
 rintro e w1 ⟨rfl, hb⟩
 replace HR := hid (keep_block (keep_block HR.out hbX) hb)
 replace HAB := hid (keep_block (keep_block HAB.out hbX) hb)
 replace HRW := hid ((HRW.out.below hbX).below hb)
 replace HL := hid ((HL.out.trans (hbX.mono HL.out.size)).trans (hb.mono (HL.out.trans (hbX.mono HL.out.size)).size))
 clear hb hbX s0 s1 s2 c0 c1 c2 c3 c4 c5 c6 c7 c8
 rcases hcode with hc | hc
 ·subst hc
  obtain ⟨⟨s0, s1, s2⟩, _⟩ := three_at HAB.out
  obtain ⟨c0, c1, c2, c3, c4, c5, c6, c7, c8⟩ := (show CellsAt w1 g 0 (.int .i64 vk) (.string vn) (.string vd) (.string vt) (.bool vo) (.int .i64 vc) (.int .i64 vr) (.int .i64 vz) (.slice vA vL vC) from HRW.out.at 0 (by simp))
  go_wp2_with fail
  refine (T2.out _).mono ?_
  rintro e w2 ⟨rfl, hb⟩
  replace HR := hid (keep_block HR.out hb)
  replace HAB := hid (keep_block HAB.out hb)
  replace HRW := hid (HRW.out.below hb)
  replace HL := hid (HL.out.trans (hb.mono HL.out.size))
  clear hb s0 s1 s2 c0 c1 c2 c3 c4 c5 c6 c7 c8
  obtain ⟨⟨s0, s1, s2⟩, _⟩ := three_at HAB.out
  obtain ⟨c0, c1, c2, c3, c4, c5, c6, c7, c8⟩ := (show CellsAt w2 g 0 (.int .i64 vk) (.string vn) (.string vd) (.string vt) (.bool vo) (.int .i64 vc) (.int .i64 vr) (.int .i64 vz) (.slice vA vL vC) from HRW.out.at 0 (by simp))
  obtain ⟨r0, r1⟩ := rs
  go_wp2_with fail
  refine (T3.out _ HL.out).mono ?_
  rintro e w3 ⟨rfl, hb⟩
  replace HR := hid (keep_block HR.out hb)
  replace HAB := hid (keep_block HAB.out hb)
  replace HRW := hid (HRW.out.below hb)
  replace HL := hid (HL.out.trans (hb.mono HL.out.size))
  clear hb s0 s1 s2 c0 c1 c2 c3 c4 c5 c6 c7 c8
  have HC0 := hid HCD.out
  by_cases hsq : an = true ∧ r0 = r1
  ·obtain ⟨han, hrr⟩ := hsq
   subst han
   subst hrr
   obtain ⟨n, qs, hs⟩ := square_of HOK.out HV.out HFEW.out HSM.out (by rw [HITS.out]; exact HAN.out) (by rw [HRS.out])
   have hrn : r0 = (n : Int) := by have := hs.rows; rw [HRS.out] at this; exact this
   subst hrn
   have HQE := hid (HQ.out n qs hs)
   have hil : its.length = n * n := by rw [← HITS.out, hs.items.1, hs.len]
   have HIT2 := hid hs.items
   rw [HITS.out] at HIT2
   have TD := hid (fun W G O C'' hva => rdet_any its qs n (n * n) G O C'' (matQ qs n) hs.n1 hs.n5 rfl HIT2.out hs.len (fun r c _ _ => rfl) (fun r c hr hc => by
    have hlt : r * n + c < qs.length := by
     rw [hs.len]
     have := Nat.mul_le_mul_right n (show r + 1 ≤ n by omega)
     rw [Nat.succ_mul] at this
     omega
    show smallQ (qs.getD (r * n + c) 0)
    rw [List.getD_eq_getElem?_getD, List.getElem?_eq_getElem hlt]
    exact hs.small _ (List.getElem_mem hlt)) n 0 0 W (by omega) (by decide) hva)
   have hD := DB_le hs.n5
   have TN := hid (fun v W h => rq_number v q (DB n) W h (by omega))
   rw [← HQE.out] at TD
   rw [hil] at T4
   have HWANT := hid (show detWant its (((n : Nat) : Int), ((n : Nat) : Int)) q = numOr' q by unfold detWant; rw [if_neg (by rw [HC0.out]; decide), if_pos ⟨HAN.out, rfl⟩])
   have hn12 : decide ((12 : Int) < (n : Int)) = false := decide_eq_false (by have := hs.n5; omega)
   have hn13 : decide ((n : Int) > (12 : Int)) = false := decide_eq_false (by have := hs.n5; omega)
   have hnn : ((n : Int) != (n : Int)) = false := by simp
   have hnz : 0 < n * n := Nat.mul_pos hs.n1 hs.n1
   have HNZ := hid hnz
   obtain ⟨⟨s0, s1, s2⟩, _⟩ := three_at HAB.out
   obtain ⟨c0, c1, c2, c3, c4, c5, c6, c7, c8⟩ := (show CellsAt w3 g 0 (.int .i64 vk) (.string vn) (.string vd) (.string vt) (.bool vo) (.int .i64 vc) (.int .i64 vr) (.int .i64 vz) (.slice vA vL vC) from HRW.out.at 0 (by simp))
   clear hs hil hD hnz
   go_wp2_with fail
   refine (T4.out _ HL.out).mono ?_
   rintro e w4 ⟨iA, iC, rfl, hb, hiv⟩
   obtain ⟨G, O, hge, hva⟩ := hiv HNZ.out
   subst hge
   replace HR := hid (keep_block HR.out hb)
   replace HAB := hid (keep_block HAB.out hb)
   replace HRW := hid (HRW.out.below hb)
   replace HL := hid (HL.out.trans (hb.mono HL.out.size))
   clear hb s0 s1 s2 c0 c1 c2 c3 c4 c5 c6 c7 c8
   go_wp2_with fail
   refine (TD.out _ _ _ _ hva).mono ?_
   rintro e w5 ⟨m5, A5, L5, C5, B5, E5, D5, rfl, hq5, hb⟩
   replace HR := hid (keep_block HR.out hb)
   replace HAB := hid (keep_block HAB.out hb)
   replace HRW := hid (HRW.out.below hb)
   replace HL := hid (HL.out.trans (hb.mono HL.out.size))
   clear hb
   go_wp2_with fail
   refine (TN.out _ _ hq5).mono ?_
   rintro e w6 ⟨rfl, hb⟩
   replace HR := hid (keep_block HR.out hb)
   replace HAB := hid (keep_block HAB.out hb)
   replace HRW := hid (HRW.out.below hb)
   replace HL := hid (HL.out.trans (hb.mono HL.out.size))
   clear hb
   clear hq5 hva
   by_cases hf : fits q = true
   ·have hno : numOr q = .agg #[.int .i64 1, .string (numS q), .string (denS q), .string ⟨#[]⟩, .bool false, .int .i64 0, .int .i64 0, .int .i64 0, .slice none 0 0] := by unfold numOr; rw [if_pos hf]; rfl
    have HW2 := hid (show detWant its (((n : Nat) : Int), ((n : Nat) : Int)) q = numVal' q by rw [HWANT.out]; unfold numOr'; rw [if_pos hf])
    rw [hno]
    clear hno hf
    have hs9 := set9_at HR.out (.int .i64 1) (.string (numS q)) (.string (denS q)) (.string ⟨#[]⟩) (.bool false) (.int .i64 0) (.int .i64 0) (.int .i64 0) (.slice none 0 0)
    obtain ⟨⟨e0, e1, e2, e3, e4, e5, e6, e7, e8⟩, _⟩ := nine_at hs9
    have HEND := hid (((((((((HL.out.setCell (p := ⟨w.heap.size, 0, none⟩) (Nat.le_refl _) (.int .i64 1)).setCell (p := ⟨w.heap.size, 1, none⟩) (Nat.le_refl _) (.string (numS q))).setCell (p := ⟨w.heap.size, 2, none⟩) (Nat.le_refl _) (.string (denS q))).setCell (p := ⟨w.heap.size, 3, none⟩) (Nat.le_refl _) (.string ⟨#[]⟩)).setCell (p := ⟨w.heap.size, 4, none⟩) (Nat.le_refl _) (.bool false)).setCell (p := ⟨w.heap.size, 5, none⟩) (Nat.le_refl _) (.int .i64 0)).setCell (p := ⟨w.heap.size, 6, none⟩) (Nat.le_refl _) (.int .i64 0)).setCell (p := ⟨w.heap.size, 7, none⟩) (Nat.le_refl _) (.int .i64 0)).setCell (p := ⟨w.heap.size, 8, none⟩) (Nat.le_refl _) (.slice none 0 0))
    clear hs9
    obtain ⟨⟨r0, r1, r2, r3, r4, r5, r6, r7, r8⟩, rf0, rf1, rf2, rf3, rf4, rf5, rf6, rf7, rf8⟩ := nine_at HR.out
    go_wp2
    refine bodyPost_ret (v := .agg #[.int .i64 1, .string (numS q), .string (denS q), .string ⟨#[]⟩, .bool false, .int .i64 0, .int .i64 0, .int .i64 0, .slice none 0 0]) (by simp [results, Tryz.results21, go_sem, e0, e1, e2, e3, e4, e5, e6, e7, e8]) rfl ⟨by rw [HW2.out]; rfl, HEND.out⟩
   ·have hno : numOr q = .agg #[.int .i64 4, .string ⟨#[]⟩, .string ⟨#[]⟩, .string ⟨#[]⟩, .bool false, .int .i64 5, .int .i64 0, .int .i64 0, .slice none 0 0] := by unfold numOr; rw [if_neg hf, faultVal_is]
    have HW2 := hid (show detWant its (((n : Nat) : Int), ((n : Nat) : Int)) q = faultVal' 5 by rw [HWANT.out]; unfold numOr'; rw [if_neg hf])
    rw [hno]
    clear hno hf
    have hs9 := set9_at HR.out (.int .i64 4) (.string ⟨#[]⟩) (.string ⟨#[]⟩) (.string ⟨#[]⟩) (.bool false) (.int .i64 5) (.int .i64 0) (.int .i64 0) (.slice none 0 0)
    obtain ⟨⟨e0, e1, e2, e3, e4, e5, e6, e7, e8⟩, _⟩ := nine_at hs9
    have HEND := hid (((((((((HL.out.setCell (p := ⟨w.heap.size, 0, none⟩) (Nat.le_refl _) (.int .i64 4)).setCell (p := ⟨w.heap.size, 1, none⟩) (Nat.le_refl _) (.string ⟨#[]⟩)).setCell (p := ⟨w.heap.size, 2, none⟩) (Nat.le_refl _) (.string ⟨#[]⟩)).setCell (p := ⟨w.heap.size, 3, none⟩) (Nat.le_refl _) (.string ⟨#[]⟩)).setCell (p := ⟨w.heap.size, 4, none⟩) (Nat.le_refl _) (.bool false)).setCell (p := ⟨w.heap.size, 5, none⟩) (Nat.le_refl _) (.int .i64 5)).setCell (p := ⟨w.heap.size, 6, none⟩) (Nat.le_refl _) (.int .i64 0)).setCell (p := ⟨w.heap.size, 7, none⟩) (Nat.le_refl _) (.int .i64 0)).setCell (p := ⟨w.heap.size, 8, none⟩) (Nat.le_refl _) (.slice none 0 0))
    clear hs9
    obtain ⟨⟨r0, r1, r2, r3, r4, r5, r6, r7, r8⟩, rf0, rf1, rf2, rf3, rf4, rf5, rf6, rf7, rf8⟩ := nine_at HR.out
    go_wp2
    refine bodyPost_ret (v := .agg #[.int .i64 4, .string ⟨#[]⟩, .string ⟨#[]⟩, .string ⟨#[]⟩, .bool false, .int .i64 5, .int .i64 0, .int .i64 0, .slice none 0 0]) (by simp [results, Tryz.results21, go_sem, e0, e1, e2, e3, e4, e5, e6, e7, e8]) rfl ⟨by rw [HW2.out]; rfl, HEND.out⟩
  ·have HWANT := hid (show detWant its (r0, r1) q = faultVal' 2 by unfold detWant; rw [if_neg (by rw [HC0.out]; decide), if_neg (by rw [HAN.out]; exact hsq)])
   cases an with
   | false =>
    clear hsq
    go_wp2_with fail
    refine (T7.out _).mono ?_
    rintro e w4 ⟨rfl, hb⟩
    replace HR := hid (keep_block HR.out hb)
    replace HAB := hid (keep_block HAB.out hb)
    replace HRW := hid (HRW.out.below hb)
    replace HL := hid (HL.out.trans (hb.mono HL.out.size))
    clear hb
    have hs9 := set9_at HR.out (.int .i64 4) (.string ⟨#[]⟩) (.string ⟨#[]⟩) (.string ⟨#[]⟩) (.bool false) (.int .i64 2) (.int .i64 0) (.int .i64 0) (.slice none 0 0)
    obtain ⟨⟨e0, e1, e2, e3, e4, e5, e6, e7, e8⟩, _⟩ := nine_at hs9
    have HEND := hid (((((((((HL.out.setCell (p := ⟨w.heap.size, 0, none⟩) (Nat.le_refl _) (.int .i64 4)).setCell (p := ⟨w.heap.size, 1, none⟩) (Nat.le_refl _) (.string ⟨#[]⟩)).setCell (p := ⟨w.heap.size, 2, none⟩) (Nat.le_refl _) (.string ⟨#[]⟩)).setCell (p := ⟨w.heap.size, 3, none⟩) (Nat.le_refl _) (.string ⟨#[]⟩)).setCell (p := ⟨w.heap.size, 4, none⟩) (Nat.le_refl _) (.bool false)).setCell (p := ⟨w.heap.size, 5, none⟩) (Nat.le_refl _) (.int .i64 2)).setCell (p := ⟨w.heap.size, 6, none⟩) (Nat.le_refl _) (.int .i64 0)).setCell (p := ⟨w.heap.size, 7, none⟩) (Nat.le_refl _) (.int .i64 0)).setCell (p := ⟨w.heap.size, 8, none⟩) (Nat.le_refl _) (.slice none 0 0))
    clear hs9
    obtain ⟨⟨r0, r1, r2, r3, r4, r5, r6, r7, r8⟩, rf0, rf1, rf2, rf3, rf4, rf5, rf6, rf7, rf8⟩ := nine_at HR.out
    go_wp2
    refine bodyPost_ret (v := .agg #[.int .i64 4, .string ⟨#[]⟩, .string ⟨#[]⟩, .string ⟨#[]⟩, .bool false, .int .i64 2, .int .i64 0, .int .i64 0, .slice none 0 0]) (by simp [results, Tryz.results21, go_sem, e0, e1, e2, e3, e4, e5, e6, e7, e8]) rfl ⟨by rw [HWANT.out]; rfl, HEND.out⟩
   | true =>
    have hne : r0 ≠ r1 := fun e => hsq ⟨rfl, e⟩
    have q1 : (r0 == r1) = false := by rw [beq_eq_false_iff_ne]; exact hne
    have q2 : (r0 != r1) = true := by rw [bne_iff_ne]; exact hne
    clear hsq hne
    go_wp2_with fail
    refine (T7.out _).mono ?_
    rintro e w4 ⟨rfl, hb⟩
    replace HR := hid (keep_block HR.out hb)
    replace HAB := hid (keep_block HAB.out hb)
    replace HRW := hid (HRW.out.below hb)
    replace HL := hid (HL.out.trans (hb.mono HL.out.size))
    clear hb
    have hs9 := set9_at HR.out (.int .i64 4) (.string ⟨#[]⟩) (.string ⟨#[]⟩) (.string ⟨#[]⟩) (.bool false) (.int .i64 2) (.int .i64 0) (.int .i64 0) (.slice none 0 0)
    obtain ⟨⟨e0, e1, e2, e3, e4, e5, e6, e7, e8⟩, _⟩ := nine_at hs9
    have HEND := hid (((((((((HL.out.setCell (p := ⟨w.heap.size, 0, none⟩) (Nat.le_refl _) (.int .i64 4)).setCell (p := ⟨w.heap.size, 1, none⟩) (Nat.le_refl _) (.string ⟨#[]⟩)).setCell (p := ⟨w.heap.size, 2, none⟩) (Nat.le_refl _) (.string ⟨#[]⟩)).setCell (p := ⟨w.heap.size, 3, none⟩) (Nat.le_refl _) (.string ⟨#[]⟩)).setCell (p := ⟨w.heap.size, 4, none⟩) (Nat.le_refl _) (.bool false)).setCell (p := ⟨w.heap.size, 5, none⟩) (Nat.le_refl _) (.int .i64 2)).setCell (p := ⟨w.heap.size, 6, none⟩) (Nat.le_refl _) (.int .i64 0)).setCell (p := ⟨w.heap.size, 7, none⟩) (Nat.le_refl _) (.int .i64 0)).setCell (p := ⟨w.heap.size, 8, none⟩) (Nat.le_refl _) (.slice none 0 0))
    clear hs9
    obtain ⟨⟨r0, r1, r2, r3, r4, r5, r6, r7, r8⟩, rf0, rf1, rf2, rf3, rf4, rf5, rf6, rf7, rf8⟩ := nine_at HR.out
    go_wp2
    refine bodyPost_ret (v := .agg #[.int .i64 4, .string ⟨#[]⟩, .string ⟨#[]⟩, .string ⟨#[]⟩, .bool false, .int .i64 2, .int .i64 0, .int .i64 0, .slice none 0 0]) (by simp [results, Tryz.results21, go_sem, e0, e1, e2, e3, e4, e5, e6, e7, e8]) rfl ⟨by rw [HWANT.out]; rfl, HEND.out⟩
 ·have q1 : (code == 0) = false := by rw [beq_eq_false_iff_ne]; exact hc
  have q2 : (code != 0) = true := by rw [bne_iff_ne]; exact hc
  have HWANT := hid (show detWant its rs q = faultVal' code by unfold detWant; rw [HCD.out, if_pos hc])
  clear hc
  go_wp2_with fail
  refine (T6.out _).mono ?_
  rintro e w2 ⟨rfl, hb⟩
  replace HR := hid (keep_block HR.out hb)
  replace HL := hid (HL.out.trans (hb.mono HL.out.size))
  clear hb
  have hs9 := set9_at HR.out (.int .i64 4) (.string ⟨#[]⟩) (.string ⟨#[]⟩) (.string ⟨#[]⟩) (.bool false) (.int .i64 code) (.int .i64 0) (.int .i64 0) (.slice none 0 0)
  obtain ⟨⟨e0, e1, e2, e3, e4, e5, e6, e7, e8⟩, _⟩ := nine_at hs9
  have HEND := hid (((((((((HL.out.setCell (p := ⟨w.heap.size, 0, none⟩) (Nat.le_refl _) (.int .i64 4)).setCell (p := ⟨w.heap.size, 1, none⟩) (Nat.le_refl _) (.string ⟨#[]⟩)).setCell (p := ⟨w.heap.size, 2, none⟩) (Nat.le_refl _) (.string ⟨#[]⟩)).setCell (p := ⟨w.heap.size, 3, none⟩) (Nat.le_refl _) (.string ⟨#[]⟩)).setCell (p := ⟨w.heap.size, 4, none⟩) (Nat.le_refl _) (.bool false)).setCell (p := ⟨w.heap.size, 5, none⟩) (Nat.le_refl _) (.int .i64 code)).setCell (p := ⟨w.heap.size, 6, none⟩) (Nat.le_refl _) (.int .i64 0)).setCell (p := ⟨w.heap.size, 7, none⟩) (Nat.le_refl _) (.int .i64 0)).setCell (p := ⟨w.heap.size, 8, none⟩) (Nat.le_refl _) (.slice none 0 0))
  clear hs9
  obtain ⟨⟨r0, r1, r2, r3, r4, r5, r6, r7, r8⟩, rf0, rf1, rf2, rf3, rf4, rf5, rf6, rf7, rf8⟩ := nine_at HR.out
  go_wp2
  refine bodyPost_ret (v := .agg #[.int .i64 4, .string ⟨#[]⟩, .string ⟨#[]⟩, .string ⟨#[]⟩, .bool false, .int .i64 code, .int .i64 0, .int .i64 0, .slice none 0 0]) (by simp [results, Tryz.results21, go_sem, e0, e1, e2, e3, e4, e5, e6, e7, e8]) rfl ⟨by rw [HWANT.out]; rfl, HEND.out⟩
end Num
end Go.Proofs.YtjcdeeahjkfmoaaGreatDoor
