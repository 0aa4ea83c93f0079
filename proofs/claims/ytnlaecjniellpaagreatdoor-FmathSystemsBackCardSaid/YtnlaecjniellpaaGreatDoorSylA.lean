/- Numbers as texts of digits, fractions, values and the functions of fmath: contracts of the program's functions, joined from smaller texts. Conditions stand at each theorem. -/
import Derived.Test.YtnlaecjniellpaaGreatDoorSyaA
import Derived.Test.YtnlaecjniellpaaGreatDoorSyrA
import Derived.Deep.RegionLaw
import Derived.Test.YtnlaecjniellpaaGreatDoorSysA
import Derived.Test.YtnlaecjniellpaaGreatDoorSyfA
import Derived.Test.YtnlaecjniellpaaGreatDoorNumH

/- The law FmathSystemsBack's own walk. Conditions: what the functions give; the tables lie as they are laid. -/
set_option linter.unusedVariables false
set_option linter.unusedSimpArgs false
namespace Go.Proofs.YtnlaecjniellpaaGreatDoor.Num.Mt
open Go.RowKit Go.Lib Num
attribute [local irreducible] wpOp
set_option linter.unusedVariables false in
/-- what the operations of region 5 yield -/
def SwKs5 (nq kq rq : Rat) (n k m r B7 B8 B9 : Nat) (B L R : ByteArray) : List RK :=
  [.pure (.pointer (some ⟨B7, 3, none⟩)),
   .pure (.string B),
   .pure (.int .i64 (B.size : Int)),
   .pure (.int .i64 (m : Int)),
   .pure (.bool true),
   .pure (.bool true),
   .pure (.pointer (some ⟨B7, 0, none⟩)),
   .pure (.int .i64 2),
   .pure (.bool true),
   .pure (.bool true),
   .pure (.bool true),
   .pure (.agg #[.int .i64 2, .string { data := #[] }, .string { data := #[] }, .string B, .bool false, .int .i64 0, .int .i64 0, .int .i64 0, .slice none 0 0]),
   .pure (.int .i64 (k : Int)),
   .pure (.agg #[.int .i64 1, .string (numS kq), .string (denS kq), .string { data := #[] }, .bool false, .int .i64 0, .int .i64 0, .int .i64 0, .slice none 0 0]),
   .row #[.int .i64 2, .string { data := #[] }, .string { data := #[] }, .string B, .bool false, .int .i64 0, .int .i64 0, .int .i64 0, .slice none 0 0, .int .i64 1, .string (numS kq), .string (denS kq), .string { data := #[] }, .bool false, .int .i64 0, .int .i64 0, .int .i64 0, .slice none 0 0] 27 2,
   .pure (.agg #[.int .i64 1, .string (numS nq), .string (denS nq), .string { data := #[] }, .bool false, .int .i64 0, .int .i64 0, .int .i64 0, .slice none 0 0]),
   .pure (.int .i64 (n : Int)),
   .pure (.agg #[.int .i64 1, .string (numS nq), .string (denS nq), .string { data := #[] }, .bool false, .int .i64 0, .int .i64 0, .int .i64 0, .slice none 0 0]),
   .pure (.bool true),
   .pure (.bool true),
   .pure (.bool true),
   .pure (.agg #[.int .i64 2, .string { data := #[] }, .string { data := #[] }, .string L, .bool false, .int .i64 0, .int .i64 0, .int .i64 0, .slice none 0 0]),
   .pure (.int .i64 (k : Int)),
   .pure (.agg #[.int .i64 1, .string (numS kq), .string (denS kq), .string { data := #[] }, .bool false, .int .i64 0, .int .i64 0, .int .i64 0, .slice none 0 0]),
   .row #[.int .i64 2, .string { data := #[] }, .string { data := #[] }, .string L, .bool false, .int .i64 0, .int .i64 0, .int .i64 0, .slice none 0 0, .int .i64 1, .string (numS kq), .string (denS kq), .string { data := #[] }, .bool false, .int .i64 0, .int .i64 0, .int .i64 0, .slice none 0 0] 27 2,
   .pure (.agg #[.int .i64 1, .string (numS nq), .string (denS nq), .string { data := #[] }, .bool false, .int .i64 0, .int .i64 0, .int .i64 0, .slice none 0 0]),
   .pure (.int .i64 (n : Int)),
   .pure (.agg #[.int .i64 1, .string (numS nq), .string (denS nq), .string { data := #[] }, .bool false, .int .i64 0, .int .i64 0, .int .i64 0, .slice none 0 0]),
   .pure (.bool true),
   .pure (.bool true),
   .pure (.bool true),
   .pure (.agg #[.int .i64 2, .string { data := #[] }, .string { data := #[] }, .string R, .bool false, .int .i64 0, .int .i64 0, .int .i64 0, .slice none 0 0]),
   .row #[.int .i64 2, .string { data := #[] }, .string { data := #[] }, .string R, .bool false, .int .i64 0, .int .i64 0, .int .i64 0, .slice none 0 0] 27 1,
   .pure (.agg #[.int .i64 1, .string (numS rq), .string (denS rq), .string { data := #[] }, .bool false, .int .i64 0, .int .i64 0, .int .i64 0, .slice none 0 0]),
   .pure (.int .i64 (n : Int)),
   .pure (.int .i64 (r : Int)),
   .pure (.agg #[.int .i64 1, .string (numS rq), .string (denS rq), .string { data := #[] }, .bool false, .int .i64 0, .int .i64 0, .int .i64 0, .slice none 0 0]),
   .pure (.bool true),
   .pure (.bool true),
   .pure (.bool true)]
set_option maxHeartbeats 8000000 in
set_option maxRecDepth 100000 in
theorem sys_law (n0 k0 m0 : Int) (n k m r : Nat) (nq kq mq rq : Rat) (B L R : ByteArray) (w : World) (hE : Env w)
    (hn9 : n < 1000000)
    (hk2 : 2 ≤ k)
    (hk36 : k ≤ 36)
    (hr : n % 4000 = r)
    (tMn : ∀ W, Calls Tryz.prog 4 #[.int .i64 n0, .int .i64 1000000] W fun e w' => e = .returned (.int .i64 (n : Int)) ∧ w' = W)
    (tMk : ∀ W, Calls Tryz.prog 4 #[.int .i64 k0, .int .i64 35] W fun e w' => e = .returned (.int .i64 ((k : Int) - 2)) ∧ w' = W)
    (tMm : ∀ W, Calls Tryz.prog 4 #[.int .i64 m0, .int .i64 30] W fun e w' => e = .returned (.int .i64 (m : Int)) ∧ w' = W)
    (tWn : ∀ W, Env W → Calls Tryz.prog 6 #[.int .i64 (n : Int)] W fun e w' => e = .returned (.agg #[.int .i64 1, .string (numS nq), .string (denS nq), .string { data := #[] }, .bool false, .int .i64 0, .int .i64 0, .int .i64 0, .slice none 0 0]) ∧ Below W.heap.size W w')
    (tWk : ∀ W, Env W → Calls Tryz.prog 6 #[.int .i64 (k : Int)] W fun e w' => e = .returned (.agg #[.int .i64 1, .string (numS kq), .string (denS kq), .string { data := #[] }, .bool false, .int .i64 0, .int .i64 0, .int .i64 0, .slice none 0 0]) ∧ Below W.heap.size W w')
    (tWm : ∀ W, Env W → Calls Tryz.prog 6 #[.int .i64 (m : Int)] W fun e w' => e = .returned (.agg #[.int .i64 1, .string (numS mq), .string (denS mq), .string { data := #[] }, .bool false, .int .i64 0, .int .i64 0, .int .i64 0, .slice none 0 0]) ∧ Below W.heap.size W w')
    (tWr : ∀ W, Env W → Calls Tryz.prog 6 #[.int .i64 (r : Int)] W fun e w' => e = .returned (.agg #[.int .i64 1, .string (numS rq), .string (denS rq), .string { data := #[] }, .bool false, .int .i64 0, .int .i64 0, .int .i64 0, .slice none 0 0]) ∧ Below W.heap.size W w')
    (pB : ∀ (W : World) (G : Nat), W.heap[G]? = some (.cells #[.int .i64 1, .string (numS nq), .string (denS nq), .string { data := #[] }, .bool false, .int .i64 0, .int .i64 0, .int .i64 0, .slice none 0 0, .int .i64 1, .string (numS kq), .string (denS kq), .string { data := #[] }, .bool false, .int .i64 0, .int .i64 0, .int .i64 0, .slice none 0 0, .int .i64 1, .string (numS mq), .string (denS mq), .string { data := #[] }, .bool false, .int .i64 0, .int .i64 0, .int .i64 0, .slice none 0 0] 27 (0, 0)) → Env W → Calls Tryz.prog 5 #[.string { data := #[66, 65, 83, 69] }, .slice (some ⟨G, 0, none⟩) 3 3] W fun e w' => e = .returned (.agg #[.int .i64 2, .string { data := #[] }, .string { data := #[] }, .string B, .bool false, .int .i64 0, .int .i64 0, .int .i64 0, .slice none 0 0]) ∧ Below W.heap.size W w')
    (pR : ∀ (W : World) (G : Nat), W.heap[G]? = some (.cells #[.int .i64 1, .string (numS rq), .string (denS rq), .string { data := #[] }, .bool false, .int .i64 0, .int .i64 0, .int .i64 0, .slice none 0 0] 27 (0, 0)) → Env W → Calls Tryz.prog 5 #[.string { data := #[82, 79, 77, 65, 78] }, .slice (some ⟨G, 0, none⟩) 1 1] W fun e w' => e = .returned (.agg #[.int .i64 2, .string { data := #[] }, .string { data := #[] }, .string R, .bool false, .int .i64 0, .int .i64 0, .int .i64 0, .slice none 0 0]) ∧ Below W.heap.size W w')
    (pL : ∀ (W : World) (G : Nat), W.heap[G]? = some (.cells #[.int .i64 2, .string { data := #[] }, .string { data := #[] }, .string B, .bool false, .int .i64 0, .int .i64 0, .int .i64 0, .slice none 0 0] 27 (0, 0)) → Env W → Calls Tryz.prog 7 #[.string { data := #[76, 79, 87, 69, 82] }, .slice (some ⟨G, 0, none⟩) 1 1] W fun e w' => e = .returned (.tuple #[.agg #[.int .i64 2, .string { data := #[] }, .string { data := #[] }, .string L, .bool false, .int .i64 0, .int .i64 0, .int .i64 0, .slice none 0 0], .int .i64 0]) ∧ Below W.heap.size W w')
    (pD : ∀ (W : World) (G : Nat), W.heap[G]? = some (.cells #[.int .i64 2, .string { data := #[] }, .string { data := #[] }, .string B, .bool false, .int .i64 0, .int .i64 0, .int .i64 0, .slice none 0 0, .int .i64 1, .string (numS kq), .string (denS kq), .string { data := #[] }, .bool false, .int .i64 0, .int .i64 0, .int .i64 0, .slice none 0 0] 27 (0, 0)) → Env W → Calls Tryz.prog 5 #[.string { data := #[68, 69, 67, 73, 77, 65, 76] }, .slice (some ⟨G, 0, none⟩) 2 2] W fun e w' => e = .returned (.agg #[.int .i64 1, .string (numS nq), .string (denS nq), .string { data := #[] }, .bool false, .int .i64 0, .int .i64 0, .int .i64 0, .slice none 0 0]) ∧ Below W.heap.size W w')
    (pE : ∀ (W : World) (G : Nat), W.heap[G]? = some (.cells #[.int .i64 2, .string { data := #[] }, .string { data := #[] }, .string L, .bool false, .int .i64 0, .int .i64 0, .int .i64 0, .slice none 0 0, .int .i64 1, .string (numS kq), .string (denS kq), .string { data := #[] }, .bool false, .int .i64 0, .int .i64 0, .int .i64 0, .slice none 0 0] 27 (0, 0)) → Env W → Calls Tryz.prog 5 #[.string { data := #[68, 69, 67, 73, 77, 65, 76] }, .slice (some ⟨G, 0, none⟩) 2 2] W fun e w' => e = .returned (.agg #[.int .i64 1, .string (numS nq), .string (denS nq), .string { data := #[] }, .bool false, .int .i64 0, .int .i64 0, .int .i64 0, .slice none 0 0]) ∧ Below W.heap.size W w')
    (pA : ∀ (W : World) (G : Nat), W.heap[G]? = some (.cells #[.int .i64 2, .string { data := #[] }, .string { data := #[] }, .string R, .bool false, .int .i64 0, .int .i64 0, .int .i64 0, .slice none 0 0] 27 (0, 0)) → Env W → Calls Tryz.prog 5 #[.string { data := #[65, 82, 65, 66, 73, 67] }, .slice (some ⟨G, 0, none⟩) 1 1] W fun e w' => e = .returned (.agg #[.int .i64 1, .string (numS rq), .string (denS rq), .string { data := #[] }, .bool false, .int .i64 0, .int .i64 0, .int .i64 0, .slice none 0 0]) ∧ Below W.heap.size W w')
    (hlen : m ≤ B.size) :
    Calls Tryz.prog 3 #[.int .i64 n0, .int .i64 k0, .int .i64 m0] w fun e w' => e = .returned (.bool true) ∧ Below w.heap.size w w' := by
  have QtMn := Lib.hid tMn
  have QtMk := Lib.hid tMk
  have QtMm := Lib.hid tMm
  have QtWn := Lib.hid tWn
  have QtWk := Lib.hid tWk
  have QtWm := Lib.hid tWm
  have QtWr := Lib.hid tWr
  have QpB := Lib.hid pB
  have QpR := Lib.hid pR
  have QpL := Lib.hid pL
  have QpD := Lib.hid pD
  have QpE := Lib.hid pE
  have QpA := Lib.hid pA
  have HE := Lib.hid hE
  have HL := Lib.hid (Below.refl w.heap.size w)
  have hw2 : IntKind.i64.wrap (2 + ((k : Int) - 2)) = (k : Int) := by rw [show (2 : Int) + ((k : Int) - 2) = (k : Int) by omega]; exact IntWalk.i64_in _ (by omega)
  have hs2 : (2 : Int) + ((k : Int) - 2) = (k : Int) := by omega
  have hrm : ((n : Int) % 4000) = (r : Int) := by rw [← hr]; rfl
  have htm : ((n : Int).tmod 4000) = (r : Int) := by rw [Int.tmod_eq_emod_of_nonneg (by omega)]; exact hrm
  have hge : decide ((m : Int) ≤ (B.size : Int)) = true := decide_eq_true (by omega)
  have hge2 : decide (m ≤ B.size) = true := decide_eq_true hlen
  clear hE hr hlen tMn tMk tMm tWn tWk tWm tWr pB pR pL pD pE pA
  go_enter Tryz.func3, Tryz.ntmps3
  go_wp2_with fail
  refine (QtMn.out _).mono ?_
  rintro e w1 ⟨rfl, hw⟩
  replace hw := hw.symm
  subst hw
  go_wp2_with fail
  refine (QtMk.out _).mono ?_
  rintro e w1 ⟨rfl, hw⟩
  replace hw := hw.symm
  subst hw
  go_wp2_with fail
  refine (QtMm.out _).mono ?_
  rintro e w1 ⟨rfl, hw⟩
  replace hw := hw.symm
  subst hw
  go_wp2_with fail
  (with_reducible refine (QtWn.out _ HE.out).mono ?_)
  rintro e w1 ⟨rfl, hq⟩
  replace HE := Lib.hid (HE.out.below hq)
  replace HL := Lib.hid (HL.out.trans (hq.mono HL.out.size))
  clear hq
  go_wp2_with fail
  (with_reducible refine (QtWk.out _ HE.out).mono ?_)
  rintro e w2 ⟨rfl, hq⟩
  replace HE := Lib.hid (HE.out.below hq)
  replace HL := Lib.hid (HL.out.trans (hq.mono HL.out.size))
  clear hq
  go_wp2_with fail
  (with_reducible refine (QtWm.out _ HE.out).mono ?_)
  rintro e w3 ⟨rfl, hq⟩
  replace HE := Lib.hid (HE.out.below hq)
  replace HL := Lib.hid (HL.out.trans (hq.mono HL.out.size))
  clear hq
  have HW := Lib.hid (heap_alloc_new w3 (.cells #[.int .i64 1, .string (numS nq), .string (denS nq), .string { data := #[] }, .bool false, .int .i64 0, .int .i64 0, .int .i64 0, .slice none 0 0, .int .i64 1, .string (numS kq), .string (denS kq), .string { data := #[] }, .bool false, .int .i64 0, .int .i64 0, .int .i64 0, .slice none 0 0, .int .i64 1, .string (numS mq), .string (denS mq), .string { data := #[] }, .bool false, .int .i64 0, .int .i64 0, .int .i64 0, .slice none 0 0] 27))
  have hq : Below w3.heap.size w3 (w3.alloc (.cells #[.int .i64 1, .string (numS nq), .string (denS nq), .string { data := #[] }, .bool false, .int .i64 0, .int .i64 0, .int .i64 0, .slice none 0 0, .int .i64 1, .string (numS kq), .string (denS kq), .string { data := #[] }, .bool false, .int .i64 0, .int .i64 0, .int .i64 0, .slice none 0 0, .int .i64 1, .string (numS mq), .string (denS mq), .string { data := #[] }, .bool false, .int .i64 0, .int .i64 0, .int .i64 0, .slice none 0 0] 27)) := (Below.refl _ _).alloc (Nat.le_refl _) _
  replace HE := Lib.hid (HE.out.below hq)
  replace HL := Lib.hid (HL.out.trans (hq.mono HL.out.size))
  clear hq
  go_wp2_with fail
  (with_reducible refine (QpB.out _ _ HW.out HE.out).mono ?_)
  rintro e w4 ⟨rfl, hq⟩
  replace HE := Lib.hid (HE.out.below hq)
  replace HL := Lib.hid (HL.out.trans (hq.mono HL.out.size))
  clear hq
  clear HW
  have hq : Below w4.heap.size w4 (w4.alloc (.cells #[.int .i64 2, .string { data := #[] }, .string { data := #[] }, .string B, .bool false, .int .i64 0, .int .i64 0, .int .i64 0, .slice none 0 0] 27)) := (Below.refl _ _).alloc (Nat.le_refl _) _
  have H7 := Lib.hid (heap_alloc_new w4 (.cells #[.int .i64 2, .string { data := #[] }, .string { data := #[] }, .string B, .bool false, .int .i64 0, .int .i64 0, .int .i64 0, .slice none 0 0] 27))
  replace HE := Lib.hid (HE.out.below hq)
  replace HL := Lib.hid (HL.out.trans (hq.mono HL.out.size))
  clear hq
  obtain ⟨B7, hB⟩ : ∃ B, w4.heap.size = B := ⟨_, rfl⟩
  obtain ⟨W7, hW⟩ : ∃ Z, w4.alloc (.cells #[.int .i64 2, .string { data := #[] }, .string { data := #[] }, .string B, .bool false, .int .i64 0, .int .i64 0, .int .i64 0, .slice none 0 0] 27) = Z := ⟨_, rfl⟩
  rw [hW] at H7 HE HL
  rw [hB] at H7
  have EW7 := Lib.hid hW
  have FW7 := Lib.hid hB
  clear hW hB
  go_upto_region 3 with fail
  rw [EW7.out, FW7.out]
  go_wp2_with fail
  (with_reducible refine (QtWr.out _ HE.out).mono ?_)
  rintro e w5 ⟨rfl, hq⟩
  replace HE := Lib.hid (HE.out.below hq)
  replace HL := Lib.hid (HL.out.trans (hq.mono HL.out.size))
  replace H7 := Lib.hid (keep_block H7.out hq)
  clear hq
  have HW := Lib.hid (heap_alloc_new w5 (.cells #[.int .i64 1, .string (numS rq), .string (denS rq), .string { data := #[] }, .bool false, .int .i64 0, .int .i64 0, .int .i64 0, .slice none 0 0] 27))
  have hq : Below w5.heap.size w5 (w5.alloc (.cells #[.int .i64 1, .string (numS rq), .string (denS rq), .string { data := #[] }, .bool false, .int .i64 0, .int .i64 0, .int .i64 0, .slice none 0 0] 27)) := (Below.refl _ _).alloc (Nat.le_refl _) _
  replace HE := Lib.hid (HE.out.below hq)
  replace HL := Lib.hid (HL.out.trans (hq.mono HL.out.size))
  replace H7 := Lib.hid (keep_block H7.out hq)
  clear hq
  go_wp2_with fail
  (with_reducible refine (QpR.out _ _ HW.out HE.out).mono ?_)
  rintro e w6 ⟨rfl, hq⟩
  replace HE := Lib.hid (HE.out.below hq)
  replace HL := Lib.hid (HL.out.trans (hq.mono HL.out.size))
  replace H7 := Lib.hid (keep_block H7.out hq)
  clear hq
  clear HW
  have hq : Below w6.heap.size w6 (w6.alloc (.cells #[.int .i64 2, .string { data := #[] }, .string { data := #[] }, .string R, .bool false, .int .i64 0, .int .i64 0, .int .i64 0, .slice none 0 0] 27)) := (Below.refl _ _).alloc (Nat.le_refl _) _
  have H8 := Lib.hid (heap_alloc_new w6 (.cells #[.int .i64 2, .string { data := #[] }, .string { data := #[] }, .string R, .bool false, .int .i64 0, .int .i64 0, .int .i64 0, .slice none 0 0] 27))
  replace HE := Lib.hid (HE.out.below hq)
  replace HL := Lib.hid (HL.out.trans (hq.mono HL.out.size))
  replace H7 := Lib.hid (keep_block H7.out hq)
  clear hq
  obtain ⟨B8, hB⟩ : ∃ B, w6.heap.size = B := ⟨_, rfl⟩
  obtain ⟨W8, hW⟩ : ∃ Z, w6.alloc (.cells #[.int .i64 2, .string { data := #[] }, .string { data := #[] }, .string R, .bool false, .int .i64 0, .int .i64 0, .int .i64 0, .slice none 0 0] 27) = Z := ⟨_, rfl⟩
  rw [hW] at H7 H8 HE HL
  rw [hB] at H8
  have EW8 := Lib.hid hW
  have FW8 := Lib.hid hB
  clear hW hB
  obtain ⟨⟨x0, x1, x2, x3, x4, x5, x6, x7, x8⟩, _⟩ := nine_at H7.out
  go_upto_region 4 with fail
  rw [EW8.out, FW8.out]
  have HW := Lib.hid (heap_alloc_new W8 (.cells #[.int .i64 2, .string { data := #[] }, .string { data := #[] }, .string B, .bool false, .int .i64 0, .int .i64 0, .int .i64 0, .slice none 0 0] 27))
  have hq : Below W8.heap.size W8 (W8.alloc (.cells #[.int .i64 2, .string { data := #[] }, .string { data := #[] }, .string B, .bool false, .int .i64 0, .int .i64 0, .int .i64 0, .slice none 0 0] 27)) := (Below.refl _ _).alloc (Nat.le_refl _) _
  replace HE := Lib.hid (HE.out.below hq)
  replace HL := Lib.hid (HL.out.trans (hq.mono HL.out.size))
  replace H7 := Lib.hid (keep_block H7.out hq)
  replace H8 := Lib.hid (keep_block H8.out hq)
  clear hq
  go_wp2_with fail
  (with_reducible refine (QpL.out _ _ HW.out HE.out).mono ?_)
  rintro e w7 ⟨rfl, hq⟩
  replace HE := Lib.hid (HE.out.below hq)
  replace HL := Lib.hid (HL.out.trans (hq.mono HL.out.size))
  replace H7 := Lib.hid (keep_block H7.out hq)
  replace H8 := Lib.hid (keep_block H8.out hq)
  clear hq
  clear HW x0 x1 x2 x3 x4 x5 x6 x7 x8
  have hq : Below w7.heap.size w7 (w7.alloc (.cells #[.int .i64 2, .string { data := #[] }, .string { data := #[] }, .string L, .bool false, .int .i64 0, .int .i64 0, .int .i64 0, .slice none 0 0] 27)) := (Below.refl _ _).alloc (Nat.le_refl _) _
  have H9 := Lib.hid (heap_alloc_new w7 (.cells #[.int .i64 2, .string { data := #[] }, .string { data := #[] }, .string L, .bool false, .int .i64 0, .int .i64 0, .int .i64 0, .slice none 0 0] 27))
  replace HE := Lib.hid (HE.out.below hq)
  replace HL := Lib.hid (HL.out.trans (hq.mono HL.out.size))
  replace H7 := Lib.hid (keep_block H7.out hq)
  replace H8 := Lib.hid (keep_block H8.out hq)
  clear hq
  obtain ⟨B9, hB⟩ : ∃ B, w7.heap.size = B := ⟨_, rfl⟩
  obtain ⟨W9, hW⟩ : ∃ Z, w7.alloc (.cells #[.int .i64 2, .string { data := #[] }, .string { data := #[] }, .string L, .bool false, .int .i64 0, .int .i64 0, .int .i64 0, .slice none 0 0] 27) = Z := ⟨_, rfl⟩
  rw [hW] at H7 H8 H9 HE HL
  rw [hB] at H9
  have EW9 := Lib.hid hW
  have FW9 := Lib.hid hB
  clear hW hB
  go_upto_region 5 with fail
  rw [EW9.out, FW9.out]
  clear EW7 FW7 EW8 FW8 EW9 FW9
  go_wp2_with fail
  have hok : okB 40 (SwKs5 nq kq rq n k m r B7 B8 B9 B L R) = true := by kernel_rfl
  have hna := noAny_of (ks := (SwKs5 nq kq rq n k m r B7 B8 B9 B L R)) (by kernel_rfl)
  have hla := lasts_of hna
  refine wp_region_facts_abs (row := none) (w := W9) 40 0 40 [] (SwKs5 nq kq rq n k m r B7 B8 B9 B L R) [some 37, some 38, some 39, some 40, some 41, some 42, some 43, some 44, some 45, some 46, some 47, some 48, some 49, some 50, some 51, some 52, some 53, some 54, some 55, some 56, some 57, some 58, some 59, some 60, some 61, some 62, some 63, some 64, some 65, some 66, some 67, some 68, some 69, some 70, some 71, some 72, some 73, some 74, some 75, some 6] [(7, .pointer (some ⟨B7, 0, none⟩)), (2, .int .i64 (m : Int)), (1, .int .i64 (k : Int)), (0, .int .i64 (n : Int)), (9, .pointer (some ⟨B9, 0, none⟩)), (8, .pointer (some ⟨B8, 0, none⟩))] 76 (by kernel_rfl) (by kernel_rfl) (by kernel_rfl) rfl rfl (by decide) rfl (by kernel_rfl) rfl (Nat.le_of_eq rfl) rfl ?ho [undef, undef, undef, undef, undef, undef, undef, undef, undef, undef, undef, undef, undef, undef, undef, undef, undef, undef, undef, undef, undef, undef, undef, undef, undef, undef, undef, undef, undef, undef, undef, undef, undef, undef, undef, undef, undef, undef, undef, (.bool false)] ?h00 (Fs.start rfl rfl) ?hs ?hd
  case ho =>
    intro k x hk
    match k, hk with
    | 0, hk => have hk := Option.some.inj hk; subst hk; rfl
    | 1, hk => have hk := Option.some.inj hk; subst hk; rfl
    | 2, hk => have hk := Option.some.inj hk; subst hk; rfl
    | 3, hk => have hk := Option.some.inj hk; subst hk; rfl
    | 4, hk => have hk := Option.some.inj hk; subst hk; rfl
    | 5, hk => have hk := Option.some.inj hk; subst hk; rfl
    | _ + 6, hk => exact absurd hk (by simp)
  case h00 => simp only [putO, layL]
  case hs =>
    rintro A listed vs Wr hF hR i hi hun hpre
    obtain ⟨s0, s1, s2, s3, s4, s5, s6, s7, s8, s9, s10, s11, s12, s13, s14, s15, s16, s17, s18, s19, s20, s21, s22, s23, s24, s25, s26, s27, s28, s29, s30, s31, s32, s33, s34, s35, s36, s37, s38, s39, hvs⟩ := exl_of 40 vs (fun l => vs = l) hF.len rfl
    subst hvs
    have hge := Nat.zero_le i
    rcases Nat.lt_or_ge i 20 with hi | hge
    · rcases Nat.lt_or_ge i 10 with hi | hge
      · rcases Nat.lt_or_ge i 5 with hi | hge
        · rcases Nat.lt_or_ge i 2 with hi | hge
          · rcases Nat.lt_or_ge i 1 with hi | hge
            · obtain rfl := eqi hi hge
              have ro7 : A.tmps[7]? = some (.pointer (some ⟨B7, 0, none⟩)) := hR.out 0 _ rfl
              refine step_of ⟨some 37, _, _, _, _, _⟩ rfl (fun K' hK => ?_)
              go_simp
              exact hK.out _ _ ⟨_, hF.pure hok hla hpre rfl (Below.refl _ _), rfl⟩
            obtain rfl := eqi hi hge
            have p0 := hpre 0 (by kernel_rfl)
            have e0 : s0 = .pointer (some ⟨B7, 3, none⟩) := hF.get 0 _ rfl (.inr p0)
            subst e0
            have r0 : A.tmps[37]? = some (.pointer (some ⟨B7, 3, none⟩)) := hR.own 0 _ _ rfl rfl
            have hcc := (nine_at (keep_block H7.out (below_none hF.low))).1
            have cH70 := hcc.1
            have cH71 := hcc.2.1
            have cH72 := hcc.2.2.1
            have cH73 := hcc.2.2.2.1
            have cH74 := hcc.2.2.2.2.1
            have cH75 := hcc.2.2.2.2.2.1
            have cH76 := hcc.2.2.2.2.2.2.1
            have cH77 := hcc.2.2.2.2.2.2.2.1
            have cH78 := hcc.2.2.2.2.2.2.2.2
            clear hcc
            refine step_of ⟨some 38, _, _, _, _, _⟩ rfl (fun K' hK => ?_)
            go_simp
            exact hK.out _ _ ⟨_, hF.pure hok hla hpre rfl (Below.refl _ _), rfl⟩
          rcases Nat.lt_or_ge i 3 with hi | hge
          · obtain rfl := eqi hi hge
            have p1 := hpre 1 (by kernel_rfl)
            have e1 : s1 = .string B := hF.get 1 _ rfl (.inr p1)
            subst e1
            have r1 : A.tmps[38]? = some (.string B) := hR.own 1 _ _ rfl rfl
            refine step_of ⟨some 39, _, _, _, _, _⟩ rfl (fun K' hK => ?_)
            go_simp
            exact hK.out _ _ ⟨_, hF.pure hok hla hpre rfl (Below.refl _ _), rfl⟩
          rcases Nat.lt_or_ge i 4 with hi | hge
          · obtain rfl := eqi hi hge
            have ro2 : A.tmps[2]? = some (.int .i64 (m : Int)) := hR.out 1 _ rfl
            refine step_of ⟨some 40, _, _, _, _, _⟩ rfl (fun K' hK => ?_)
            go_simp
            exact hK.out _ _ ⟨_, hF.pure hok hla hpre rfl (Below.refl _ _), rfl⟩
          obtain rfl := eqi hi hge
          have p2 := hpre 2 (by kernel_rfl)
          have e2 : s2 = .int .i64 (B.size : Int) := hF.get 2 _ rfl (.inr p2)
          subst e2
          have r2 : A.tmps[39]? = some (.int .i64 (B.size : Int)) := hR.own 2 _ _ rfl rfl
          have p3 := hpre 3 (by kernel_rfl)
          have e3 : s3 = .int .i64 (m : Int) := hF.get 3 _ rfl (.inr p3)
          subst e3
          have r3 : A.tmps[40]? = some (.int .i64 (m : Int)) := hR.own 3 _ _ rfl rfl
          refine step_of ⟨some 41, _, _, _, _, _⟩ rfl (fun K' hK => ?_)
          go_simp
          exact hK.out _ _ ⟨_, hF.pure hok hla hpre rfl (Below.refl _ _), rfl⟩
        rcases Nat.lt_or_ge i 7 with hi | hge
        · rcases Nat.lt_or_ge i 6 with hi | hge
          · obtain rfl := eqi hi hge
            have p4 := hpre 4 (by kernel_rfl)
            have e4 : s4 = .bool true := hF.get 4 _ rfl (.inr p4)
            subst e4
            have r4 : A.tmps[41]? = some (.bool true) := hR.own 4 _ _ rfl rfl
            refine step_of ⟨some 42, _, _, _, _, _⟩ rfl (fun K' hK => ?_)
            go_simp
            exact hK.out _ _ ⟨_, hF.pure hok hla hpre rfl (Below.refl _ _), rfl⟩
          obtain rfl := eqi hi hge
          have p5 := hpre 5 (by kernel_rfl)
          have e5 : s5 = .bool true := hF.get 5 _ rfl (.inr p5)
          subst e5
          have r5 : A.tmps[42]? = some (.bool true) := hR.own 5 _ _ rfl rfl
          have ro7 : A.tmps[7]? = some (.pointer (some ⟨B7, 0, none⟩)) := hR.out 0 _ rfl
          refine step_of ⟨some 43, _, _, _, _, _⟩ rfl (fun K' hK => ?_)
          rw [if_pos (by simp [Region.wanted, yielded, r5])]
          go_simp
          exact hK.out _ _ ⟨_, hF.pure hok hla hpre rfl (Below.refl _ _), rfl⟩
        rcases Nat.lt_or_ge i 8 with hi | hge
        · obtain rfl := eqi hi hge
          have p6 := hpre 6 (by kernel_rfl)
          have e6 : s6 = .pointer (some ⟨B7, 0, none⟩) := hF.get 6 _ rfl (.inr p6)
          subst e6
          have r6 : A.tmps[43]? = some (.pointer (some ⟨B7, 0, none⟩)) := hR.own 6 _ _ rfl rfl
          have p5 := hpre 5 (by kernel_rfl)
          have e5 : s5 = .bool true := hF.get 5 _ rfl (.inr p5)
          subst e5
          have r5 : A.tmps[42]? = some (.bool true) := hR.own 5 _ _ rfl rfl
          have hcc := (nine_at (keep_block H7.out (below_none hF.low))).1
          have cH70 := hcc.1
          have cH71 := hcc.2.1
          have cH72 := hcc.2.2.1
          have cH73 := hcc.2.2.2.1
          have cH74 := hcc.2.2.2.2.1
          have cH75 := hcc.2.2.2.2.2.1
          have cH76 := hcc.2.2.2.2.2.2.1
          have cH77 := hcc.2.2.2.2.2.2.2.1
          have cH78 := hcc.2.2.2.2.2.2.2.2
          clear hcc
          refine step_of ⟨some 44, _, _, _, _, _⟩ rfl (fun K' hK => ?_)
          rw [if_pos (by simp [Region.wanted, yielded, r5])]
          go_simp
          exact hK.out _ _ ⟨_, hF.pure hok hla hpre rfl (Below.refl _ _), rfl⟩
        rcases Nat.lt_or_ge i 9 with hi | hge
        · obtain rfl := eqi hi hge
          have p7 := hpre 7 (by kernel_rfl)
          have e7 : s7 = .int .i64 2 := hF.get 7 _ rfl (.inr p7)
          subst e7
          have r7 : A.tmps[44]? = some (.int .i64 2) := hR.own 7 _ _ rfl rfl
          have p5 := hpre 5 (by kernel_rfl)
          have e5 : s5 = .bool true := hF.get 5 _ rfl (.inr p5)
          subst e5
          have r5 : A.tmps[42]? = some (.bool true) := hR.own 5 _ _ rfl rfl
          refine step_of ⟨some 45, _, _, _, _, _⟩ rfl (fun K' hK => ?_)
          rw [if_pos (by simp [Region.wanted, yielded, r5])]
          go_simp
          exact hK.out _ _ ⟨_, hF.pure hok hla hpre rfl (Below.refl _ _), rfl⟩
        obtain rfl := eqi hi hge
        have p5 := hpre 5 (by kernel_rfl)
        have e5 : s5 = .bool true := hF.get 5 _ rfl (.inr p5)
        subst e5
        have r5 : A.tmps[42]? = some (.bool true) := hR.own 5 _ _ rfl rfl
        have p8 := hpre 8 (by kernel_rfl)
        have e8 : s8 = .bool true := hF.get 8 _ rfl (.inr p8)
        subst e8
        have r8 : A.tmps[45]? = some (.bool true) := hR.own 8 _ _ rfl rfl
        refine step_of ⟨some 46, _, _, _, _, _⟩ rfl (fun K' hK => ?_)
        go_simp
        exact hK.out _ _ ⟨_, hF.pure hok hla hpre rfl (Below.refl _ _), rfl⟩
      rcases Nat.lt_or_ge i 15 with hi | hge
      · rcases Nat.lt_or_ge i 12 with hi | hge
        · rcases Nat.lt_or_ge i 11 with hi | hge
          · obtain rfl := eqi hi hge
            have p9 := hpre 9 (by kernel_rfl)
            have e9 : s9 = .bool true := hF.get 9 _ rfl (.inr p9)
            subst e9
            have r9 : A.tmps[46]? = some (.bool true) := hR.own 9 _ _ rfl rfl
            refine step_of ⟨some 47, _, _, _, _, _⟩ rfl (fun K' hK => ?_)
            go_simp
            exact hK.out _ _ ⟨_, hF.pure hok hla hpre rfl (Below.refl _ _), rfl⟩
          obtain rfl := eqi hi hge
          have p10 := hpre 10 (by kernel_rfl)
          have e10 : s10 = .bool true := hF.get 10 _ rfl (.inr p10)
          subst e10
          have r10 : A.tmps[47]? = some (.bool true) := hR.own 10 _ _ rfl rfl
          have ro7 : A.tmps[7]? = some (.pointer (some ⟨B7, 0, none⟩)) := hR.out 0 _ rfl
          have hcc := (nine_at (keep_block H7.out (below_none hF.low))).1
          have cH70 := hcc.1
          have cH71 := hcc.2.1
          have cH72 := hcc.2.2.1
          have cH73 := hcc.2.2.2.1
          have cH74 := hcc.2.2.2.2.1
          have cH75 := hcc.2.2.2.2.2.1
          have cH76 := hcc.2.2.2.2.2.2.1
          have cH77 := hcc.2.2.2.2.2.2.2.1
          have cH78 := hcc.2.2.2.2.2.2.2.2
          clear hcc
          refine step_of ⟨some 48, _, _, _, _, _⟩ rfl (fun K' hK => ?_)
          rw [if_pos (by simp [Region.wanted, yielded, r10])]
          go_simp
          exact hK.out _ _ ⟨_, hF.pure hok hla hpre rfl (Below.refl _ _), rfl⟩
        rcases Nat.lt_or_ge i 13 with hi | hge
        · obtain rfl := eqi hi hge
          have p10 := hpre 10 (by kernel_rfl)
          have e10 : s10 = .bool true := hF.get 10 _ rfl (.inr p10)
          subst e10
          have r10 : A.tmps[47]? = some (.bool true) := hR.own 10 _ _ rfl rfl
          have ro1 : A.tmps[1]? = some (.int .i64 (k : Int)) := hR.out 2 _ rfl
          refine step_of ⟨some 49, _, _, _, _, _⟩ rfl (fun K' hK => ?_)
          rw [if_pos (by simp [Region.wanted, yielded, r10])]
          go_simp
          exact hK.out _ _ ⟨_, hF.pure hok hla hpre rfl (Below.refl _ _), rfl⟩
        rcases Nat.lt_or_ge i 14 with hi | hge
        · obtain rfl := eqi hi hge
          have p12 := hpre 12 (by kernel_rfl)
          have e12 : s12 = .int .i64 (k : Int) := hF.get 12 _ rfl (.inr p12)
          subst e12
          have r12 : A.tmps[49]? = some (.int .i64 (k : Int)) := hR.own 12 _ _ rfl rfl
          have p10 := hpre 10 (by kernel_rfl)
          have e10 : s10 = .bool true := hF.get 10 _ rfl (.inr p10)
          subst e10
          have r10 : A.tmps[47]? = some (.bool true) := hR.own 10 _ _ rfl rfl
          refine step_of ⟨some 50, _, _, _, _, _⟩ rfl (fun K' hK => ?_)
          rw [if_pos (by simp [Region.wanted, yielded, r10])]
          go_simp
          go_at_call 6
          (with_reducible refine (QtWk.out _ (HE.out.below (below_none hF.low))).mono ?_)
          rintro e Wq ⟨rfl, hq⟩
          exact hK.out _ _ ⟨_, hF.pure hok hla hpre rfl hq, rfl⟩
        obtain rfl := eqi hi hge
        have p11 := hpre 11 (by kernel_rfl)
        have e11 : s11 = .agg #[.int .i64 2, .string { data := #[] }, .string { data := #[] }, .string B, .bool false, .int .i64 0, .int .i64 0, .int .i64 0, .slice none 0 0] := hF.get 11 _ rfl (.inr p11)
        subst e11
        have r11 : A.tmps[48]? = some (.agg #[.int .i64 2, .string { data := #[] }, .string { data := #[] }, .string B, .bool false, .int .i64 0, .int .i64 0, .int .i64 0, .slice none 0 0]) := hR.own 11 _ _ rfl rfl
        have p13 := hpre 13 (by kernel_rfl)
        have e13 : s13 = .agg #[.int .i64 1, .string (numS kq), .string (denS kq), .string { data := #[] }, .bool false, .int .i64 0, .int .i64 0, .int .i64 0, .slice none 0 0] := hF.get 13 _ rfl (.inr p13)
        subst e13
        have r13 : A.tmps[50]? = some (.agg #[.int .i64 1, .string (numS kq), .string (denS kq), .string { data := #[] }, .bool false, .int .i64 0, .int .i64 0, .int .i64 0, .slice none 0 0]) := hR.own 13 _ _ rfl rfl
        have p10 := hpre 10 (by kernel_rfl)
        have e10 : s10 = .bool true := hF.get 10 _ rfl (.inr p10)
        subst e10
        have r10 : A.tmps[47]? = some (.bool true) := hR.own 10 _ _ rfl rfl
        refine step_of ⟨some 51, _, _, _, _, _⟩ rfl (fun K' hK => ?_)
        rw [if_pos (by simp [Region.wanted, yielded, r10])]
        go_simp
        exact hK.out _ _ ⟨_, hF.row hok hla hpre rfl, rfl⟩
      rcases Nat.lt_or_ge i 17 with hi | hge
      · rcases Nat.lt_or_ge i 16 with hi | hge
        · obtain rfl := eqi hi hge
          have p14 := hpre 14 (by kernel_rfl)
          obtain ⟨G14, eG14, _, hGB14⟩ : ∃ G, s14 = .slice (some ⟨G, 0, none⟩) 2 2 ∧ _ ≤ G ∧ Wr.heap[G]? = some (.cells #[.int .i64 2, .string { data := #[] }, .string { data := #[] }, .string B, .bool false, .int .i64 0, .int .i64 0, .int .i64 0, .slice none 0 0, .int .i64 1, .string (numS kq), .string (denS kq), .string { data := #[] }, .bool false, .int .i64 0, .int .i64 0, .int .i64 0, .slice none 0 0] 27 (0, 0)) := hF.get 14 _ rfl (.inr p14)
          subst eG14
          have r14 : A.tmps[51]? = some (.slice (some ⟨G14, 0, none⟩) 2 2) := hR.own 14 _ _ rfl rfl
          have p10 := hpre 10 (by kernel_rfl)
          have e10 : s10 = .bool true := hF.get 10 _ rfl (.inr p10)
          subst e10
          have r10 : A.tmps[47]? = some (.bool true) := hR.own 10 _ _ rfl rfl
          refine step_of ⟨some 52, _, _, _, _, _⟩ rfl (fun K' hK => ?_)
          rw [if_pos (by simp [Region.wanted, yielded, r10])]
          go_simp
          go_at_call 5
          (with_reducible refine (QpD.out _ G14 hGB14 (HE.out.below (below_none hF.low))).mono ?_)
          rintro e Wq ⟨rfl, hq⟩
          exact hK.out _ _ ⟨_, hF.pure hok hla hpre rfl hq, rfl⟩
        obtain rfl := eqi hi hge
        have p10 := hpre 10 (by kernel_rfl)
        have e10 : s10 = .bool true := hF.get 10 _ rfl (.inr p10)
        subst e10
        have r10 : A.tmps[47]? = some (.bool true) := hR.own 10 _ _ rfl rfl
        have ro0 : A.tmps[0]? = some (.int .i64 (n : Int)) := hR.out 3 _ rfl
        refine step_of ⟨some 53, _, _, _, _, _⟩ rfl (fun K' hK => ?_)
        rw [if_pos (by simp [Region.wanted, yielded, r10])]
        go_simp
        exact hK.out _ _ ⟨_, hF.pure hok hla hpre rfl (Below.refl _ _), rfl⟩
      rcases Nat.lt_or_ge i 18 with hi | hge
      · obtain rfl := eqi hi hge
        have p16 := hpre 16 (by kernel_rfl)
        have e16 : s16 = .int .i64 (n : Int) := hF.get 16 _ rfl (.inr p16)
        subst e16
        have r16 : A.tmps[53]? = some (.int .i64 (n : Int)) := hR.own 16 _ _ rfl rfl
        have p10 := hpre 10 (by kernel_rfl)
        have e10 : s10 = .bool true := hF.get 10 _ rfl (.inr p10)
        subst e10
        have r10 : A.tmps[47]? = some (.bool true) := hR.own 10 _ _ rfl rfl
        refine step_of ⟨some 54, _, _, _, _, _⟩ rfl (fun K' hK => ?_)
        rw [if_pos (by simp [Region.wanted, yielded, r10])]
        go_simp
        go_at_call 6
        (with_reducible refine (QtWn.out _ (HE.out.below (below_none hF.low))).mono ?_)
        rintro e Wq ⟨rfl, hq⟩
        exact hK.out _ _ ⟨_, hF.pure hok hla hpre rfl hq, rfl⟩
      rcases Nat.lt_or_ge i 19 with hi | hge
      · obtain rfl := eqi hi hge
        have p15 := hpre 15 (by kernel_rfl)
        have e15 : s15 = .agg #[.int .i64 1, .string (numS nq), .string (denS nq), .string { data := #[] }, .bool false, .int .i64 0, .int .i64 0, .int .i64 0, .slice none 0 0] := hF.get 15 _ rfl (.inr p15)
        subst e15
        have r15 : A.tmps[52]? = some (.agg #[.int .i64 1, .string (numS nq), .string (denS nq), .string { data := #[] }, .bool false, .int .i64 0, .int .i64 0, .int .i64 0, .slice none 0 0]) := hR.own 15 _ _ rfl rfl
        have p17 := hpre 17 (by kernel_rfl)
        have e17 : s17 = .agg #[.int .i64 1, .string (numS nq), .string (denS nq), .string { data := #[] }, .bool false, .int .i64 0, .int .i64 0, .int .i64 0, .slice none 0 0] := hF.get 17 _ rfl (.inr p17)
        subst e17
        have r17 : A.tmps[54]? = some (.agg #[.int .i64 1, .string (numS nq), .string (denS nq), .string { data := #[] }, .bool false, .int .i64 0, .int .i64 0, .int .i64 0, .slice none 0 0]) := hR.own 17 _ _ rfl rfl
        have p10 := hpre 10 (by kernel_rfl)
        have e10 : s10 = .bool true := hF.get 10 _ rfl (.inr p10)
        subst e10
        have r10 : A.tmps[47]? = some (.bool true) := hR.own 10 _ _ rfl rfl
        refine step_of ⟨some 55, _, _, _, _, _⟩ rfl (fun K' hK => ?_)
        rw [if_pos (by simp [Region.wanted, yielded, r10])]
        go_simp
        go_at_call 8
        (with_reducible refine (same_one nq _).mono ?_)
        rintro e Wq ⟨rfl, hq⟩
        exact hK.out _ _ ⟨_, hF.pure hok hla hpre rfl hq, rfl⟩
      obtain rfl := eqi hi hge
      have p10 := hpre 10 (by kernel_rfl)
      have e10 : s10 = .bool true := hF.get 10 _ rfl (.inr p10)
      subst e10
      have r10 : A.tmps[47]? = some (.bool true) := hR.own 10 _ _ rfl rfl
      have p18 := hpre 18 (by kernel_rfl)
      have e18 : s18 = .bool true := hF.get 18 _ rfl (.inr p18)
      subst e18
      have r18 : A.tmps[55]? = some (.bool true) := hR.own 18 _ _ rfl rfl
      refine step_of ⟨some 56, _, _, _, _, _⟩ rfl (fun K' hK => ?_)
      go_simp
      exact hK.out _ _ ⟨_, hF.pure hok hla hpre rfl (Below.refl _ _), rfl⟩
    rcases Nat.lt_or_ge i 30 with hi | hge
    · rcases Nat.lt_or_ge i 25 with hi | hge
      · rcases Nat.lt_or_ge i 22 with hi | hge
        · rcases Nat.lt_or_ge i 21 with hi | hge
          · obtain rfl := eqi hi hge
            have p19 := hpre 19 (by kernel_rfl)
            have e19 : s19 = .bool true := hF.get 19 _ rfl (.inr p19)
            subst e19
            have r19 : A.tmps[56]? = some (.bool true) := hR.own 19 _ _ rfl rfl
            refine step_of ⟨some 57, _, _, _, _, _⟩ rfl (fun K' hK => ?_)
            go_simp
            exact hK.out _ _ ⟨_, hF.pure hok hla hpre rfl (Below.refl _ _), rfl⟩
          obtain rfl := eqi hi hge
          have p20 := hpre 20 (by kernel_rfl)
          have e20 : s20 = .bool true := hF.get 20 _ rfl (.inr p20)
          subst e20
          have r20 : A.tmps[57]? = some (.bool true) := hR.own 20 _ _ rfl rfl
          have ro9 : A.tmps[9]? = some (.pointer (some ⟨B9, 0, none⟩)) := hR.out 4 _ rfl
          have hcc := (nine_at (keep_block H9.out (below_none hF.low))).1
          have cH90 := hcc.1
          have cH91 := hcc.2.1
          have cH92 := hcc.2.2.1
          have cH93 := hcc.2.2.2.1
          have cH94 := hcc.2.2.2.2.1
          have cH95 := hcc.2.2.2.2.2.1
          have cH96 := hcc.2.2.2.2.2.2.1
          have cH97 := hcc.2.2.2.2.2.2.2.1
          have cH98 := hcc.2.2.2.2.2.2.2.2
          clear hcc
          refine step_of ⟨some 58, _, _, _, _, _⟩ rfl (fun K' hK => ?_)
          rw [if_pos (by simp [Region.wanted, yielded, r20])]
          go_simp
          exact hK.out _ _ ⟨_, hF.pure hok hla hpre rfl (Below.refl _ _), rfl⟩
        rcases Nat.lt_or_ge i 23 with hi | hge
        · obtain rfl := eqi hi hge
          have p20 := hpre 20 (by kernel_rfl)
          have e20 : s20 = .bool true := hF.get 20 _ rfl (.inr p20)
          subst e20
          have r20 : A.tmps[57]? = some (.bool true) := hR.own 20 _ _ rfl rfl
          have ro1 : A.tmps[1]? = some (.int .i64 (k : Int)) := hR.out 2 _ rfl
          refine step_of ⟨some 59, _, _, _, _, _⟩ rfl (fun K' hK => ?_)
          rw [if_pos (by simp [Region.wanted, yielded, r20])]
          go_simp
          exact hK.out _ _ ⟨_, hF.pure hok hla hpre rfl (Below.refl _ _), rfl⟩
        rcases Nat.lt_or_ge i 24 with hi | hge
        · obtain rfl := eqi hi hge
          have p22 := hpre 22 (by kernel_rfl)
          have e22 : s22 = .int .i64 (k : Int) := hF.get 22 _ rfl (.inr p22)
          subst e22
          have r22 : A.tmps[59]? = some (.int .i64 (k : Int)) := hR.own 22 _ _ rfl rfl
          have p20 := hpre 20 (by kernel_rfl)
          have e20 : s20 = .bool true := hF.get 20 _ rfl (.inr p20)
          subst e20
          have r20 : A.tmps[57]? = some (.bool true) := hR.own 20 _ _ rfl rfl
          refine step_of ⟨some 60, _, _, _, _, _⟩ rfl (fun K' hK => ?_)
          rw [if_pos (by simp [Region.wanted, yielded, r20])]
          go_simp
          go_at_call 6
          (with_reducible refine (QtWk.out _ (HE.out.below (below_none hF.low))).mono ?_)
          rintro e Wq ⟨rfl, hq⟩
          exact hK.out _ _ ⟨_, hF.pure hok hla hpre rfl hq, rfl⟩
        obtain rfl := eqi hi hge
        have p21 := hpre 21 (by kernel_rfl)
        have e21 : s21 = .agg #[.int .i64 2, .string { data := #[] }, .string { data := #[] }, .string L, .bool false, .int .i64 0, .int .i64 0, .int .i64 0, .slice none 0 0] := hF.get 21 _ rfl (.inr p21)
        subst e21
        have r21 : A.tmps[58]? = some (.agg #[.int .i64 2, .string { data := #[] }, .string { data := #[] }, .string L, .bool false, .int .i64 0, .int .i64 0, .int .i64 0, .slice none 0 0]) := hR.own 21 _ _ rfl rfl
        have p23 := hpre 23 (by kernel_rfl)
        have e23 : s23 = .agg #[.int .i64 1, .string (numS kq), .string (denS kq), .string { data := #[] }, .bool false, .int .i64 0, .int .i64 0, .int .i64 0, .slice none 0 0] := hF.get 23 _ rfl (.inr p23)
        subst e23
        have r23 : A.tmps[60]? = some (.agg #[.int .i64 1, .string (numS kq), .string (denS kq), .string { data := #[] }, .bool false, .int .i64 0, .int .i64 0, .int .i64 0, .slice none 0 0]) := hR.own 23 _ _ rfl rfl
        have p20 := hpre 20 (by kernel_rfl)
        have e20 : s20 = .bool true := hF.get 20 _ rfl (.inr p20)
        subst e20
        have r20 : A.tmps[57]? = some (.bool true) := hR.own 20 _ _ rfl rfl
        refine step_of ⟨some 61, _, _, _, _, _⟩ rfl (fun K' hK => ?_)
        rw [if_pos (by simp [Region.wanted, yielded, r20])]
        go_simp
        exact hK.out _ _ ⟨_, hF.row hok hla hpre rfl, rfl⟩
      rcases Nat.lt_or_ge i 27 with hi | hge
      · rcases Nat.lt_or_ge i 26 with hi | hge
        · obtain rfl := eqi hi hge
          have p24 := hpre 24 (by kernel_rfl)
          obtain ⟨G24, eG24, _, hGB24⟩ : ∃ G, s24 = .slice (some ⟨G, 0, none⟩) 2 2 ∧ _ ≤ G ∧ Wr.heap[G]? = some (.cells #[.int .i64 2, .string { data := #[] }, .string { data := #[] }, .string L, .bool false, .int .i64 0, .int .i64 0, .int .i64 0, .slice none 0 0, .int .i64 1, .string (numS kq), .string (denS kq), .string { data := #[] }, .bool false, .int .i64 0, .int .i64 0, .int .i64 0, .slice none 0 0] 27 (0, 0)) := hF.get 24 _ rfl (.inr p24)
          subst eG24
          have r24 : A.tmps[61]? = some (.slice (some ⟨G24, 0, none⟩) 2 2) := hR.own 24 _ _ rfl rfl
          have p20 := hpre 20 (by kernel_rfl)
          have e20 : s20 = .bool true := hF.get 20 _ rfl (.inr p20)
          subst e20
          have r20 : A.tmps[57]? = some (.bool true) := hR.own 20 _ _ rfl rfl
          refine step_of ⟨some 62, _, _, _, _, _⟩ rfl (fun K' hK => ?_)
          rw [if_pos (by simp [Region.wanted, yielded, r20])]
          go_simp
          go_at_call 5
          (with_reducible refine (QpE.out _ G24 hGB24 (HE.out.below (below_none hF.low))).mono ?_)
          rintro e Wq ⟨rfl, hq⟩
          exact hK.out _ _ ⟨_, hF.pure hok hla hpre rfl hq, rfl⟩
        obtain rfl := eqi hi hge
        have p20 := hpre 20 (by kernel_rfl)
        have e20 : s20 = .bool true := hF.get 20 _ rfl (.inr p20)
        subst e20
        have r20 : A.tmps[57]? = some (.bool true) := hR.own 20 _ _ rfl rfl
        have ro0 : A.tmps[0]? = some (.int .i64 (n : Int)) := hR.out 3 _ rfl
        refine step_of ⟨some 63, _, _, _, _, _⟩ rfl (fun K' hK => ?_)
        rw [if_pos (by simp [Region.wanted, yielded, r20])]
        go_simp
        exact hK.out _ _ ⟨_, hF.pure hok hla hpre rfl (Below.refl _ _), rfl⟩
      rcases Nat.lt_or_ge i 28 with hi | hge
      · obtain rfl := eqi hi hge
        have p26 := hpre 26 (by kernel_rfl)
        have e26 : s26 = .int .i64 (n : Int) := hF.get 26 _ rfl (.inr p26)
        subst e26
        have r26 : A.tmps[63]? = some (.int .i64 (n : Int)) := hR.own 26 _ _ rfl rfl
        have p20 := hpre 20 (by kernel_rfl)
        have e20 : s20 = .bool true := hF.get 20 _ rfl (.inr p20)
        subst e20
        have r20 : A.tmps[57]? = some (.bool true) := hR.own 20 _ _ rfl rfl
        refine step_of ⟨some 64, _, _, _, _, _⟩ rfl (fun K' hK => ?_)
        rw [if_pos (by simp [Region.wanted, yielded, r20])]
        go_simp
        go_at_call 6
        (with_reducible refine (QtWn.out _ (HE.out.below (below_none hF.low))).mono ?_)
        rintro e Wq ⟨rfl, hq⟩
        exact hK.out _ _ ⟨_, hF.pure hok hla hpre rfl hq, rfl⟩
      rcases Nat.lt_or_ge i 29 with hi | hge
      · obtain rfl := eqi hi hge
        have p25 := hpre 25 (by kernel_rfl)
        have e25 : s25 = .agg #[.int .i64 1, .string (numS nq), .string (denS nq), .string { data := #[] }, .bool false, .int .i64 0, .int .i64 0, .int .i64 0, .slice none 0 0] := hF.get 25 _ rfl (.inr p25)
        subst e25
        have r25 : A.tmps[62]? = some (.agg #[.int .i64 1, .string (numS nq), .string (denS nq), .string { data := #[] }, .bool false, .int .i64 0, .int .i64 0, .int .i64 0, .slice none 0 0]) := hR.own 25 _ _ rfl rfl
        have p27 := hpre 27 (by kernel_rfl)
        have e27 : s27 = .agg #[.int .i64 1, .string (numS nq), .string (denS nq), .string { data := #[] }, .bool false, .int .i64 0, .int .i64 0, .int .i64 0, .slice none 0 0] := hF.get 27 _ rfl (.inr p27)
        subst e27
        have r27 : A.tmps[64]? = some (.agg #[.int .i64 1, .string (numS nq), .string (denS nq), .string { data := #[] }, .bool false, .int .i64 0, .int .i64 0, .int .i64 0, .slice none 0 0]) := hR.own 27 _ _ rfl rfl
        have p20 := hpre 20 (by kernel_rfl)
        have e20 : s20 = .bool true := hF.get 20 _ rfl (.inr p20)
        subst e20
        have r20 : A.tmps[57]? = some (.bool true) := hR.own 20 _ _ rfl rfl
        refine step_of ⟨some 65, _, _, _, _, _⟩ rfl (fun K' hK => ?_)
        rw [if_pos (by simp [Region.wanted, yielded, r20])]
        go_simp
        go_at_call 8
        (with_reducible refine (same_one nq _).mono ?_)
        rintro e Wq ⟨rfl, hq⟩
        exact hK.out _ _ ⟨_, hF.pure hok hla hpre rfl hq, rfl⟩
      obtain rfl := eqi hi hge
      have p20 := hpre 20 (by kernel_rfl)
      have e20 : s20 = .bool true := hF.get 20 _ rfl (.inr p20)
      subst e20
      have r20 : A.tmps[57]? = some (.bool true) := hR.own 20 _ _ rfl rfl
      have p28 := hpre 28 (by kernel_rfl)
      have e28 : s28 = .bool true := hF.get 28 _ rfl (.inr p28)
      subst e28
      have r28 : A.tmps[65]? = some (.bool true) := hR.own 28 _ _ rfl rfl
      refine step_of ⟨some 66, _, _, _, _, _⟩ rfl (fun K' hK => ?_)
      go_simp
      exact hK.out _ _ ⟨_, hF.pure hok hla hpre rfl (Below.refl _ _), rfl⟩
    rcases Nat.lt_or_ge i 35 with hi | hge
    · rcases Nat.lt_or_ge i 32 with hi | hge
      · rcases Nat.lt_or_ge i 31 with hi | hge
        · obtain rfl := eqi hi hge
          have p29 := hpre 29 (by kernel_rfl)
          have e29 : s29 = .bool true := hF.get 29 _ rfl (.inr p29)
          subst e29
          have r29 : A.tmps[66]? = some (.bool true) := hR.own 29 _ _ rfl rfl
          refine step_of ⟨some 67, _, _, _, _, _⟩ rfl (fun K' hK => ?_)
          go_simp
          exact hK.out _ _ ⟨_, hF.pure hok hla hpre rfl (Below.refl _ _), rfl⟩
        obtain rfl := eqi hi hge
        have p30 := hpre 30 (by kernel_rfl)
        have e30 : s30 = .bool true := hF.get 30 _ rfl (.inr p30)
        subst e30
        have r30 : A.tmps[67]? = some (.bool true) := hR.own 30 _ _ rfl rfl
        have ro8 : A.tmps[8]? = some (.pointer (some ⟨B8, 0, none⟩)) := hR.out 5 _ rfl
        have hcc := (nine_at (keep_block H8.out (below_none hF.low))).1
        have cH80 := hcc.1
        have cH81 := hcc.2.1
        have cH82 := hcc.2.2.1
        have cH83 := hcc.2.2.2.1
        have cH84 := hcc.2.2.2.2.1
        have cH85 := hcc.2.2.2.2.2.1
        have cH86 := hcc.2.2.2.2.2.2.1
        have cH87 := hcc.2.2.2.2.2.2.2.1
        have cH88 := hcc.2.2.2.2.2.2.2.2
        clear hcc
        refine step_of ⟨some 68, _, _, _, _, _⟩ rfl (fun K' hK => ?_)
        rw [if_pos (by simp [Region.wanted, yielded, r30])]
        go_simp
        exact hK.out _ _ ⟨_, hF.pure hok hla hpre rfl (Below.refl _ _), rfl⟩
      rcases Nat.lt_or_ge i 33 with hi | hge
      · obtain rfl := eqi hi hge
        have p31 := hpre 31 (by kernel_rfl)
        have e31 : s31 = .agg #[.int .i64 2, .string { data := #[] }, .string { data := #[] }, .string R, .bool false, .int .i64 0, .int .i64 0, .int .i64 0, .slice none 0 0] := hF.get 31 _ rfl (.inr p31)
        subst e31
        have r31 : A.tmps[68]? = some (.agg #[.int .i64 2, .string { data := #[] }, .string { data := #[] }, .string R, .bool false, .int .i64 0, .int .i64 0, .int .i64 0, .slice none 0 0]) := hR.own 31 _ _ rfl rfl
        have p30 := hpre 30 (by kernel_rfl)
        have e30 : s30 = .bool true := hF.get 30 _ rfl (.inr p30)
        subst e30
        have r30 : A.tmps[67]? = some (.bool true) := hR.own 30 _ _ rfl rfl
        refine step_of ⟨some 69, _, _, _, _, _⟩ rfl (fun K' hK => ?_)
        rw [if_pos (by simp [Region.wanted, yielded, r30])]
        go_simp
        exact hK.out _ _ ⟨_, hF.row hok hla hpre rfl, rfl⟩
      rcases Nat.lt_or_ge i 34 with hi | hge
      · obtain rfl := eqi hi hge
        have p32 := hpre 32 (by kernel_rfl)
        obtain ⟨G32, eG32, _, hGB32⟩ : ∃ G, s32 = .slice (some ⟨G, 0, none⟩) 1 1 ∧ _ ≤ G ∧ Wr.heap[G]? = some (.cells #[.int .i64 2, .string { data := #[] }, .string { data := #[] }, .string R, .bool false, .int .i64 0, .int .i64 0, .int .i64 0, .slice none 0 0] 27 (0, 0)) := hF.get 32 _ rfl (.inr p32)
        subst eG32
        have r32 : A.tmps[69]? = some (.slice (some ⟨G32, 0, none⟩) 1 1) := hR.own 32 _ _ rfl rfl
        have p30 := hpre 30 (by kernel_rfl)
        have e30 : s30 = .bool true := hF.get 30 _ rfl (.inr p30)
        subst e30
        have r30 : A.tmps[67]? = some (.bool true) := hR.own 30 _ _ rfl rfl
        refine step_of ⟨some 70, _, _, _, _, _⟩ rfl (fun K' hK => ?_)
        rw [if_pos (by simp [Region.wanted, yielded, r30])]
        go_simp
        go_at_call 5
        (with_reducible refine (QpA.out _ G32 hGB32 (HE.out.below (below_none hF.low))).mono ?_)
        rintro e Wq ⟨rfl, hq⟩
        exact hK.out _ _ ⟨_, hF.pure hok hla hpre rfl hq, rfl⟩
      obtain rfl := eqi hi hge
      have p30 := hpre 30 (by kernel_rfl)
      have e30 : s30 = .bool true := hF.get 30 _ rfl (.inr p30)
      subst e30
      have r30 : A.tmps[67]? = some (.bool true) := hR.own 30 _ _ rfl rfl
      have ro0 : A.tmps[0]? = some (.int .i64 (n : Int)) := hR.out 3 _ rfl
      refine step_of ⟨some 71, _, _, _, _, _⟩ rfl (fun K' hK => ?_)
      rw [if_pos (by simp [Region.wanted, yielded, r30])]
      go_simp
      exact hK.out _ _ ⟨_, hF.pure hok hla hpre rfl (Below.refl _ _), rfl⟩
    rcases Nat.lt_or_ge i 37 with hi | hge
    · rcases Nat.lt_or_ge i 36 with hi | hge
      · obtain rfl := eqi hi hge
        have p34 := hpre 34 (by kernel_rfl)
        have e34 : s34 = .int .i64 (n : Int) := hF.get 34 _ rfl (.inr p34)
        subst e34
        have r34 : A.tmps[71]? = some (.int .i64 (n : Int)) := hR.own 34 _ _ rfl rfl
        have p30 := hpre 30 (by kernel_rfl)
        have e30 : s30 = .bool true := hF.get 30 _ rfl (.inr p30)
        subst e30
        have r30 : A.tmps[67]? = some (.bool true) := hR.own 30 _ _ rfl rfl
        refine step_of ⟨some 72, _, _, _, _, _⟩ rfl (fun K' hK => ?_)
        rw [if_pos (by simp [Region.wanted, yielded, r30])]
        go_simp
        exact hK.out _ _ ⟨_, hF.pure hok hla hpre rfl (Below.refl _ _), rfl⟩
      obtain rfl := eqi hi hge
      have p35 := hpre 35 (by kernel_rfl)
      have e35 : s35 = .int .i64 (r : Int) := hF.get 35 _ rfl (.inr p35)
      subst e35
      have r35 : A.tmps[72]? = some (.int .i64 (r : Int)) := hR.own 35 _ _ rfl rfl
      have p30 := hpre 30 (by kernel_rfl)
      have e30 : s30 = .bool true := hF.get 30 _ rfl (.inr p30)
      subst e30
      have r30 : A.tmps[67]? = some (.bool true) := hR.own 30 _ _ rfl rfl
      refine step_of ⟨some 73, _, _, _, _, _⟩ rfl (fun K' hK => ?_)
      rw [if_pos (by simp [Region.wanted, yielded, r30])]
      go_simp
      go_at_call 6
      (with_reducible refine (QtWr.out _ (HE.out.below (below_none hF.low))).mono ?_)
      rintro e Wq ⟨rfl, hq⟩
      exact hK.out _ _ ⟨_, hF.pure hok hla hpre rfl hq, rfl⟩
    rcases Nat.lt_or_ge i 38 with hi | hge
    · obtain rfl := eqi hi hge
      have p33 := hpre 33 (by kernel_rfl)
      have e33 : s33 = .agg #[.int .i64 1, .string (numS rq), .string (denS rq), .string { data := #[] }, .bool false, .int .i64 0, .int .i64 0, .int .i64 0, .slice none 0 0] := hF.get 33 _ rfl (.inr p33)
      subst e33
      have r33 : A.tmps[70]? = some (.agg #[.int .i64 1, .string (numS rq), .string (denS rq), .string { data := #[] }, .bool false, .int .i64 0, .int .i64 0, .int .i64 0, .slice none 0 0]) := hR.own 33 _ _ rfl rfl
      have p36 := hpre 36 (by kernel_rfl)
      have e36 : s36 = .agg #[.int .i64 1, .string (numS rq), .string (denS rq), .string { data := #[] }, .bool false, .int .i64 0, .int .i64 0, .int .i64 0, .slice none 0 0] := hF.get 36 _ rfl (.inr p36)
      subst e36
      have r36 : A.tmps[73]? = some (.agg #[.int .i64 1, .string (numS rq), .string (denS rq), .string { data := #[] }, .bool false, .int .i64 0, .int .i64 0, .int .i64 0, .slice none 0 0]) := hR.own 36 _ _ rfl rfl
      have p30 := hpre 30 (by kernel_rfl)
      have e30 : s30 = .bool true := hF.get 30 _ rfl (.inr p30)
      subst e30
      have r30 : A.tmps[67]? = some (.bool true) := hR.own 30 _ _ rfl rfl
      refine step_of ⟨some 74, _, _, _, _, _⟩ rfl (fun K' hK => ?_)
      rw [if_pos (by simp [Region.wanted, yielded, r30])]
      go_simp
      go_at_call 8
      (with_reducible refine (same_one rq _).mono ?_)
      rintro e Wq ⟨rfl, hq⟩
      exact hK.out _ _ ⟨_, hF.pure hok hla hpre rfl hq, rfl⟩
    rcases Nat.lt_or_ge i 39 with hi | hge
    · obtain rfl := eqi hi hge
      have p30 := hpre 30 (by kernel_rfl)
      have e30 : s30 = .bool true := hF.get 30 _ rfl (.inr p30)
      subst e30
      have r30 : A.tmps[67]? = some (.bool true) := hR.own 30 _ _ rfl rfl
      have p37 := hpre 37 (by kernel_rfl)
      have e37 : s37 = .bool true := hF.get 37 _ rfl (.inr p37)
      subst e37
      have r37 : A.tmps[74]? = some (.bool true) := hR.own 37 _ _ rfl rfl
      refine step_of ⟨some 75, _, _, _, _, _⟩ rfl (fun K' hK => ?_)
      go_simp
      exact hK.out _ _ ⟨_, hF.pure hok hla hpre rfl (Below.refl _ _), rfl⟩
    obtain rfl := eqi hi hge
    have p38 := hpre 38 (by kernel_rfl)
    have e38 : s38 = .bool true := hF.get 38 _ rfl (.inr p38)
    subst e38
    have r38 : A.tmps[75]? = some (.bool true) := hR.own 38 _ _ rfl rfl
    refine step_of ⟨some 6, _, _, _, _, _⟩ rfl (fun K' hK => ?_)
    go_simp
    exact hK.out _ _ ⟨_, hF.pure hok hla hpre rfl (Below.refl _ _), rfl⟩
  case hd =>
    rintro listed vs WA hF hall
    obtain ⟨s0, s1, s2, s3, s4, s5, s6, s7, s8, s9, s10, s11, s12, s13, s14, s15, s16, s17, s18, s19, s20, s21, s22, s23, s24, s25, s26, s27, s28, s29, s30, s31, s32, s33, s34, s35, s36, s37, s38, s39, hvs⟩ := exl_of 40 vs (fun l => vs = l) hF.len rfl
    subst hvs
    have e38 : s38 = .bool true := hF.get 38 _ rfl (.inr (hall 38 (by decide)))
    subst e38
    have e39 : s39 = .bool true := hF.get 39 _ rfl (.inr (hall 39 (by decide)))
    subst e39
    have hq := below_none hF.low
    replace H7 := Lib.hid (keep_block H7.out hq)
    replace H8 := Lib.hid (keep_block H8.out hq)
    replace H9 := Lib.hid (keep_block H9.out hq)
    replace HE := Lib.hid (HE.out.below hq)
    replace HL := Lib.hid (HL.out.trans (hq.mono HL.out.size))
    clear hq
    clear hF hall hok hla hna
    refine rest_end ?_
    simp only [putO, layL]
    go_wp2
    go_ret
    exact ⟨rfl, HL.out⟩
end Go.Proofs.YtnlaecjniellpaaGreatDoor.Num.Mt

/- The law FmathSystemsBack answers true. Conditions: the tables lie as they are laid. -/
namespace Go.Proofs.YtnlaecjniellpaaGreatDoor.Num.Mt
open Go.RowKit Go.Lib Num

theorem sys_any (n0 k0 m0 : Int) (w : World) (hn0 : -9223372036854775808 ≤ n0) (hn1 : n0 ≤ 9223372036854775807) (hk0 : -9223372036854775808 ≤ k0) (hk1 : k0 ≤ 9223372036854775807) (hm0 : -9223372036854775808 ≤ m0) (hm1 : m0 ≤ 9223372036854775807) (hE : Env w) :
    Calls Tryz.prog 3 #[.int .i64 n0, .int .i64 k0, .int .i64 m0] w fun e w' => e = .returned (.bool true) ∧ Below w.heap.size w w' := by
  obtain ⟨n, hn⟩ : ∃ n : Nat, n0 % 1000000 = (n : Int) := ⟨(n0 % 1000000).toNat, by omega⟩
  obtain ⟨k, hk⟩ : ∃ k : Nat, k0 % 35 = (k : Int) - 2 := ⟨(k0 % 35).toNat + 2, by omega⟩
  obtain ⟨m, hm⟩ : ∃ m : Nat, m0 % 30 = (m : Int) := ⟨(m0 % 30).toNat, by omega⟩
  have hn9 : n < 1000000 := by omega
  have hk2 : 2 ≤ k := by omega
  have hk36 : k ≤ 36 := by omega
  have hm30 : m < 30 := by omega
  obtain ⟨r, hr⟩ : ∃ r, n % 4000 = r := ⟨_, rfl⟩
  have hr4 : r < 4000 := by omega
  have hl := digL_len k n m hk2 hn9 hm30
  have hmin := digL_min k n m
  have hdl := digL_lt k n m hk2
  have hrd := digL_read k n m hk2
  have hsz : (baseU k n m).size = (digL k n m).length := by simp [baseU, ByteArray.size]
  have hW : ∀ z : Nat, z < 1000000 → ∀ W, Env W → Calls Tryz.prog 6 #[.int .i64 (z : Int)] W fun e w' => e = .returned (numVal (((z : Nat) : Int) : Rat)) ∧ Below W.heap.size W w' := fun z hz W hE => kwhole_any (z : Int) W (by omega) (by omega) hE
  have tWn := hW n hn9
  have tWk := hW k (by omega)
  have tWm := hW m (by omega)
  have tWr := hW r (by omega)
  simp only [numVal_is] at tWn tWk tWm tWr
  refine sys_law n0 k0 m0 n k m r (((n : Nat) : Int) : Rat) (((k : Nat) : Int) : Rat) (((m : Nat) : Int) : Rat) (((r : Nat) : Int) : Rat) (baseU k n m) (lowB (baseU k n m)) (romB r) w hE hn9 hk2 hk36 hr ?_ ?_ ?_ tWn tWk tWm tWr ?_ ?_ ?_ ?_ ?_ ?_ (by omega)
  · intro W
    have T := kmod_any n0 1000000 hn0 hn1 (by decide) (by decide) W
    rw [hn] at T
    exact T
  · intro W
    have T := kmod_any k0 35 hk0 hk1 (by decide) (by decide) W
    rw [hk] at T
    exact T
  · intro W
    have T := kmod_any m0 30 hm0 hm1 (by decide) (by decide) W
    rw [hm] at T
    exact T
  · intro W G hG hE
    exact m_BASE n k m G 0 3 W hn9 hk2 hk36 hm30 (vals_of_block hG rfl) hE
  · intro W G hG hE
    exact m_ROMAN r G 0 1 W hr4 (vals_of_block hG rfl) hE
  · intro W G hG hE
    exact Fx.x_LOWER (baseU k n m) G 0 1 W (plain_baseU k n m hk2 hk36 hn9 hm30) (by rw [low_baseU k n m hk2 hk36]; exact plain_baseL k n m hk2 hk36 hn9 hm30) (vals_of_block hG rfl) hE
  · intro W G hG hE
    exact m_DECIMAL k n (digL k n m) (baseU k n m) G 0 2 W (plain_baseU k n m hk2 hk36 hn9 hm30) (low_baseU k n m hk2 hk36) (by omega) (by omega) hdl hk2 hk36 hrd hn9 (vals_of_block hG rfl) hE
  · intro W G hG hE
    exact m_DECIMAL k n (digL k n m) (lowB (baseU k n m)) G 0 2 W (by rw [low_baseU k n m hk2 hk36]; exact plain_baseL k n m hk2 hk36 hn9 hm30) (by rw [low_baseU k n m hk2 hk36]; exact low_baseL k n m hk2 hk36) (by omega) (by omega) hdl hk2 hk36 hrd hn9 (vals_of_block hG rfl) hE
  · intro W G hG hE
    exact m_ARABIC r G 0 1 W hr4 (vals_of_block hG rfl) hE
end Go.Proofs.YtnlaecjniellpaaGreatDoor.Num.Mt
