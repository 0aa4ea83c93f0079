/- Numbers as texts of digits, fractions, values and the functions of fmath: contracts of the program's functions, joined from smaller texts. Conditions stand at each theorem. -/
import Derived.Test.YtemdjmaakajhjaaGreatDoorFtwA
import Derived.Lib.MinMax
import Derived.Test.YtemdjmaakajhjaaGreatDoorNumH

/- package fstat: binomial over its arguments. Conditions: what the small functions give. -/
namespace Go.Proofs.YtemdjmaakajhjaaGreatDoor.Num.Ft
open Go.RowKit Go.Lib Num
/-- what stays while the cases are added -/
structure BiI (W : World) (b B5 B7 B8 : Nat) (x o s : Rat) (wx : World) : Prop where
  h2 : wx.heap[W.heap.size]? = some (.cells #[.string { data := #[] }, .string { data := #[] }] 24 (0, 0))
  h5 : wx.heap[B5]? = some (.cells #[.string (numS x), .string (denS x)] 24 (0, 0))
  h7 : wx.heap[B7]? = some (.cells #[.string (numS o), .string (denS o)] 24 (0, 0))
  h8 : wx.heap[B8]? = some (.cells #[.string (numS s), .string (denS s)] 24 (0, 0))
  low : W.grownBy wx (some b)
attribute [local irreducible] wpOp
set_option linter.unusedVariables false in
/-- what the operations of region 10 yield -/
def binom_oneOneKs10 (x o s t r cc xp rp m1 m2 : Rat) (n k j B5 B7 B8 : Nat) (W : World) : List RK :=
  [.pure (.agg #[.string (numS s), .string (denS s)]),
   .pure (.int .i64 (n : Int)),
   .pure (.int .i64 (j : Int)),
   .pure (.agg #[.string (numS cc), .string (denS cc)]),
   .pure (.agg #[.string (numS x), .string (denS x)]),
   .pure (.int .i64 (j : Int)),
   .pure (.agg #[.string (numS xp), .string (denS xp)]),
   .pure (.agg #[.string (numS o), .string (denS o)]),
   .pure (.agg #[.string (numS x), .string (denS x)]),
   .pure (.agg #[.string (numS r), .string (denS r)]),
   .pure (.int .i64 (n : Int)),
   .pure (.int .i64 (j : Int)),
   .pure (.int .i64 ((n : Int) - (j : Int))),
   .pure (.agg #[.string (numS rp), .string (denS rp)]),
   .pure (.agg #[.string (numS m1), .string (denS m1)]),
   .pure (.agg #[.string (numS m2), .string (denS m2)]),
   .pure (.agg #[.string (numS t), .string (denS t)]),
   .put 21,
   .box (some (W.heap.size)) #[.string { data := #[] }, .string { data := #[] }] #[.string { data := #[] }, .string { data := #[] }] 24 22,
   .box (some (B5)) #[.string (numS x), .string (denS x)] #[.string (numS x), .string (denS x)] 24 22,
   .box (some (B7)) #[.string (numS o), .string (denS o)] #[.string (numS o), .string (denS o)] 24 22,
   .box (some (B8)) #[.string (numS s), .string (denS s)] #[.string (numS t), .string (denS t)] 24 17]
set_option linter.unusedSimpArgs false in
set_option linter.unusedVariables false in
set_option maxHeartbeats 4000000 in
set_option maxRecDepth 100000 in
theorem binom_one (n k : Nat) (q0 q1 x o z r : Rat) (e1 e2 : Int) (S CC XP RP M1 M2 : Nat → Rat) (b g C : Nat) (W : World) (hn : n ≤ 20)
    (hk : k ≤ n)
    (hq0 : fits q0 = true)
    (hq1 : fits q1 = true)
    (hq2 : fits x = true)
    (hw0 : q0.floor = (k : Int))
    (hw1 : q1.floor = (n : Int))
    (c0 : Fun1 29 (.int .i64 1) (.agg #[.string (numS o), .string (denS o)]))
    (c1 : Fun1 29 (.int .i64 0) (.agg #[.string (numS z), .string (denS z)]))
    (c2 : Fun1 156 (.agg #[.string (numS x), .string (denS x)]) (.int .i64 e1))
    (he1 : 0 ≤ e1)
    (c3 : Fun2 141 (.agg #[.string (numS x), .string (denS x)]) (.agg #[.string (numS o), .string (denS o)]) (.int .i64 e2))
    (he2 : e2 ≤ 0)
    (c4 : Fun2 147 (.agg #[.string (numS o), .string (denS o)]) (.agg #[.string (numS x), .string (denS x)]) (.agg #[.string (numS r), .string (denS r)]))
    (hS : S k = z)
    (hc : ∀ (j : Nat), k ≤ j → j ≤ k → Fun2 273 (.int .i64 (n : Int)) (.int .i64 (j : Int)) (fracV (CC j)) ∧ Fun2 158 (.agg #[.string (numS x), .string (denS x)]) (.int .i64 (j : Int)) (fracV (XP j)) ∧ Fun2 158 (.agg #[.string (numS r), .string (denS r)]) (.int .i64 ((n : Int) - (j : Int))) (fracV (RP j)))
    (hm : ∀ (j : Nat), k ≤ j → j ≤ k → Fun2 144 (fracV (XP j)) (fracV (RP j)) (fracV (M1 j)) ∧ Fun2 144 (fracV (CC j)) (fracV (M1 j)) (fracV (M2 j)) ∧ Fun2 140 (fracV (S j)) (fracV (M2 j)) (fracV (S (j + 1))))
    (ha : ArgsAt W b (some ⟨g, 0, none⟩) 4 C 0) (hne : g ≠ b) (hc0 : NumCells W g (0 + 0 * 9) q0) (hc1 : NumCells W g (0 + 1 * 9) q1) (hc2 : NumCells W g (0 + 2 * 9) x) (hc3 : CellsAt W g (0 + 3 * 9) (.int .i64 3) (.string { data := #[] }) (.string { data := #[] }) (.string { data := #[] }) (.bool false) (.int .i64 0) (.int .i64 0) (.int .i64 0) (.slice none 0 0)) (hE : EnvY W) (hP : Past b) :
    Calls Tryz.prog 182 #[.pointer (some ⟨b, 0, none⟩)] W fun e w' => e = .returned (.agg #[.string (numS (S (k + 1))), .string (denS (S (k + 1)))]) ∧ W.grownBy w' (some b) := by
  have TA0 := Lib.hid (fun W' ga gc ge => argWhole_any b g 0 4 C 0 q0 W' ga (by decide) (by decide) hne gc hq0 (by rw [hw0]; omega) (by rw [hw0]; omega) ge hP)
  rw [hw0] at TA0
  have TA1 := Lib.hid (fun W' ga gc ge => argWhole_any b g 0 4 C 1 q1 W' ga (by decide) (by decide) hne gc hq1 (by rw [hw1]; omega) (by rw [hw1]; omega) ge hP)
  rw [hw1] at TA1
  have TA2 := Lib.hid (fun W' ga gc ge => argNum_any b g 0 4 C 2 x W' ga (by decide) (by decide) hne gc hq2 ge hP)
  rw [fracV_is x] at TA2
  have TA3 := Lib.hid (fun W' ga gc ge => argFlag_B b g 0 4 C 3 false false W' ga (by decide) (by decide) hne gc ge hP)
  have Qc0 := Lib.hid c0
  have Qc1 := Lib.hid c1
  have Qc2 := Lib.hid c2
  have Qc3 := Lib.hid c3
  have Qc4 := Lib.hid c4
  unfold Fun1 at Qc0 Qc1 Qc2
  unfold Fun2 at Qc3 Qc4
  have HS := Lib.hid hS
  have QC := Lib.hid hc
  have QM := Lib.hid hm
  have f0 : decide ((k : Int) < 0) = false := decide_eq_false (by omega)
  have f1 : decide ((n : Int) < (k : Int)) = false := decide_eq_false (by omega)
  have f1' : decide (n < k) = false := decide_eq_false (by omega)
  have f2 : decide ((100 : Int) < (n : Int)) = false := decide_eq_false (by omega)
  have f3 : decide (e1 < 0) = false := decide_eq_false (by omega)
  have f4 : decide (0 < e2) = false := decide_eq_false (by omega)
  have HP := Lib.hid hP
  have HE0 := Lib.hid hE
  have NG := Lib.hid hne
  have HBW := Lib.hid (heap_lt ha)
  have hb : Below W.heap.size W (W.alloc (.cells #[.string { data := #[] }, .string { data := #[] }] 24)) := ((Below.refl _ _).alloc (Nat.le_refl _) _)
  have HG := Lib.hid (kept_below (b := b) hb)
  have HE := Lib.hid (hE.below hb)
  have HA := Lib.hid (show ArgsAt (W.alloc (.cells #[.string { data := #[] }, .string { data := #[] }] 24)) b (some ⟨g, 0, none⟩) 4 C 0 from keep_block ha hb)
  have HC0 := Lib.hid (NumCells.below hc0 hb)
  have HC1 := Lib.hid (NumCells.below hc1 hb)
  have HC2 := Lib.hid (NumCells.below hc2 hb)
  have HC3 := Lib.hid (CellsAt.below hc3 hb)
  have H2 : Hid ((W.alloc (.cells #[.string { data := #[] }, .string { data := #[] }] 24)).heap[W.heap.size]? = some (.cells #[.string { data := #[] }, .string { data := #[] }] 24 (0, 0))) := Lib.hid (by
    have h := heap_alloc_new W (.cells #[.string { data := #[] }, .string { data := #[] }] 24)
    exact h)
  have NE2 : Hid (W.heap.size ≠ b) := Lib.hid (by have := HBW.out; omega)
  obtain ⟨W0, hW0⟩ : ∃ Z, (W.alloc (.cells #[.string { data := #[] }, .string { data := #[] }] 24)) = Z := ⟨_, rfl⟩
  rw [hW0] at HG HE HA HC0 HC1 HC2 HC3 H2
  have EW0 := Lib.hid hW0
  clear hW0 hb ha hE hP hne hc0 hc1 hc2 hc3  hq0 hq1 hq2 hw0 hw1 c0 c1 c2 he1 c3 he2 c4 hS hc hm
  go_enter Tryz.func182, Tryz.ntmps182
  go_wp2_with fail
  rw [EW0.out]
  refine (TA0.out _ HA.out HC0.out HE.out).mono ?_
  rintro e w1 ⟨rfl, ha, hg⟩
  replace HA := Lib.hid ha
  clear HC0
  replace H2 := Lib.hid (kept_block H2.out hg NE2.out)
  replace HC1 := Lib.hid (HC1.out.kept hg NG.out)
  replace HC2 := Lib.hid (HC2.out.kept hg NG.out)
  replace HC3 := Lib.hid (HC3.out.kept hg NG.out)
  replace HE := Lib.hid (HE.out.kept hg HP.out)
  replace HG := Lib.hid (kept_trans HG.out hg)
  clear ha hg
  go_wp2_with fail
  refine (TA1.out _ HA.out HC1.out HE.out).mono ?_
  rintro e w2 ⟨rfl, ha, hg⟩
  replace HA := Lib.hid ha
  clear HC1
  replace H2 := Lib.hid (kept_block H2.out hg NE2.out)
  replace HC2 := Lib.hid (HC2.out.kept hg NG.out)
  replace HC3 := Lib.hid (HC3.out.kept hg NG.out)
  replace HE := Lib.hid (HE.out.kept hg HP.out)
  replace HG := Lib.hid (kept_trans HG.out hg)
  clear ha hg
  go_wp2_with fail
  refine (TA2.out _ HA.out HC2.out HE.out).mono ?_
  rintro e w3 ⟨rfl, ha, hg⟩
  replace HA := Lib.hid ha
  clear HC2
  replace H2 := Lib.hid (kept_block H2.out hg NE2.out)
  replace HC3 := Lib.hid (HC3.out.kept hg NG.out)
  replace HE := Lib.hid (HE.out.kept hg HP.out)
  replace HG := Lib.hid (kept_trans HG.out hg)
  clear ha hg
  go_wp2_with fail
  refine (TA3.out _ HA.out HC3.out HE.out).mono ?_
  rintro e w4 ⟨rfl, ha, hg⟩
  replace HA := Lib.hid ha
  clear HC3
  replace H2 := Lib.hid (kept_block H2.out hg NE2.out)
  replace HE := Lib.hid (HE.out.kept hg HP.out)
  replace HG := Lib.hid (kept_trans HG.out hg)
  clear ha hg
  have lt_2 := heap_lt H2.out
  have geW := HG.out.size
  have L5_2 : Hid (W.heap.size < w4.heap.size) := Lib.hid (by omega)
  have G5 : Hid (W.heap.size ≤ w4.heap.size) := Lib.hid (by omega)
  have NE5 : Hid (w4.heap.size ≠ b) := Lib.hid (by have := HBW.out; omega)
  have hb : Below w4.heap.size w4 (w4.alloc (.cells #[.string (numS x), .string (denS x)] 24)) := (Below.refl _ _).alloc (Nat.le_refl _) _
  replace H2 := Lib.hid (keep_block H2.out hb)
  replace HA := Lib.hid (keep_block HA.out hb)
  replace HE := Lib.hid (HE.out.below hb)
  replace HG := Lib.hid (kept_trans HG.out (kept_below hb))
  have H5 := Lib.hid (heap_alloc_new w4 (.cells #[.string (numS x), .string (denS x)] 24))
  clear hb
  clear geW lt_2
  obtain ⟨WL1, hWL1⟩ : ∃ Z, (w4.alloc (.cells #[.string (numS x), .string (denS x)] 24)) = Z := ⟨_, rfl⟩
  rw [hWL1] at HE HG H2 H5 HA
  have EWL1 := Lib.hid hWL1
  clear hWL1
  clear HA 
  go_wp2_with fail
  rw [EWL1.out]
  refine (Qc0.out _ HE.out).mono ?_
  rintro e w5 ⟨rfl, hb⟩
  replace H2 := Lib.hid (keep_block H2.out hb)
  replace H5 := Lib.hid (keep_block H5.out hb)
  replace HE := Lib.hid (HE.out.below hb)
  replace HG := Lib.hid (kept_trans HG.out (kept_below hb))
  clear hb
  have lt_2 := heap_lt H2.out
  have lt_5 := heap_lt H5.out
  have geW := HG.out.size
  have L7_2 : Hid (W.heap.size < w5.heap.size) := Lib.hid (by omega)
  have L7_5 : Hid (w4.heap.size < w5.heap.size) := Lib.hid (by omega)
  have G7 : Hid (W.heap.size ≤ w5.heap.size) := Lib.hid (by omega)
  have NE7 : Hid (w5.heap.size ≠ b) := Lib.hid (by have := HBW.out; omega)
  have hb : Below w5.heap.size w5 (w5.alloc (.cells #[.string (numS o), .string (denS o)] 24)) := (Below.refl _ _).alloc (Nat.le_refl _) _
  replace H2 := Lib.hid (keep_block H2.out hb)
  replace H5 := Lib.hid (keep_block H5.out hb)
  replace HE := Lib.hid (HE.out.below hb)
  replace HG := Lib.hid (kept_trans HG.out (kept_below hb))
  have H7 := Lib.hid (heap_alloc_new w5 (.cells #[.string (numS o), .string (denS o)] 24))
  clear hb
  clear geW lt_2 lt_5
  obtain ⟨WL2, hWL2⟩ : ∃ Z, (w5.alloc (.cells #[.string (numS o), .string (denS o)] 24)) = Z := ⟨_, rfl⟩
  rw [hWL2] at HE HG H2 H5 H7
  have EWL2 := Lib.hid hWL2
  clear hWL2
  go_upto_region 3 with fail
  rw [EWL2.out]
  obtain ⟨⟨x5_0, x5_1⟩, x5_f0, x5_f1⟩ := two_at H5.out
  go_wp2_with fail
  refine (Qc2.out _ HE.out).mono ?_
  clear x5_0 x5_1 x5_f0 x5_f1
  rintro e w6 ⟨rfl, hb⟩
  replace H2 := Lib.hid (keep_block H2.out hb)
  replace H5 := Lib.hid (keep_block H5.out hb)
  replace H7 := Lib.hid (keep_block H7.out hb)
  replace HE := Lib.hid (HE.out.below hb)
  replace HG := Lib.hid (kept_trans HG.out (kept_below hb))
  clear hb
  obtain ⟨⟨x5_0, x5_1⟩, x5_f0, x5_f1⟩ := two_at H5.out
  obtain ⟨⟨x7_0, x7_1⟩, x7_f0, x7_f1⟩ := two_at H7.out
  go_wp2_with fail
  refine (Qc3.out _ HE.out).mono ?_
  clear x5_0 x5_1 x5_f0 x5_f1
  clear x7_0 x7_1 x7_f0 x7_f1
  rintro e w7 ⟨rfl, hb⟩
  replace H2 := Lib.hid (keep_block H2.out hb)
  replace H5 := Lib.hid (keep_block H5.out hb)
  replace H7 := Lib.hid (keep_block H7.out hb)
  replace HE := Lib.hid (HE.out.below hb)
  replace HG := Lib.hid (kept_trans HG.out (kept_below hb))
  clear hb
  go_wp2_with fail
  refine (stop_no 5 _).mono ?_
  rintro e w8 ⟨rfl, hws⟩
  replace hws := hws.symm
  subst hws
  go_wp2_with fail
  refine (Qc1.out _ HE.out).mono ?_
  rintro e w9 ⟨rfl, hb⟩
  replace H2 := Lib.hid (keep_block H2.out hb)
  replace H5 := Lib.hid (keep_block H5.out hb)
  replace H7 := Lib.hid (keep_block H7.out hb)
  replace HE := Lib.hid (HE.out.below hb)
  replace HG := Lib.hid (kept_trans HG.out (kept_below hb))
  clear hb
  have lt_2 := heap_lt H2.out
  have lt_5 := heap_lt H5.out
  have lt_7 := heap_lt H7.out
  have geW := HG.out.size
  have L8_2 : Hid (W.heap.size < w9.heap.size) := Lib.hid (by omega)
  have L8_5 : Hid (w4.heap.size < w9.heap.size) := Lib.hid (by omega)
  have L8_7 : Hid (w5.heap.size < w9.heap.size) := Lib.hid (by omega)
  have G8 : Hid (W.heap.size ≤ w9.heap.size) := Lib.hid (by omega)
  have NE8 : Hid (w9.heap.size ≠ b) := Lib.hid (by have := HBW.out; omega)
  have hb : Below w9.heap.size w9 (w9.alloc (.cells #[.string (numS z), .string (denS z)] 24)) := (Below.refl _ _).alloc (Nat.le_refl _) _
  replace H2 := Lib.hid (keep_block H2.out hb)
  replace H5 := Lib.hid (keep_block H5.out hb)
  replace H7 := Lib.hid (keep_block H7.out hb)
  replace HE := Lib.hid (HE.out.below hb)
  replace HG := Lib.hid (kept_trans HG.out (kept_below hb))
  have H8 := Lib.hid (heap_alloc_new w9 (.cells #[.string (numS z), .string (denS z)] 24))
  clear hb
  clear geW lt_2 lt_5 lt_7
  obtain ⟨WL3, hWL3⟩ : ∃ Z, (w9.alloc (.cells #[.string (numS z), .string (denS z)] 24)) = Z := ⟨_, rfl⟩
  rw [hWL3] at HE HG H2 H5 H7 H8
  have EWL3 := Lib.hid hWL3
  clear hWL3
  go_wp2_with fail
  rw [EWL3.out]
  obtain ⟨B5, hB5⟩ : ∃ z, w4.heap.size = z := ⟨_, rfl⟩
  rw [hB5] at H5 G5 L5_2 L7_5 L8_5 ⊢
  clear hB5
  obtain ⟨B7, hB7⟩ : ∃ z, w5.heap.size = z := ⟨_, rfl⟩
  rw [hB7] at H7 G7 L7_2 L7_5 L8_7 ⊢
  clear hB7
  obtain ⟨B8, hB8⟩ : ∃ z, w9.heap.size = z := ⟨_, rfl⟩
  rw [hB8] at H8 G8 L8_2 L8_5 L8_7 ⊢
  clear hB8
  go_loopg [10] (k + 1 - k) (fun gh v10 wx => ∃ j : Nat, v10 = .int .i64 (j : Int) ∧ k ≤ j ∧ j ≤ k + 1 ∧ gh = k + 1 - j ∧ BiI W b B5 B7 B8 x o (S j) wx)
  case atStart => exact ⟨k, by rfl, Nat.le_refl _, by omega, by omega, ⟨H2.out, H5.out, H7.out, by rw [HS.out]; exact H8.out, HG.out⟩⟩
  case round =>
    clear H2 H5 H7 H8 HG HE
    obtain ⟨j, rfl, hj0, hj, hgj, hI⟩ := hrel
    have H2 := Lib.hid hI.h2
    have H5 := Lib.hid hI.h5
    have H7 := Lib.hid hI.h7
    have H8 := Lib.hid hI.h8
    have HG := Lib.hid hI.low
    have HE := Lib.hid (HE0.out.kept hI.low HP.out)
    clear hI
    by_cases hlt : j ≤ k
    · have hdd : decide ((j : Int) ≤ (k : Int)) = true := decide_eq_true (by omega)
      have hdd2 : decide (j ≤ k) = true := decide_eq_true hlt
      have hw1 : IntKind.i64.wrap ((n : Int) - (j : Int)) = (n : Int) - (j : Int) := IntWalk.i64_in _ (by omega)
      have hw3 : IntKind.i64.wrap ((j : Int) + 1) = (j : Int) + 1 := IntWalk.i64_in _ (by omega)
      have QC1 := Lib.hid (QC.out j hj0 hlt).1
      have QC2 := Lib.hid (QC.out j hj0 hlt).2.1
      have QC3 := Lib.hid (QC.out j hj0 hlt).2.2
      have QM1 := Lib.hid (QM.out j hj0 hlt).1
      have QM2 := Lib.hid (QM.out j hj0 hlt).2.1
      have QM3 := Lib.hid (QM.out j hj0 hlt).2.2
      obtain ⟨cc, hcc⟩ : ∃ x, CC j = x := ⟨_, rfl⟩
      rw [hcc] at QC1 QM2
      obtain ⟨xp, hxp⟩ : ∃ x, XP j = x := ⟨_, rfl⟩
      rw [hxp] at QC2 QM1
      obtain ⟨rp, hrp⟩ : ∃ x, RP j = x := ⟨_, rfl⟩
      rw [hrp] at QC3 QM1
      obtain ⟨m1, hm1⟩ : ∃ x, M1 j = x := ⟨_, rfl⟩
      rw [hm1] at QM1 QM2
      obtain ⟨m2, hm2⟩ : ∃ x, M2 j = x := ⟨_, rfl⟩
      rw [hm2] at QM2 QM3
      obtain ⟨s, hs⟩ : ∃ x, S j = x := ⟨_, rfl⟩
      rw [hs] at QM3 H8
      obtain ⟨t, ht⟩ : ∃ x, S (j + 1) = x := ⟨_, rfl⟩
      rw [ht] at QM3
      have HT := Lib.hid ht
      unfold Fun2 at QC1 QC2 QC3 QM1 QM2 QM3
      rw [fracV_is cc] at QC1
      rw [fracV_is xp] at QC2
      rw [fracV_is rp] at QC3
      rw [fracV_is xp, fracV_is rp, fracV_is m1] at QM1
      rw [fracV_is cc, fracV_is m1, fracV_is m2] at QM2
      rw [fracV_is s, fracV_is m2, fracV_is t] at QM3
      clear hcc hxp hrp hm1 hm2 hs ht
      go_upto_region 10 with fail
      go_wp2_with fail
      have := L5_2.out
      have := L7_2.out
      have := L7_5.out
      have := L8_2.out
      have := L8_5.out
      have := L8_7.out
      have := HG.out.size
      have := G5.out
      have := G7.out
      have := G8.out
      have hok : okB 18 (binom_oneOneKs10 x o s t r cc xp rp m1 m2 n k j B5 B7 B8 W) = true := by kernel_rfl
      have hna := noAny_of (ks := (binom_oneOneKs10 x o s t r cc xp rp m1 m2 n k j B5 B7 B8 W)) (by kernel_rfl)
      have hla := lasts_of hna
      refine wp_region_facts (row := (some b)) (w := W) 18 (binom_oneOneKs10 x o s t r cc xp rp m1 m2 n k j B5 B7 B8 W) [some 52, some 53, some 54, some 55, some 56, some 57, some 58, some 59, some 60, some 61, some 62, some 63, some 64, some 65, some 66, some 67, some 68, none] (by kernel_rfl) (by kernel_rfl) rfl [u52, u53, u54, u55, u56, u57, u58, u59, u60, u61, u62, u63, u64, u65, u66, u67, u68, undef, .pointer (some ⟨W.heap.size, 0, none⟩), .pointer (some ⟨B5, 0, none⟩), .pointer (some ⟨B7, 0, none⟩), .pointer (some ⟨B8, 0, none⟩)] ?h00 (Fs.start_olds hla rfl HG.out ⟨⟨_, rfl, fun _ h => Option.some.inj h, by omega, H2.out⟩, fun _ => ⟨fun _ => far_of (by omega), fun _ => far_of (by omega), fun _ => far_of (by omega), trivial⟩, ⟨⟨_, rfl, fun _ h => Option.some.inj h, by omega, H5.out⟩, fun _ => ⟨fun _ => far_of (by omega), fun _ => far_of (by omega), trivial⟩, ⟨⟨_, rfl, fun _ h => Option.some.inj h, by omega, H7.out⟩, fun _ => ⟨fun _ => far_of (by omega), trivial⟩, ⟨⟨_, rfl, fun _ h => Option.some.inj h, by omega, H8.out⟩, fun _ => trivial, trivial⟩⟩⟩⟩) ?hs ?hd
      case h00 => simp only [putO, layL]
      case hs =>
        rintro listed vs Wr hF i hi hun hpre
        obtain ⟨s0, s1, s2, s3, s4, s5, s6, s7, s8, s9, s10, s11, s12, s13, s14, s15, s16, s17, o0, o1, o2, o3, hvs⟩ := exl_of 22 vs (fun l => vs = l) hF.len rfl
        subst hvs
        obtain ⟨eG0, gG0, hO0⟩ := old_of hF (i := 18) rfl (.inl (by decide))
        replace eG0 : o0 = _ := eG0
        subst eG0
        obtain ⟨eG1, gG1, hO1⟩ := old_of hF (i := 19) rfl (.inl (by decide))
        replace eG1 : o1 = _ := eG1
        subst eG1
        obtain ⟨eG2, gG2, hO2⟩ := old_of hF (i := 20) rfl (.inl (by decide))
        replace eG2 : o2 = _ := eG2
        subst eG2
        obtain ⟨eG3, gG3, hO3⟩ := old_of hF (i := 21) rfl (.inl (by decide))
        replace eG3 : o3 = _ := eG3
        subst eG3
        have hge := Nat.zero_le i
        simp only [putO, layL]
        rcases Nat.lt_or_ge i 9 with hlt | hgt
        · replace hi := hlt
          clear hlt
          rcases Nat.lt_or_ge i 4 with hlt | hgt
          · replace hi := hlt
            clear hlt
            rcases Nat.lt_or_ge i 2 with hlt | hgt
            · replace hi := hlt
              clear hlt
              rcases Nat.lt_or_ge i 1 with hlt | hgt
              · replace hi := hlt
                clear hlt
                obtain rfl := eqi hi hge
                rw [if_neg (fun h => bit_off hun (hF.back 17 0 h (by kernel_rfl)))] at hO3
                have hcc := (two_at (hO3)).1
                have cH80 := hcc.1
                have cH81 := hcc.2
                clear hcc
                refine step_of ⟨some 52, _, _, _, _, _⟩ rfl (fun K' hK => ?_)
                go_simp
                refine hK.out _ _ ⟨_, hF.pure hok hla hpre rfl (Below.refl _ _), ?fr⟩
                case fr => simp only [putO, layL]
              · replace hge : 1 ≤ i := hgt
                clear hgt
                obtain rfl := eqi hi hge
                refine step_of ⟨some 53, _, _, _, _, _⟩ rfl (fun K' hK => ?_)
                go_simp
                refine hK.out _ _ ⟨_, hF.pure hok hla hpre rfl (Below.refl _ _), ?fr⟩
                case fr => simp only [putO, layL]
            · replace hge : 2 ≤ i := hgt
              clear hgt
              rcases Nat.lt_or_ge i 3 with hlt | hgt
              · replace hi := hlt
                clear hlt
                obtain rfl := eqi hi hge
                refine step_of ⟨some 54, _, _, _, _, _⟩ rfl (fun K' hK => ?_)
                go_simp
                refine hK.out _ _ ⟨_, hF.pure hok hla hpre rfl (Below.refl _ _), ?fr⟩
                case fr => simp only [putO, layL]
              · replace hge : 3 ≤ i := hgt
                clear hgt
                obtain rfl := eqi hi hge
                have p1 := hpre 1 (by kernel_rfl)
                have e1 : s1 = .int .i64 (n : Int) := hF.get 1 _ rfl (.inr p1)
                subst e1
                have p2 := hpre 2 (by kernel_rfl)
                have e2 : s2 = .int .i64 (j : Int) := hF.get 2 _ rfl (.inr p2)
                subst e2
                refine step_of ⟨some 55, _, _, _, _, _⟩ rfl (fun K' hK => ?_)
                go_simp
                go_at_call 273
                (with_reducible refine (QC1.out _ (HE0.out.kept hF.low HP.out)).mono ?_)
                rintro e Wq ⟨rfl, hq⟩
                refine hK.out _ _ ⟨_, hF.pure hok hla hpre rfl hq, ?fr⟩
                case fr => simp only [putO, layL]
          · replace hge : 4 ≤ i := hgt
            clear hgt
            rcases Nat.lt_or_ge i 6 with hlt | hgt
            · replace hi := hlt
              clear hlt
              rcases Nat.lt_or_ge i 5 with hlt | hgt
              · replace hi := hlt
                clear hlt
                obtain rfl := eqi hi hge
                rw [if_neg (hF.unst (by decide))] at hO1
                have hcc := (two_at (hO1)).1
                have cH50 := hcc.1
                have cH51 := hcc.2
                clear hcc
                refine step_of ⟨some 56, _, _, _, _, _⟩ rfl (fun K' hK => ?_)
                go_simp
                refine hK.out _ _ ⟨_, hF.pure hok hla hpre rfl (Below.refl _ _), ?fr⟩
                case fr => simp only [putO, layL]
              · replace hge : 5 ≤ i := hgt
                clear hgt
                obtain rfl := eqi hi hge
                refine step_of ⟨some 57, _, _, _, _, _⟩ rfl (fun K' hK => ?_)
                go_simp
                refine hK.out _ _ ⟨_, hF.pure hok hla hpre rfl (Below.refl _ _), ?fr⟩
                case fr => simp only [putO, layL]
            · replace hge : 6 ≤ i := hgt
              clear hgt
              rcases Nat.lt_or_ge i 7 with hlt | hgt
              · replace hi := hlt
                clear hlt
                obtain rfl := eqi hi hge
                have p4 := hpre 4 (by kernel_rfl)
                have e4 : s4 = .agg #[.string (numS x), .string (denS x)] := hF.get 4 _ rfl (.inr p4)
                subst e4
                have p5 := hpre 5 (by kernel_rfl)
                have e5 : s5 = .int .i64 (j : Int) := hF.get 5 _ rfl (.inr p5)
                subst e5
                refine step_of ⟨some 58, _, _, _, _, _⟩ rfl (fun K' hK => ?_)
                go_simp
                go_at_call 158
                (with_reducible refine (QC2.out _ (HE0.out.kept hF.low HP.out)).mono ?_)
                rintro e Wq ⟨rfl, hq⟩
                refine hK.out _ _ ⟨_, hF.pure hok hla hpre rfl hq, ?fr⟩
                case fr => simp only [putO, layL]
              · replace hge : 7 ≤ i := hgt
                clear hgt
                rcases Nat.lt_or_ge i 8 with hlt | hgt
                · replace hi := hlt
                  clear hlt
                  obtain rfl := eqi hi hge
                  rw [if_neg (hF.unst (by decide))] at hO2
                  have hcc := (two_at (hO2)).1
                  have cH70 := hcc.1
                  have cH71 := hcc.2
                  clear hcc
                  refine step_of ⟨some 59, _, _, _, _, _⟩ rfl (fun K' hK => ?_)
                  go_simp
                  refine hK.out _ _ ⟨_, hF.pure hok hla hpre rfl (Below.refl _ _), ?fr⟩
                  case fr => simp only [putO, layL]
                · replace hge : 8 ≤ i := hgt
                  clear hgt
                  obtain rfl := eqi hi hge
                  rw [if_neg (hF.unst (by decide))] at hO1
                  have hcc := (two_at (hO1)).1
                  have cH50 := hcc.1
                  have cH51 := hcc.2
                  clear hcc
                  refine step_of ⟨some 60, _, _, _, _, _⟩ rfl (fun K' hK => ?_)
                  go_simp
                  refine hK.out _ _ ⟨_, hF.pure hok hla hpre rfl (Below.refl _ _), ?fr⟩
                  case fr => simp only [putO, layL]
        · replace hge : 9 ≤ i := hgt
          clear hgt
          rcases Nat.lt_or_ge i 13 with hlt | hgt
          · replace hi := hlt
            clear hlt
            rcases Nat.lt_or_ge i 11 with hlt | hgt
            · replace hi := hlt
              clear hlt
              rcases Nat.lt_or_ge i 10 with hlt | hgt
              · replace hi := hlt
                clear hlt
                obtain rfl := eqi hi hge
                have p7 := hpre 7 (by kernel_rfl)
                have e7 : s7 = .agg #[.string (numS o), .string (denS o)] := hF.get 7 _ rfl (.inr p7)
                subst e7
                have p8 := hpre 8 (by kernel_rfl)
                have e8 : s8 = .agg #[.string (numS x), .string (denS x)] := hF.get 8 _ rfl (.inr p8)
                subst e8
                refine step_of ⟨some 61, _, _, _, _, _⟩ rfl (fun K' hK => ?_)
                go_simp
                go_at_call 147
                (with_reducible refine (Qc4.out _ (HE0.out.kept hF.low HP.out)).mono ?_)
                rintro e Wq ⟨rfl, hq⟩
                refine hK.out _ _ ⟨_, hF.pure hok hla hpre rfl hq, ?fr⟩
                case fr => simp only [putO, layL]
              · replace hge : 10 ≤ i := hgt
                clear hgt
                obtain rfl := eqi hi hge
                refine step_of ⟨some 62, _, _, _, _, _⟩ rfl (fun K' hK => ?_)
                go_simp
                refine hK.out _ _ ⟨_, hF.pure hok hla hpre rfl (Below.refl _ _), ?fr⟩
                case fr => simp only [putO, layL]
            · replace hge : 11 ≤ i := hgt
              clear hgt
              rcases Nat.lt_or_ge i 12 with hlt | hgt
              · replace hi := hlt
                clear hlt
                obtain rfl := eqi hi hge
                refine step_of ⟨some 63, _, _, _, _, _⟩ rfl (fun K' hK => ?_)
                go_simp
                refine hK.out _ _ ⟨_, hF.pure hok hla hpre rfl (Below.refl _ _), ?fr⟩
                case fr => simp only [putO, layL]
              · replace hge : 12 ≤ i := hgt
                clear hgt
                obtain rfl := eqi hi hge
                have p10 := hpre 10 (by kernel_rfl)
                have e10 : s10 = .int .i64 (n : Int) := hF.get 10 _ rfl (.inr p10)
                subst e10
                have p11 := hpre 11 (by kernel_rfl)
                have e11 : s11 = .int .i64 (j : Int) := hF.get 11 _ rfl (.inr p11)
                subst e11
                refine step_of ⟨some 64, _, _, _, _, _⟩ rfl (fun K' hK => ?_)
                go_simp
                refine hK.out _ _ ⟨_, hF.pure hok hla hpre rfl (Below.refl _ _), ?fr⟩
                case fr => simp only [putO, layL]
          · replace hge : 13 ≤ i := hgt
            clear hgt
            rcases Nat.lt_or_ge i 15 with hlt | hgt
            · replace hi := hlt
              clear hlt
              rcases Nat.lt_or_ge i 14 with hlt | hgt
              · replace hi := hlt
                clear hlt
                obtain rfl := eqi hi hge
                have p9 := hpre 9 (by kernel_rfl)
                have e9 : s9 = .agg #[.string (numS r), .string (denS r)] := hF.get 9 _ rfl (.inr p9)
                subst e9
                have p12 := hpre 12 (by kernel_rfl)
                have e12 : s12 = .int .i64 ((n : Int) - (j : Int)) := hF.get 12 _ rfl (.inr p12)
                subst e12
                refine step_of ⟨some 65, _, _, _, _, _⟩ rfl (fun K' hK => ?_)
                go_simp
                go_at_call 158
                (with_reducible refine (QC3.out _ (HE0.out.kept hF.low HP.out)).mono ?_)
                rintro e Wq ⟨rfl, hq⟩
                refine hK.out _ _ ⟨_, hF.pure hok hla hpre rfl hq, ?fr⟩
                case fr => simp only [putO, layL]
              · replace hge : 14 ≤ i := hgt
                clear hgt
                obtain rfl := eqi hi hge
                have p6 := hpre 6 (by kernel_rfl)
                have e6 : s6 = .agg #[.string (numS xp), .string (denS xp)] := hF.get 6 _ rfl (.inr p6)
                subst e6
                have p13 := hpre 13 (by kernel_rfl)
                have e13 : s13 = .agg #[.string (numS rp), .string (denS rp)] := hF.get 13 _ rfl (.inr p13)
                subst e13
                refine step_of ⟨some 66, _, _, _, _, _⟩ rfl (fun K' hK => ?_)
                go_simp
                go_at_call 144
                (with_reducible refine (QM1.out _ (HE0.out.kept hF.low HP.out)).mono ?_)
                rintro e Wq ⟨rfl, hq⟩
                refine hK.out _ _ ⟨_, hF.pure hok hla hpre rfl hq, ?fr⟩
                case fr => simp only [putO, layL]
            · replace hge : 15 ≤ i := hgt
              clear hgt
              rcases Nat.lt_or_ge i 16 with hlt | hgt
              · replace hi := hlt
                clear hlt
                obtain rfl := eqi hi hge
                have p3 := hpre 3 (by kernel_rfl)
                have e3 : s3 = .agg #[.string (numS cc), .string (denS cc)] := hF.get 3 _ rfl (.inr p3)
                subst e3
                have p14 := hpre 14 (by kernel_rfl)
                have e14 : s14 = .agg #[.string (numS m1), .string (denS m1)] := hF.get 14 _ rfl (.inr p14)
                subst e14
                refine step_of ⟨some 67, _, _, _, _, _⟩ rfl (fun K' hK => ?_)
                go_simp
                go_at_call 144
                (with_reducible refine (QM2.out _ (HE0.out.kept hF.low HP.out)).mono ?_)
                rintro e Wq ⟨rfl, hq⟩
                refine hK.out _ _ ⟨_, hF.pure hok hla hpre rfl hq, ?fr⟩
                case fr => simp only [putO, layL]
              · replace hge : 16 ≤ i := hgt
                clear hgt
                rcases Nat.lt_or_ge i 17 with hlt | hgt
                · replace hi := hlt
                  clear hlt
                  obtain rfl := eqi hi hge
                  have p0 := hpre 0 (by kernel_rfl)
                  have e0 : s0 = .agg #[.string (numS s), .string (denS s)] := hF.get 0 _ rfl (.inr p0)
                  subst e0
                  have p15 := hpre 15 (by kernel_rfl)
                  have e15 : s15 = .agg #[.string (numS m2), .string (denS m2)] := hF.get 15 _ rfl (.inr p15)
                  subst e15
                  refine step_of ⟨some 68, _, _, _, _, _⟩ rfl (fun K' hK => ?_)
                  go_simp
                  go_at_call 140
                  (with_reducible refine (QM3.out _ (HE0.out.kept hF.low HP.out)).mono ?_)
                  rintro e Wq ⟨rfl, hq⟩
                  refine hK.out _ _ ⟨_, hF.pure hok hla hpre rfl hq, ?fr⟩
                  case fr => simp only [putO, layL]
                · replace hge : 17 ≤ i := hgt
                  clear hgt
                  obtain rfl := eqi hi hge
                  have p16 := hpre 16 (by kernel_rfl)
                  have e16 : s16 = .agg #[.string (numS t), .string (denS t)] := hF.get 16 _ rfl (.inr p16)
                  subst e16
                  rw [if_neg (bit_off hun)] at hO3
                  have HGB := Lib.hid hO3
                  obtain ⟨⟨y0, y1⟩, g0, g1⟩ := two_at HGB.out
                  refine step_of ⟨none, _, _, _, _, _⟩ rfl (fun K' hK => ?_)
                  go_simp
                  refine hK.out _ _ ⟨undef, hF.put hok hna hpre hun rfl undef rfl (.inl (by decide)) rfl (set2_at HGB.out (.string (numS t)) (.string (denS t))) (fun k hk => set2_other _ _ (.string (numS t)) (.string (denS t)) hk) (put2_below gG3 _ (.string (numS t)) (.string (denS t))), ?fr⟩
                  case fr => simp only [putO, layL]
      case hd =>
        rintro listed vs WB hF hall
        obtain ⟨s0, s1, s2, s3, s4, s5, s6, s7, s8, s9, s10, s11, s12, s13, s14, s15, s16, s17, o0, o1, o2, o3, hvs⟩ := exl_of 22 vs (fun l => vs = l) hF.len rfl
        subst hvs
        obtain ⟨eG0, gG0, hO0⟩ := old_of hF (i := 18) rfl (.inl (by decide))
        replace eG0 : o0 = _ := eG0
        subst eG0
        obtain ⟨eG1, gG1, hO1⟩ := old_of hF (i := 19) rfl (.inl (by decide))
        replace eG1 : o1 = _ := eG1
        subst eG1
        obtain ⟨eG2, gG2, hO2⟩ := old_of hF (i := 20) rfl (.inl (by decide))
        replace eG2 : o2 = _ := eG2
        subst eG2
        obtain ⟨eG3, gG3, hO3⟩ := old_of hF (i := 21) rfl (.inl (by decide))
        replace eG3 : o3 = _ := eG3
        subst eG3
        rw [if_neg (hF.unst (by decide))] at hO0
        replace H2 := Lib.hid hO0
        clear hO0
        rw [if_neg (hF.unst (by decide))] at hO1
        replace H5 := Lib.hid hO1
        clear hO1
        rw [if_neg (hF.unst (by decide))] at hO2
        replace H7 := Lib.hid hO2
        clear hO2
        rw [if_pos (hall 17 (by decide))] at hO3
        replace H8 := Lib.hid hO3
        clear hO3
        have HQ := Lib.hid hF.low
        clear hF hall hok hna hla
        simp only [putO, layL]
        replace HG := HQ
        clear HQ
        replace HE := Lib.hid (HE0.out.kept HG.out HP.out)
        have HI := Lib.hid (show BiI W b B5 B7 B8 x o t _ from ⟨H2.out, H5.out, H7.out, H8.out, HG.out⟩)
        go_wp2
        go_roundg (k + 1 - (j + 1))
        case measure => omega
        case rel => exact ⟨j + 1, by go_num, by omega, by omega, by omega, by rw [HT.out]; exact HI.out⟩
    · have hdd : decide ((j : Int) ≤ (k : Int)) = false := decide_eq_false (by omega)
      have hdd2 : decide (j ≤ k) = false := decide_eq_false hlt
      have hjk : j = k + 1 := by omega
      subst hjk
      obtain ⟨s, hs⟩ : ∃ s, S (k + 1) = s := ⟨_, rfl⟩
      rw [hs] at H8
      have HS0 := Lib.hid hs
      clear hs hlt
      obtain ⟨⟨x8_0, x8_1⟩, x8_f0, x8_f1⟩ := two_at H8.out
      obtain ⟨⟨x2_0, x2_1⟩, x2_f0, x2_f1⟩ := two_at H2.out
      have n2 := set2_at H2.out (.string (numS s)) (.string (denS s))
      have hgl : W.grownBy ((wr.setCell ⟨W.heap.size, 0, none⟩ (.string (numS s))).setCell ⟨W.heap.size, 1, none⟩ (.string (denS s))) (some b) := below_only HG.out (put2_below (show W.heap.size ≤ W.heap.size from (by omega)) wr (.string (numS s)) (.string (denS s)))
      clear HG
      have HG := Lib.hid hgl
      clear hgl
      obtain ⟨⟨r2_0, r2_1⟩, _⟩ := two_at n2
      go_wp2
      refine bodyPost_ret (v := .agg #[.string (numS s), .string (denS s)]) (by simp [results, Tryz.results182, go_sem, r2_0, r2_1]) rfl ⟨by rw [HS0.out], HG.out⟩

set_option linter.unusedVariables false in
/-- what the operations of region 10 yield -/
def binom_allAllKs10 (x o s t r cc xp rp m1 m2 : Rat) (n k j B5 B7 B8 : Nat) (W : World) : List RK :=
  [.pure (.agg #[.string (numS s), .string (denS s)]),
   .pure (.int .i64 (n : Int)),
   .pure (.int .i64 (j : Int)),
   .pure (.agg #[.string (numS cc), .string (denS cc)]),
   .pure (.agg #[.string (numS x), .string (denS x)]),
   .pure (.int .i64 (j : Int)),
   .pure (.agg #[.string (numS xp), .string (denS xp)]),
   .pure (.agg #[.string (numS o), .string (denS o)]),
   .pure (.agg #[.string (numS x), .string (denS x)]),
   .pure (.agg #[.string (numS r), .string (denS r)]),
   .pure (.int .i64 (n : Int)),
   .pure (.int .i64 (j : Int)),
   .pure (.int .i64 ((n : Int) - (j : Int))),
   .pure (.agg #[.string (numS rp), .string (denS rp)]),
   .pure (.agg #[.string (numS m1), .string (denS m1)]),
   .pure (.agg #[.string (numS m2), .string (denS m2)]),
   .pure (.agg #[.string (numS t), .string (denS t)]),
   .put 21,
   .box (some (W.heap.size)) #[.string { data := #[] }, .string { data := #[] }] #[.string { data := #[] }, .string { data := #[] }] 24 22,
   .box (some (B5)) #[.string (numS x), .string (denS x)] #[.string (numS x), .string (denS x)] 24 22,
   .box (some (B7)) #[.string (numS o), .string (denS o)] #[.string (numS o), .string (denS o)] 24 22,
   .box (some (B8)) #[.string (numS s), .string (denS s)] #[.string (numS t), .string (denS t)] 24 17]
set_option linter.unusedSimpArgs false in
set_option linter.unusedVariables false in
set_option maxHeartbeats 4000000 in
set_option maxRecDepth 100000 in
theorem binom_all (n k : Nat) (q0 q1 x o z r : Rat) (e1 e2 : Int) (S CC XP RP M1 M2 : Nat → Rat) (b g C : Nat) (W : World) (hn : n ≤ 20)
    (hk : k ≤ n)
    (hq0 : fits q0 = true)
    (hq1 : fits q1 = true)
    (hq2 : fits x = true)
    (hw0 : q0.floor = (k : Int))
    (hw1 : q1.floor = (n : Int))
    (c0 : Fun1 29 (.int .i64 1) (.agg #[.string (numS o), .string (denS o)]))
    (c1 : Fun1 29 (.int .i64 0) (.agg #[.string (numS z), .string (denS z)]))
    (c2 : Fun1 156 (.agg #[.string (numS x), .string (denS x)]) (.int .i64 e1))
    (he1 : 0 ≤ e1)
    (c3 : Fun2 141 (.agg #[.string (numS x), .string (denS x)]) (.agg #[.string (numS o), .string (denS o)]) (.int .i64 e2))
    (he2 : e2 ≤ 0)
    (c4 : Fun2 147 (.agg #[.string (numS o), .string (denS o)]) (.agg #[.string (numS x), .string (denS x)]) (.agg #[.string (numS r), .string (denS r)]))
    (hS : S 0 = z)
    (hc : ∀ (j : Nat), 0 ≤ j → j ≤ k → Fun2 273 (.int .i64 (n : Int)) (.int .i64 (j : Int)) (fracV (CC j)) ∧ Fun2 158 (.agg #[.string (numS x), .string (denS x)]) (.int .i64 (j : Int)) (fracV (XP j)) ∧ Fun2 158 (.agg #[.string (numS r), .string (denS r)]) (.int .i64 ((n : Int) - (j : Int))) (fracV (RP j)))
    (hm : ∀ (j : Nat), 0 ≤ j → j ≤ k → Fun2 144 (fracV (XP j)) (fracV (RP j)) (fracV (M1 j)) ∧ Fun2 144 (fracV (CC j)) (fracV (M1 j)) (fracV (M2 j)) ∧ Fun2 140 (fracV (S j)) (fracV (M2 j)) (fracV (S (j + 1))))
    (ha : ArgsAt W b (some ⟨g, 0, none⟩) 4 C 0) (hne : g ≠ b) (hc0 : NumCells W g (0 + 0 * 9) q0) (hc1 : NumCells W g (0 + 1 * 9) q1) (hc2 : NumCells W g (0 + 2 * 9) x) (hc3 : CellsAt W g (0 + 3 * 9) (.int .i64 3) (.string { data := #[] }) (.string { data := #[] }) (.string { data := #[] }) (.bool true) (.int .i64 0) (.int .i64 0) (.int .i64 0) (.slice none 0 0)) (hE : EnvY W) (hP : Past b) :
    Calls Tryz.prog 182 #[.pointer (some ⟨b, 0, none⟩)] W fun e w' => e = .returned (.agg #[.string (numS (S (k + 1))), .string (denS (S (k + 1)))]) ∧ W.grownBy w' (some b) := by
  have TA0 := Lib.hid (fun W' ga gc ge => argWhole_any b g 0 4 C 0 q0 W' ga (by decide) (by decide) hne gc hq0 (by rw [hw0]; omega) (by rw [hw0]; omega) ge hP)
  rw [hw0] at TA0
  have TA1 := Lib.hid (fun W' ga gc ge => argWhole_any b g 0 4 C 1 q1 W' ga (by decide) (by decide) hne gc hq1 (by rw [hw1]; omega) (by rw [hw1]; omega) ge hP)
  rw [hw1] at TA1
  have TA2 := Lib.hid (fun W' ga gc ge => argNum_any b g 0 4 C 2 x W' ga (by decide) (by decide) hne gc hq2 ge hP)
  rw [fracV_is x] at TA2
  have TA3 := Lib.hid (fun W' ga gc ge => argFlag_B b g 0 4 C 3 true false W' ga (by decide) (by decide) hne gc ge hP)
  have Qc0 := Lib.hid c0
  have Qc1 := Lib.hid c1
  have Qc2 := Lib.hid c2
  have Qc3 := Lib.hid c3
  have Qc4 := Lib.hid c4
  unfold Fun1 at Qc0 Qc1 Qc2
  unfold Fun2 at Qc3 Qc4
  have HS := Lib.hid hS
  have QC := Lib.hid hc
  have QM := Lib.hid hm
  have f0 : decide ((k : Int) < 0) = false := decide_eq_false (by omega)
  have f1 : decide ((n : Int) < (k : Int)) = false := decide_eq_false (by omega)
  have f1' : decide (n < k) = false := decide_eq_false (by omega)
  have f2 : decide ((100 : Int) < (n : Int)) = false := decide_eq_false (by omega)
  have f3 : decide (e1 < 0) = false := decide_eq_false (by omega)
  have f4 : decide (0 < e2) = false := decide_eq_false (by omega)
  have HP := Lib.hid hP
  have HE0 := Lib.hid hE
  have NG := Lib.hid hne
  have HBW := Lib.hid (heap_lt ha)
  have hb : Below W.heap.size W (W.alloc (.cells #[.string { data := #[] }, .string { data := #[] }] 24)) := ((Below.refl _ _).alloc (Nat.le_refl _) _)
  have HG := Lib.hid (kept_below (b := b) hb)
  have HE := Lib.hid (hE.below hb)
  have HA := Lib.hid (show ArgsAt (W.alloc (.cells #[.string { data := #[] }, .string { data := #[] }] 24)) b (some ⟨g, 0, none⟩) 4 C 0 from keep_block ha hb)
  have HC0 := Lib.hid (NumCells.below hc0 hb)
  have HC1 := Lib.hid (NumCells.below hc1 hb)
  have HC2 := Lib.hid (NumCells.below hc2 hb)
  have HC3 := Lib.hid (CellsAt.below hc3 hb)
  have H2 : Hid ((W.alloc (.cells #[.string { data := #[] }, .string { data := #[] }] 24)).heap[W.heap.size]? = some (.cells #[.string { data := #[] }, .string { data := #[] }] 24 (0, 0))) := Lib.hid (by
    have h := heap_alloc_new W (.cells #[.string { data := #[] }, .string { data := #[] }] 24)
    exact h)
  have NE2 : Hid (W.heap.size ≠ b) := Lib.hid (by have := HBW.out; omega)
  obtain ⟨W0, hW0⟩ : ∃ Z, (W.alloc (.cells #[.string { data := #[] }, .string { data := #[] }] 24)) = Z := ⟨_, rfl⟩
  rw [hW0] at HG HE HA HC0 HC1 HC2 HC3 H2
  have EW0 := Lib.hid hW0
  clear hW0 hb ha hE hP hne hc0 hc1 hc2 hc3  hq0 hq1 hq2 hw0 hw1 c0 c1 c2 he1 c3 he2 c4 hS hc hm
  go_enter Tryz.func182, Tryz.ntmps182
  go_wp2_with fail
  rw [EW0.out]
  refine (TA0.out _ HA.out HC0.out HE.out).mono ?_
  rintro e w1 ⟨rfl, ha, hg⟩
  replace HA := Lib.hid ha
  clear HC0
  replace H2 := Lib.hid (kept_block H2.out hg NE2.out)
  replace HC1 := Lib.hid (HC1.out.kept hg NG.out)
  replace HC2 := Lib.hid (HC2.out.kept hg NG.out)
  replace HC3 := Lib.hid (HC3.out.kept hg NG.out)
  replace HE := Lib.hid (HE.out.kept hg HP.out)
  replace HG := Lib.hid (kept_trans HG.out hg)
  clear ha hg
  go_wp2_with fail
  refine (TA1.out _ HA.out HC1.out HE.out).mono ?_
  rintro e w2 ⟨rfl, ha, hg⟩
  replace HA := Lib.hid ha
  clear HC1
  replace H2 := Lib.hid (kept_block H2.out hg NE2.out)
  replace HC2 := Lib.hid (HC2.out.kept hg NG.out)
  replace HC3 := Lib.hid (HC3.out.kept hg NG.out)
  replace HE := Lib.hid (HE.out.kept hg HP.out)
  replace HG := Lib.hid (kept_trans HG.out hg)
  clear ha hg
  go_wp2_with fail
  refine (TA2.out _ HA.out HC2.out HE.out).mono ?_
  rintro e w3 ⟨rfl, ha, hg⟩
  replace HA := Lib.hid ha
  clear HC2
  replace H2 := Lib.hid (kept_block H2.out hg NE2.out)
  replace HC3 := Lib.hid (HC3.out.kept hg NG.out)
  replace HE := Lib.hid (HE.out.kept hg HP.out)
  replace HG := Lib.hid (kept_trans HG.out hg)
  clear ha hg
  go_wp2_with fail
  refine (TA3.out _ HA.out HC3.out HE.out).mono ?_
  rintro e w4 ⟨rfl, ha, hg⟩
  replace HA := Lib.hid ha
  clear HC3
  replace H2 := Lib.hid (kept_block H2.out hg NE2.out)
  replace HE := Lib.hid (HE.out.kept hg HP.out)
  replace HG := Lib.hid (kept_trans HG.out hg)
  clear ha hg
  have lt_2 := heap_lt H2.out
  have geW := HG.out.size
  have L5_2 : Hid (W.heap.size < w4.heap.size) := Lib.hid (by omega)
  have G5 : Hid (W.heap.size ≤ w4.heap.size) := Lib.hid (by omega)
  have NE5 : Hid (w4.heap.size ≠ b) := Lib.hid (by have := HBW.out; omega)
  have hb : Below w4.heap.size w4 (w4.alloc (.cells #[.string (numS x), .string (denS x)] 24)) := (Below.refl _ _).alloc (Nat.le_refl _) _
  replace H2 := Lib.hid (keep_block H2.out hb)
  replace HA := Lib.hid (keep_block HA.out hb)
  replace HE := Lib.hid (HE.out.below hb)
  replace HG := Lib.hid (kept_trans HG.out (kept_below hb))
  have H5 := Lib.hid (heap_alloc_new w4 (.cells #[.string (numS x), .string (denS x)] 24))
  clear hb
  clear geW lt_2
  obtain ⟨WL1, hWL1⟩ : ∃ Z, (w4.alloc (.cells #[.string (numS x), .string (denS x)] 24)) = Z := ⟨_, rfl⟩
  rw [hWL1] at HE HG H2 H5 HA
  have EWL1 := Lib.hid hWL1
  clear hWL1
  clear HA 
  go_wp2_with fail
  rw [EWL1.out]
  refine (Qc0.out _ HE.out).mono ?_
  rintro e w5 ⟨rfl, hb⟩
  replace H2 := Lib.hid (keep_block H2.out hb)
  replace H5 := Lib.hid (keep_block H5.out hb)
  replace HE := Lib.hid (HE.out.below hb)
  replace HG := Lib.hid (kept_trans HG.out (kept_below hb))
  clear hb
  have lt_2 := heap_lt H2.out
  have lt_5 := heap_lt H5.out
  have geW := HG.out.size
  have L7_2 : Hid (W.heap.size < w5.heap.size) := Lib.hid (by omega)
  have L7_5 : Hid (w4.heap.size < w5.heap.size) := Lib.hid (by omega)
  have G7 : Hid (W.heap.size ≤ w5.heap.size) := Lib.hid (by omega)
  have NE7 : Hid (w5.heap.size ≠ b) := Lib.hid (by have := HBW.out; omega)
  have hb : Below w5.heap.size w5 (w5.alloc (.cells #[.string (numS o), .string (denS o)] 24)) := (Below.refl _ _).alloc (Nat.le_refl _) _
  replace H2 := Lib.hid (keep_block H2.out hb)
  replace H5 := Lib.hid (keep_block H5.out hb)
  replace HE := Lib.hid (HE.out.below hb)
  replace HG := Lib.hid (kept_trans HG.out (kept_below hb))
  have H7 := Lib.hid (heap_alloc_new w5 (.cells #[.string (numS o), .string (denS o)] 24))
  clear hb
  clear geW lt_2 lt_5
  obtain ⟨WL2, hWL2⟩ : ∃ Z, (w5.alloc (.cells #[.string (numS o), .string (denS o)] 24)) = Z := ⟨_, rfl⟩
  rw [hWL2] at HE HG H2 H5 H7
  have EWL2 := Lib.hid hWL2
  clear hWL2
  go_upto_region 3 with fail
  rw [EWL2.out]
  obtain ⟨⟨x5_0, x5_1⟩, x5_f0, x5_f1⟩ := two_at H5.out
  go_wp2_with fail
  refine (Qc2.out _ HE.out).mono ?_
  clear x5_0 x5_1 x5_f0 x5_f1
  rintro e w6 ⟨rfl, hb⟩
  replace H2 := Lib.hid (keep_block H2.out hb)
  replace H5 := Lib.hid (keep_block H5.out hb)
  replace H7 := Lib.hid (keep_block H7.out hb)
  replace HE := Lib.hid (HE.out.below hb)
  replace HG := Lib.hid (kept_trans HG.out (kept_below hb))
  clear hb
  obtain ⟨⟨x5_0, x5_1⟩, x5_f0, x5_f1⟩ := two_at H5.out
  obtain ⟨⟨x7_0, x7_1⟩, x7_f0, x7_f1⟩ := two_at H7.out
  go_wp2_with fail
  refine (Qc3.out _ HE.out).mono ?_
  clear x5_0 x5_1 x5_f0 x5_f1
  clear x7_0 x7_1 x7_f0 x7_f1
  rintro e w7 ⟨rfl, hb⟩
  replace H2 := Lib.hid (keep_block H2.out hb)
  replace H5 := Lib.hid (keep_block H5.out hb)
  replace H7 := Lib.hid (keep_block H7.out hb)
  replace HE := Lib.hid (HE.out.below hb)
  replace HG := Lib.hid (kept_trans HG.out (kept_below hb))
  clear hb
  go_wp2_with fail
  refine (stop_no 5 _).mono ?_
  rintro e w8 ⟨rfl, hws⟩
  replace hws := hws.symm
  subst hws
  go_wp2_with fail
  refine (Qc1.out _ HE.out).mono ?_
  rintro e w9 ⟨rfl, hb⟩
  replace H2 := Lib.hid (keep_block H2.out hb)
  replace H5 := Lib.hid (keep_block H5.out hb)
  replace H7 := Lib.hid (keep_block H7.out hb)
  replace HE := Lib.hid (HE.out.below hb)
  replace HG := Lib.hid (kept_trans HG.out (kept_below hb))
  clear hb
  have lt_2 := heap_lt H2.out
  have lt_5 := heap_lt H5.out
  have lt_7 := heap_lt H7.out
  have geW := HG.out.size
  have L8_2 : Hid (W.heap.size < w9.heap.size) := Lib.hid (by omega)
  have L8_5 : Hid (w4.heap.size < w9.heap.size) := Lib.hid (by omega)
  have L8_7 : Hid (w5.heap.size < w9.heap.size) := Lib.hid (by omega)
  have G8 : Hid (W.heap.size ≤ w9.heap.size) := Lib.hid (by omega)
  have NE8 : Hid (w9.heap.size ≠ b) := Lib.hid (by have := HBW.out; omega)
  have hb : Below w9.heap.size w9 (w9.alloc (.cells #[.string (numS z), .string (denS z)] 24)) := (Below.refl _ _).alloc (Nat.le_refl _) _
  replace H2 := Lib.hid (keep_block H2.out hb)
  replace H5 := Lib.hid (keep_block H5.out hb)
  replace H7 := Lib.hid (keep_block H7.out hb)
  replace HE := Lib.hid (HE.out.below hb)
  replace HG := Lib.hid (kept_trans HG.out (kept_below hb))
  have H8 := Lib.hid (heap_alloc_new w9 (.cells #[.string (numS z), .string (denS z)] 24))
  clear hb
  clear geW lt_2 lt_5 lt_7
  obtain ⟨WL3, hWL3⟩ : ∃ Z, (w9.alloc (.cells #[.string (numS z), .string (denS z)] 24)) = Z := ⟨_, rfl⟩
  rw [hWL3] at HE HG H2 H5 H7 H8
  have EWL3 := Lib.hid hWL3
  clear hWL3
  go_wp2_with fail
  rw [EWL3.out]
  obtain ⟨B5, hB5⟩ : ∃ z, w4.heap.size = z := ⟨_, rfl⟩
  rw [hB5] at H5 G5 L5_2 L7_5 L8_5 ⊢
  clear hB5
  obtain ⟨B7, hB7⟩ : ∃ z, w5.heap.size = z := ⟨_, rfl⟩
  rw [hB7] at H7 G7 L7_2 L7_5 L8_7 ⊢
  clear hB7
  obtain ⟨B8, hB8⟩ : ∃ z, w9.heap.size = z := ⟨_, rfl⟩
  rw [hB8] at H8 G8 L8_2 L8_5 L8_7 ⊢
  clear hB8
  go_loopg [10] (k + 1 - 0) (fun gh v10 wx => ∃ j : Nat, v10 = .int .i64 (j : Int) ∧ 0 ≤ j ∧ j ≤ k + 1 ∧ gh = k + 1 - j ∧ BiI W b B5 B7 B8 x o (S j) wx)
  case atStart => exact ⟨0, by rfl, Nat.le_refl _, by omega, by omega, ⟨H2.out, H5.out, H7.out, by rw [HS.out]; exact H8.out, HG.out⟩⟩
  case round =>
    clear H2 H5 H7 H8 HG HE
    obtain ⟨j, rfl, hj0, hj, hgj, hI⟩ := hrel
    have H2 := Lib.hid hI.h2
    have H5 := Lib.hid hI.h5
    have H7 := Lib.hid hI.h7
    have H8 := Lib.hid hI.h8
    have HG := Lib.hid hI.low
    have HE := Lib.hid (HE0.out.kept hI.low HP.out)
    clear hI
    by_cases hlt : j ≤ k
    · have hdd : decide ((j : Int) ≤ (k : Int)) = true := decide_eq_true (by omega)
      have hdd2 : decide (j ≤ k) = true := decide_eq_true hlt
      have hw1 : IntKind.i64.wrap ((n : Int) - (j : Int)) = (n : Int) - (j : Int) := IntWalk.i64_in _ (by omega)
      have hw3 : IntKind.i64.wrap ((j : Int) + 1) = (j : Int) + 1 := IntWalk.i64_in _ (by omega)
      have QC1 := Lib.hid (QC.out j hj0 hlt).1
      have QC2 := Lib.hid (QC.out j hj0 hlt).2.1
      have QC3 := Lib.hid (QC.out j hj0 hlt).2.2
      have QM1 := Lib.hid (QM.out j hj0 hlt).1
      have QM2 := Lib.hid (QM.out j hj0 hlt).2.1
      have QM3 := Lib.hid (QM.out j hj0 hlt).2.2
      obtain ⟨cc, hcc⟩ : ∃ x, CC j = x := ⟨_, rfl⟩
      rw [hcc] at QC1 QM2
      obtain ⟨xp, hxp⟩ : ∃ x, XP j = x := ⟨_, rfl⟩
      rw [hxp] at QC2 QM1
      obtain ⟨rp, hrp⟩ : ∃ x, RP j = x := ⟨_, rfl⟩
      rw [hrp] at QC3 QM1
      obtain ⟨m1, hm1⟩ : ∃ x, M1 j = x := ⟨_, rfl⟩
      rw [hm1] at QM1 QM2
      obtain ⟨m2, hm2⟩ : ∃ x, M2 j = x := ⟨_, rfl⟩
      rw [hm2] at QM2 QM3
      obtain ⟨s, hs⟩ : ∃ x, S j = x := ⟨_, rfl⟩
      rw [hs] at QM3 H8
      obtain ⟨t, ht⟩ : ∃ x, S (j + 1) = x := ⟨_, rfl⟩
      rw [ht] at QM3
      have HT := Lib.hid ht
      unfold Fun2 at QC1 QC2 QC3 QM1 QM2 QM3
      rw [fracV_is cc] at QC1
      rw [fracV_is xp] at QC2
      rw [fracV_is rp] at QC3
      rw [fracV_is xp, fracV_is rp, fracV_is m1] at QM1
      rw [fracV_is cc, fracV_is m1, fracV_is m2] at QM2
      rw [fracV_is s, fracV_is m2, fracV_is t] at QM3
      clear hcc hxp hrp hm1 hm2 hs ht
      go_upto_region 10 with fail
      go_wp2_with fail
      have := L5_2.out
      have := L7_2.out
      have := L7_5.out
      have := L8_2.out
      have := L8_5.out
      have := L8_7.out
      have := HG.out.size
      have := G5.out
      have := G7.out
      have := G8.out
      have hok : okB 18 (binom_allAllKs10 x o s t r cc xp rp m1 m2 n k j B5 B7 B8 W) = true := by kernel_rfl
      have hna := noAny_of (ks := (binom_allAllKs10 x o s t r cc xp rp m1 m2 n k j B5 B7 B8 W)) (by kernel_rfl)
      have hla := lasts_of hna
      refine wp_region_facts (row := (some b)) (w := W) 18 (binom_allAllKs10 x o s t r cc xp rp m1 m2 n k j B5 B7 B8 W) [some 52, some 53, some 54, some 55, some 56, some 57, some 58, some 59, some 60, some 61, some 62, some 63, some 64, some 65, some 66, some 67, some 68, none] (by kernel_rfl) (by kernel_rfl) rfl [u52, u53, u54, u55, u56, u57, u58, u59, u60, u61, u62, u63, u64, u65, u66, u67, u68, undef, .pointer (some ⟨W.heap.size, 0, none⟩), .pointer (some ⟨B5, 0, none⟩), .pointer (some ⟨B7, 0, none⟩), .pointer (some ⟨B8, 0, none⟩)] ?h00 (Fs.start_olds hla rfl HG.out ⟨⟨_, rfl, fun _ h => Option.some.inj h, by omega, H2.out⟩, fun _ => ⟨fun _ => far_of (by omega), fun _ => far_of (by omega), fun _ => far_of (by omega), trivial⟩, ⟨⟨_, rfl, fun _ h => Option.some.inj h, by omega, H5.out⟩, fun _ => ⟨fun _ => far_of (by omega), fun _ => far_of (by omega), trivial⟩, ⟨⟨_, rfl, fun _ h => Option.some.inj h, by omega, H7.out⟩, fun _ => ⟨fun _ => far_of (by omega), trivial⟩, ⟨⟨_, rfl, fun _ h => Option.some.inj h, by omega, H8.out⟩, fun _ => trivial, trivial⟩⟩⟩⟩) ?hs ?hd
      case h00 => simp only [putO, layL]
      case hs =>
        rintro listed vs Wr hF i hi hun hpre
        obtain ⟨s0, s1, s2, s3, s4, s5, s6, s7, s8, s9, s10, s11, s12, s13, s14, s15, s16, s17, o0, o1, o2, o3, hvs⟩ := exl_of 22 vs (fun l => vs = l) hF.len rfl
        subst hvs
        obtain ⟨eG0, gG0, hO0⟩ := old_of hF (i := 18) rfl (.inl (by decide))
        replace eG0 : o0 = _ := eG0
        subst eG0
        obtain ⟨eG1, gG1, hO1⟩ := old_of hF (i := 19) rfl (.inl (by decide))
        replace eG1 : o1 = _ := eG1
        subst eG1
        obtain ⟨eG2, gG2, hO2⟩ := old_of hF (i := 20) rfl (.inl (by decide))
        replace eG2 : o2 = _ := eG2
        subst eG2
        obtain ⟨eG3, gG3, hO3⟩ := old_of hF (i := 21) rfl (.inl (by decide))
        replace eG3 : o3 = _ := eG3
        subst eG3
        have hge := Nat.zero_le i
        simp only [putO, layL]
        rcases Nat.lt_or_ge i 9 with hlt | hgt
        · replace hi := hlt
          clear hlt
          rcases Nat.lt_or_ge i 4 with hlt | hgt
          · replace hi := hlt
            clear hlt
            rcases Nat.lt_or_ge i 2 with hlt | hgt
            · replace hi := hlt
              clear hlt
              rcases Nat.lt_or_ge i 1 with hlt | hgt
              · replace hi := hlt
                clear hlt
                obtain rfl := eqi hi hge
                rw [if_neg (fun h => bit_off hun (hF.back 17 0 h (by kernel_rfl)))] at hO3
                have hcc := (two_at (hO3)).1
                have cH80 := hcc.1
                have cH81 := hcc.2
                clear hcc
                refine step_of ⟨some 52, _, _, _, _, _⟩ rfl (fun K' hK => ?_)
                go_simp
                refine hK.out _ _ ⟨_, hF.pure hok hla hpre rfl (Below.refl _ _), ?fr⟩
                case fr => simp only [putO, layL]
              · replace hge : 1 ≤ i := hgt
                clear hgt
                obtain rfl := eqi hi hge
                refine step_of ⟨some 53, _, _, _, _, _⟩ rfl (fun K' hK => ?_)
                go_simp
                refine hK.out _ _ ⟨_, hF.pure hok hla hpre rfl (Below.refl _ _), ?fr⟩
                case fr => simp only [putO, layL]
            · replace hge : 2 ≤ i := hgt
              clear hgt
              rcases Nat.lt_or_ge i 3 with hlt | hgt
              · replace hi := hlt
                clear hlt
                obtain rfl := eqi hi hge
                refine step_of ⟨some 54, _, _, _, _, _⟩ rfl (fun K' hK => ?_)
                go_simp
                refine hK.out _ _ ⟨_, hF.pure hok hla hpre rfl (Below.refl _ _), ?fr⟩
                case fr => simp only [putO, layL]
              · replace hge : 3 ≤ i := hgt
                clear hgt
                obtain rfl := eqi hi hge
                have p1 := hpre 1 (by kernel_rfl)
                have e1 : s1 = .int .i64 (n : Int) := hF.get 1 _ rfl (.inr p1)
                subst e1
                have p2 := hpre 2 (by kernel_rfl)
                have e2 : s2 = .int .i64 (j : Int) := hF.get 2 _ rfl (.inr p2)
                subst e2
                refine step_of ⟨some 55, _, _, _, _, _⟩ rfl (fun K' hK => ?_)
                go_simp
                go_at_call 273
                (with_reducible refine (QC1.out _ (HE0.out.kept hF.low HP.out)).mono ?_)
                rintro e Wq ⟨rfl, hq⟩
                refine hK.out _ _ ⟨_, hF.pure hok hla hpre rfl hq, ?fr⟩
                case fr => simp only [putO, layL]
          · replace hge : 4 ≤ i := hgt
            clear hgt
            rcases Nat.lt_or_ge i 6 with hlt | hgt
            · replace hi := hlt
              clear hlt
              rcases Nat.lt_or_ge i 5 with hlt | hgt
              · replace hi := hlt
                clear hlt
                obtain rfl := eqi hi hge
                rw [if_neg (hF.unst (by decide))] at hO1
                have hcc := (two_at (hO1)).1
                have cH50 := hcc.1
                have cH51 := hcc.2
                clear hcc
                refine step_of ⟨some 56, _, _, _, _, _⟩ rfl (fun K' hK => ?_)
                go_simp
                refine hK.out _ _ ⟨_, hF.pure hok hla hpre rfl (Below.refl _ _), ?fr⟩
                case fr => simp only [putO, layL]
              · replace hge : 5 ≤ i := hgt
                clear hgt
                obtain rfl := eqi hi hge
                refine step_of ⟨some 57, _, _, _, _, _⟩ rfl (fun K' hK => ?_)
                go_simp
                refine hK.out _ _ ⟨_, hF.pure hok hla hpre rfl (Below.refl _ _), ?fr⟩
                case fr => simp only [putO, layL]
            · replace hge : 6 ≤ i := hgt
              clear hgt
              rcases Nat.lt_or_ge i 7 with hlt | hgt
              · replace hi := hlt
                clear hlt
                obtain rfl := eqi hi hge
                have p4 := hpre 4 (by kernel_rfl)
                have e4 : s4 = .agg #[.string (numS x), .string (denS x)] := hF.get 4 _ rfl (.inr p4)
                subst e4
                have p5 := hpre 5 (by kernel_rfl)
                have e5 : s5 = .int .i64 (j : Int) := hF.get 5 _ rfl (.inr p5)
                subst e5
                refine step_of ⟨some 58, _, _, _, _, _⟩ rfl (fun K' hK => ?_)
                go_simp
                go_at_call 158
                (with_reducible refine (QC2.out _ (HE0.out.kept hF.low HP.out)).mono ?_)
                rintro e Wq ⟨rfl, hq⟩
                refine hK.out _ _ ⟨_, hF.pure hok hla hpre rfl hq, ?fr⟩
                case fr => simp only [putO, layL]
              · replace hge : 7 ≤ i := hgt
                clear hgt
                rcases Nat.lt_or_ge i 8 with hlt | hgt
                · replace hi := hlt
                  clear hlt
                  obtain rfl := eqi hi hge
                  rw [if_neg (hF.unst (by decide))] at hO2
                  have hcc := (two_at (hO2)).1
                  have cH70 := hcc.1
                  have cH71 := hcc.2
                  clear hcc
                  refine step_of ⟨some 59, _, _, _, _, _⟩ rfl (fun K' hK => ?_)
                  go_simp
                  refine hK.out _ _ ⟨_, hF.pure hok hla hpre rfl (Below.refl _ _), ?fr⟩
                  case fr => simp only [putO, layL]
                · replace hge : 8 ≤ i := hgt
                  clear hgt
                  obtain rfl := eqi hi hge
                  rw [if_neg (hF.unst (by decide))] at hO1
                  have hcc := (two_at (hO1)).1
                  have cH50 := hcc.1
                  have cH51 := hcc.2
                  clear hcc
                  refine step_of ⟨some 60, _, _, _, _, _⟩ rfl (fun K' hK => ?_)
                  go_simp
                  refine hK.out _ _ ⟨_, hF.pure hok hla hpre rfl (Below.refl _ _), ?fr⟩
                  case fr => simp only [putO, layL]
        · replace hge : 9 ≤ i := hgt
          clear hgt
          rcases Nat.lt_or_ge i 13 with hlt | hgt
          · replace hi := hlt
            clear hlt
            rcases Nat.lt_or_ge i 11 with hlt | hgt
            · replace hi := hlt
              clear hlt
              rcases Nat.lt_or_ge i 10 with hlt | hgt
              · replace hi := hlt
                clear hlt
                obtain rfl := eqi hi hge
                have p7 := hpre 7 (by kernel_rfl)
                have e7 : s7 = .agg #[.string (numS o), .string (denS o)] := hF.get 7 _ rfl (.inr p7)
                subst e7
                have p8 := hpre 8 (by kernel_rfl)
                have e8 : s8 = .agg #[.string (numS x), .string (denS x)] := hF.get 8 _ rfl (.inr p8)
                subst e8
                refine step_of ⟨some 61, _, _, _, _, _⟩ rfl (fun K' hK => ?_)
                go_simp
                go_at_call 147
                (with_reducible refine (Qc4.out _ (HE0.out.kept hF.low HP.out)).mono ?_)
                rintro e Wq ⟨rfl, hq⟩
                refine hK.out _ _ ⟨_, hF.pure hok hla hpre rfl hq, ?fr⟩
                case fr => simp only [putO, layL]
              · replace hge : 10 ≤ i := hgt
                clear hgt
                obtain rfl := eqi hi hge
                refine step_of ⟨some 62, _, _, _, _, _⟩ rfl (fun K' hK => ?_)
                go_simp
                refine hK.out _ _ ⟨_, hF.pure hok hla hpre rfl (Below.refl _ _), ?fr⟩
                case fr => simp only [putO, layL]
            · replace hge : 11 ≤ i := hgt
              clear hgt
              rcases Nat.lt_or_ge i 12 with hlt | hgt
              · replace hi := hlt
                clear hlt
                obtain rfl := eqi hi hge
                refine step_of ⟨some 63, _, _, _, _, _⟩ rfl (fun K' hK => ?_)
                go_simp
                refine hK.out _ _ ⟨_, hF.pure hok hla hpre rfl (Below.refl _ _), ?fr⟩
                case fr => simp only [putO, layL]
              · replace hge : 12 ≤ i := hgt
                clear hgt
                obtain rfl := eqi hi hge
                have p10 := hpre 10 (by kernel_rfl)
                have e10 : s10 = .int .i64 (n : Int) := hF.get 10 _ rfl (.inr p10)
                subst e10
                have p11 := hpre 11 (by kernel_rfl)
                have e11 : s11 = .int .i64 (j : Int) := hF.get 11 _ rfl (.inr p11)
                subst e11
                refine step_of ⟨some 64, _, _, _, _, _⟩ rfl (fun K' hK => ?_)
                go_simp
                refine hK.out _ _ ⟨_, hF.pure hok hla hpre rfl (Below.refl _ _), ?fr⟩
                case fr => simp only [putO, layL]
          · replace hge : 13 ≤ i := hgt
            clear hgt
            rcases Nat.lt_or_ge i 15 with hlt | hgt
            · replace hi := hlt
              clear hlt
              rcases Nat.lt_or_ge i 14 with hlt | hgt
              · replace hi := hlt
                clear hlt
                obtain rfl := eqi hi hge
                have p9 := hpre 9 (by kernel_rfl)
                have e9 : s9 = .agg #[.string (numS r), .string (denS r)] := hF.get 9 _ rfl (.inr p9)
                subst e9
                have p12 := hpre 12 (by kernel_rfl)
                have e12 : s12 = .int .i64 ((n : Int) - (j : Int)) := hF.get 12 _ rfl (.inr p12)
                subst e12
                refine step_of ⟨some 65, _, _, _, _, _⟩ rfl (fun K' hK => ?_)
                go_simp
                go_at_call 158
                (with_reducible refine (QC3.out _ (HE0.out.kept hF.low HP.out)).mono ?_)
                rintro e Wq ⟨rfl, hq⟩
                refine hK.out _ _ ⟨_, hF.pure hok hla hpre rfl hq, ?fr⟩
                case fr => simp only [putO, layL]
              · replace hge : 14 ≤ i := hgt
                clear hgt
                obtain rfl := eqi hi hge
                have p6 := hpre 6 (by kernel_rfl)
                have e6 : s6 = .agg #[.string (numS xp), .string (denS xp)] := hF.get 6 _ rfl (.inr p6)
                subst e6
                have p13 := hpre 13 (by kernel_rfl)
                have e13 : s13 = .agg #[.string (numS rp), .string (denS rp)] := hF.get 13 _ rfl (.inr p13)
                subst e13
                refine step_of ⟨some 66, _, _, _, _, _⟩ rfl (fun K' hK => ?_)
                go_simp
                go_at_call 144
                (with_reducible refine (QM1.out _ (HE0.out.kept hF.low HP.out)).mono ?_)
                rintro e Wq ⟨rfl, hq⟩
                refine hK.out _ _ ⟨_, hF.pure hok hla hpre rfl hq, ?fr⟩
                case fr => simp only [putO, layL]
            · replace hge : 15 ≤ i := hgt
              clear hgt
              rcases Nat.lt_or_ge i 16 with hlt | hgt
              · replace hi := hlt
                clear hlt
                obtain rfl := eqi hi hge
                have p3 := hpre 3 (by kernel_rfl)
                have e3 : s3 = .agg #[.string (numS cc), .string (denS cc)] := hF.get 3 _ rfl (.inr p3)
                subst e3
                have p14 := hpre 14 (by kernel_rfl)
                have e14 : s14 = .agg #[.string (numS m1), .string (denS m1)] := hF.get 14 _ rfl (.inr p14)
                subst e14
                refine step_of ⟨some 67, _, _, _, _, _⟩ rfl (fun K' hK => ?_)
                go_simp
                go_at_call 144
                (with_reducible refine (QM2.out _ (HE0.out.kept hF.low HP.out)).mono ?_)
                rintro e Wq ⟨rfl, hq⟩
                refine hK.out _ _ ⟨_, hF.pure hok hla hpre rfl hq, ?fr⟩
                case fr => simp only [putO, layL]
              · replace hge : 16 ≤ i := hgt
                clear hgt
                rcases Nat.lt_or_ge i 17 with hlt | hgt
                · replace hi := hlt
                  clear hlt
                  obtain rfl := eqi hi hge
                  have p0 := hpre 0 (by kernel_rfl)
                  have e0 : s0 = .agg #[.string (numS s), .string (denS s)] := hF.get 0 _ rfl (.inr p0)
                  subst e0
                  have p15 := hpre 15 (by kernel_rfl)
                  have e15 : s15 = .agg #[.string (numS m2), .string (denS m2)] := hF.get 15 _ rfl (.inr p15)
                  subst e15
                  refine step_of ⟨some 68, _, _, _, _, _⟩ rfl (fun K' hK => ?_)
                  go_simp
                  go_at_call 140
                  (with_reducible refine (QM3.out _ (HE0.out.kept hF.low HP.out)).mono ?_)
                  rintro e Wq ⟨rfl, hq⟩
                  refine hK.out _ _ ⟨_, hF.pure hok hla hpre rfl hq, ?fr⟩
                  case fr => simp only [putO, layL]
                · replace hge : 17 ≤ i := hgt
                  clear hgt
                  obtain rfl := eqi hi hge
                  have p16 := hpre 16 (by kernel_rfl)
                  have e16 : s16 = .agg #[.string (numS t), .string (denS t)] := hF.get 16 _ rfl (.inr p16)
                  subst e16
                  rw [if_neg (bit_off hun)] at hO3
                  have HGB := Lib.hid hO3
                  obtain ⟨⟨y0, y1⟩, g0, g1⟩ := two_at HGB.out
                  refine step_of ⟨none, _, _, _, _, _⟩ rfl (fun K' hK => ?_)
                  go_simp
                  refine hK.out _ _ ⟨undef, hF.put hok hna hpre hun rfl undef rfl (.inl (by decide)) rfl (set2_at HGB.out (.string (numS t)) (.string (denS t))) (fun k hk => set2_other _ _ (.string (numS t)) (.string (denS t)) hk) (put2_below gG3 _ (.string (numS t)) (.string (denS t))), ?fr⟩
                  case fr => simp only [putO, layL]
      case hd =>
        rintro listed vs WB hF hall
        obtain ⟨s0, s1, s2, s3, s4, s5, s6, s7, s8, s9, s10, s11, s12, s13, s14, s15, s16, s17, o0, o1, o2, o3, hvs⟩ := exl_of 22 vs (fun l => vs = l) hF.len rfl
        subst hvs
        obtain ⟨eG0, gG0, hO0⟩ := old_of hF (i := 18) rfl (.inl (by decide))
        replace eG0 : o0 = _ := eG0
        subst eG0
        obtain ⟨eG1, gG1, hO1⟩ := old_of hF (i := 19) rfl (.inl (by decide))
        replace eG1 : o1 = _ := eG1
        subst eG1
        obtain ⟨eG2, gG2, hO2⟩ := old_of hF (i := 20) rfl (.inl (by decide))
        replace eG2 : o2 = _ := eG2
        subst eG2
        obtain ⟨eG3, gG3, hO3⟩ := old_of hF (i := 21) rfl (.inl (by decide))
        replace eG3 : o3 = _ := eG3
        subst eG3
        rw [if_neg (hF.unst (by decide))] at hO0
        replace H2 := Lib.hid hO0
        clear hO0
        rw [if_neg (hF.unst (by decide))] at hO1
        replace H5 := Lib.hid hO1
        clear hO1
        rw [if_neg (hF.unst (by decide))] at hO2
        replace H7 := Lib.hid hO2
        clear hO2
        rw [if_pos (hall 17 (by decide))] at hO3
        replace H8 := Lib.hid hO3
        clear hO3
        have HQ := Lib.hid hF.low
        clear hF hall hok hna hla
        simp only [putO, layL]
        replace HG := HQ
        clear HQ
        replace HE := Lib.hid (HE0.out.kept HG.out HP.out)
        have HI := Lib.hid (show BiI W b B5 B7 B8 x o t _ from ⟨H2.out, H5.out, H7.out, H8.out, HG.out⟩)
        go_wp2
        go_roundg (k + 1 - (j + 1))
        case measure => omega
        case rel => exact ⟨j + 1, by go_num, by omega, by omega, by omega, by rw [HT.out]; exact HI.out⟩
    · have hdd : decide ((j : Int) ≤ (k : Int)) = false := decide_eq_false (by omega)
      have hdd2 : decide (j ≤ k) = false := decide_eq_false hlt
      have hjk : j = k + 1 := by omega
      subst hjk
      obtain ⟨s, hs⟩ : ∃ s, S (k + 1) = s := ⟨_, rfl⟩
      rw [hs] at H8
      have HS0 := Lib.hid hs
      clear hs hlt
      obtain ⟨⟨x8_0, x8_1⟩, x8_f0, x8_f1⟩ := two_at H8.out
      obtain ⟨⟨x2_0, x2_1⟩, x2_f0, x2_f1⟩ := two_at H2.out
      have n2 := set2_at H2.out (.string (numS s)) (.string (denS s))
      have hgl : W.grownBy ((wr.setCell ⟨W.heap.size, 0, none⟩ (.string (numS s))).setCell ⟨W.heap.size, 1, none⟩ (.string (denS s))) (some b) := below_only HG.out (put2_below (show W.heap.size ≤ W.heap.size from (by omega)) wr (.string (numS s)) (.string (denS s)))
      clear HG
      have HG := Lib.hid hgl
      clear hgl
      obtain ⟨⟨r2_0, r2_1⟩, _⟩ := two_at n2
      go_wp2
      refine bodyPost_ret (v := .agg #[.string (numS s), .string (denS s)]) (by simp [results, Tryz.results182, go_sem, r2_0, r2_1]) rfl ⟨by rw [HS0.out], HG.out⟩

end Go.Proofs.YtemdjmaakajhjaaGreatDoor.Num.Ft

/- package fstat: hypergeometric over its arguments, 30 in all. Conditions: what the small functions give. -/
namespace Go.Proofs.YtemdjmaakajhjaaGreatDoor.Num.Ft
open Go.RowKit Go.Lib Num
attribute [local irreducible] wpOp
set_option linter.unusedSimpArgs false in
set_option linter.unusedVariables false in
set_option maxHeartbeats 4000000 in
set_option maxRecDepth 100000 in
theorem hyper_walk (n k m : Nat) (q0 q1 q2 q3 x y z v r : Rat) (b g C : Nat) (W : World) (hn : n ≤ 20)
    (hk : k ≤ n)
    (hm : m ≤ 20)
    (hkm : k ≤ m)
    (hnk : n - k ≤ 30 - m)
    (hq0 : fits q0 = true)
    (hq1 : fits q1 = true)
    (hq2 : fits q2 = true)
    (hq3 : fits q3 = true)
    (hw0 : q0.floor = (k : Int))
    (hw1 : q1.floor = (n : Int))
    (hw2 : q2.floor = (m : Int))
    (hw3 : q3.floor = (30 : Int))
    (c0 : Fun2 273 (.int .i64 (m : Int)) (.int .i64 (k : Int)) (.agg #[.string (numS x), .string (denS x)]))
    (c1 : Fun2 273 (.int .i64 (30 - (m : Int))) (.int .i64 ((n : Int) - (k : Int))) (.agg #[.string (numS y), .string (denS y)]))
    (c2 : Fun2 144 (.agg #[.string (numS x), .string (denS x)]) (.agg #[.string (numS y), .string (denS y)]) (.agg #[.string (numS z), .string (denS z)]))
    (c3 : Fun2 273 (.int .i64 30) (.int .i64 (n : Int)) (.agg #[.string (numS v), .string (denS v)]))
    (c4 : Fun2 51 (.agg #[.string (numS z), .string (denS z)]) (.agg #[.string (numS v), .string (denS v)]) (.agg #[.string (numS r), .string (denS r)]))
    (ha : ArgsAt W b (some ⟨g, 0, none⟩) 4 C 0) (hne : g ≠ b) (hc0 : NumCells W g (0 + 0 * 9) q0) (hc1 : NumCells W g (0 + 1 * 9) q1) (hc2 : NumCells W g (0 + 2 * 9) q2) (hc3 : NumCells W g (0 + 3 * 9) q3) (hE : EnvY W) (hP : Past b) :
    Calls Tryz.prog 183 #[.pointer (some ⟨b, 0, none⟩)] W fun e w' => e = .returned (.agg #[.string (numS r), .string (denS r)]) ∧ W.grownBy w' (some b) := by
  have TA0 := Lib.hid (fun W' ga gc ge => argWhole_any b g 0 4 C 0 q0 W' ga (by decide) (by decide) hne gc hq0 (by rw [hw0]; omega) (by rw [hw0]; omega) ge hP)
  rw [hw0] at TA0
  have TA1 := Lib.hid (fun W' ga gc ge => argWhole_any b g 0 4 C 1 q1 W' ga (by decide) (by decide) hne gc hq1 (by rw [hw1]; omega) (by rw [hw1]; omega) ge hP)
  rw [hw1] at TA1
  have TA2 := Lib.hid (fun W' ga gc ge => argWhole_any b g 0 4 C 2 q2 W' ga (by decide) (by decide) hne gc hq2 (by rw [hw2]; omega) (by rw [hw2]; omega) ge hP)
  rw [hw2] at TA2
  have TA3 := Lib.hid (fun W' ga gc ge => argWhole_any b g 0 4 C 3 q3 W' ga (by decide) (by decide) hne gc hq3 (by rw [hw3]; omega) (by rw [hw3]; omega) ge hP)
  rw [hw3] at TA3
  have Qc0 := Lib.hid c0
  have Qc1 := Lib.hid c1
  have Qc2 := Lib.hid c2
  have Qc3 := Lib.hid c3
  have Qc4 := Lib.hid c4
  unfold Fun2 at Qc0 Qc1 Qc2 Qc3 Qc4
  have a1 : ¬ ((n : Int) < (k : Int)) := by omega
  have a2 : ¬ ((m : Int) < (k : Int)) := by omega
  have a3 : ¬ ((30 : Int) < (k : Int)) := by omega
  have hm4 : ∀ (ts : Array TypeId) (t : TypeId) (w : World), (Builtin.min_ ts t #[.int .i64 (k : Int), .int .i64 (n : Int), .int .i64 (m : Int), .int .i64 30]).run Tryz.prog w = .ok (.int .i64 (k : Int)) w := fun ts t w => by
    simp only [Builtin.min_, List.foldlM, Builtin.min2, if_neg a1, if_neg a2, if_neg a3, Sem.run_bind, Sem.run_pure, Result.andThen_ok]
  clear a1 a2 a3
  have f0 : decide ((k : Int) < 0) = false := decide_eq_false (by omega)
  obtain ⟨mx, hmx⟩ : ∃ z, max (n : Int) (m : Int) = z := ⟨_, rfl⟩
  have hmx1 : mx ≤ 20 := by omega
  have f1 : decide ((30 : Int) < mx) = false := decide_eq_false (by omega)
  have f2 : decide ((200 : Int) < (30 : Int)) = false := rfl
  obtain ⟨mi, hmi⟩ : ∃ z, min (n : Int) (m : Int) = z := ⟨_, rfl⟩
  have hmi1 : (k : Int) ≤ mi := by omega
  have f3 : decide (mi < (k : Int)) = false := decide_eq_false (by omega)
  have w1 : IntKind.i64.wrap ((n : Int) - (k : Int)) = (n : Int) - (k : Int) := IntWalk.i64_in _ (by omega)
  have w2 : IntKind.i64.wrap (30 - (m : Int)) = 30 - (m : Int) := IntWalk.i64_in _ (by omega)
  have f4 : decide (30 - (m : Int) < (n : Int) - (k : Int)) = false := decide_eq_false (by omega)
  have HP := Lib.hid hP
  have HE0 := Lib.hid hE
  have NG := Lib.hid hne
  have HBW := Lib.hid (heap_lt ha)
  have hb : Below W.heap.size W (W.alloc (.cells #[.string { data := #[] }, .string { data := #[] }] 24)) := ((Below.refl _ _).alloc (Nat.le_refl _) _)
  have HG := Lib.hid (kept_below (b := b) hb)
  have HE := Lib.hid (hE.below hb)
  have HA := Lib.hid (show ArgsAt (W.alloc (.cells #[.string { data := #[] }, .string { data := #[] }] 24)) b (some ⟨g, 0, none⟩) 4 C 0 from keep_block ha hb)
  have HC0 := Lib.hid (NumCells.below hc0 hb)
  have HC1 := Lib.hid (NumCells.below hc1 hb)
  have HC2 := Lib.hid (NumCells.below hc2 hb)
  have HC3 := Lib.hid (NumCells.below hc3 hb)
  have H2 : Hid ((W.alloc (.cells #[.string { data := #[] }, .string { data := #[] }] 24)).heap[W.heap.size]? = some (.cells #[.string { data := #[] }, .string { data := #[] }] 24 (0, 0))) := Lib.hid (by
    have h := heap_alloc_new W (.cells #[.string { data := #[] }, .string { data := #[] }] 24)
    exact h)
  have NE2 : Hid (W.heap.size ≠ b) := Lib.hid (by have := HBW.out; omega)
  obtain ⟨W0, hW0⟩ : ∃ Z, (W.alloc (.cells #[.string { data := #[] }, .string { data := #[] }] 24)) = Z := ⟨_, rfl⟩
  rw [hW0] at HG HE HA HC0 HC1 HC2 HC3 H2
  have EW0 := Lib.hid hW0
  clear hW0 hb ha hE hP hne hc0 hc1 hc2 hc3  hq0 hq1 hq2 hq3 hw0 hw1 hw2 hw3 c0 c1 c2 c3 c4
  go_enter Tryz.func183, Tryz.ntmps183
  go_wp2_with fail
  rw [EW0.out]
  refine (TA0.out _ HA.out HC0.out HE.out).mono ?_
  rintro e w1 ⟨rfl, ha, hg⟩
  replace HA := Lib.hid ha
  clear HC0
  replace H2 := Lib.hid (kept_block H2.out hg NE2.out)
  replace HC1 := Lib.hid (HC1.out.kept hg NG.out)
  replace HC2 := Lib.hid (HC2.out.kept hg NG.out)
  replace HC3 := Lib.hid (HC3.out.kept hg NG.out)
  replace HE := Lib.hid (HE.out.kept hg HP.out)
  replace HG := Lib.hid (kept_trans HG.out hg)
  clear ha hg
  go_wp2_with fail
  refine (TA1.out _ HA.out HC1.out HE.out).mono ?_
  rintro e w2 ⟨rfl, ha, hg⟩
  replace HA := Lib.hid ha
  clear HC1
  replace H2 := Lib.hid (kept_block H2.out hg NE2.out)
  replace HC2 := Lib.hid (HC2.out.kept hg NG.out)
  replace HC3 := Lib.hid (HC3.out.kept hg NG.out)
  replace HE := Lib.hid (HE.out.kept hg HP.out)
  replace HG := Lib.hid (kept_trans HG.out hg)
  clear ha hg
  go_wp2_with fail
  refine (TA2.out _ HA.out HC2.out HE.out).mono ?_
  rintro e w3 ⟨rfl, ha, hg⟩
  replace HA := Lib.hid ha
  clear HC2
  replace H2 := Lib.hid (kept_block H2.out hg NE2.out)
  replace HC3 := Lib.hid (HC3.out.kept hg NG.out)
  replace HE := Lib.hid (HE.out.kept hg HP.out)
  replace HG := Lib.hid (kept_trans HG.out hg)
  clear ha hg
  go_wp2_with fail
  refine (TA3.out _ HA.out HC3.out HE.out).mono ?_
  rintro e w4 ⟨rfl, ha, hg⟩
  replace HA := Lib.hid ha
  clear HC3
  replace H2 := Lib.hid (kept_block H2.out hg NE2.out)
  replace HE := Lib.hid (HE.out.kept hg HP.out)
  replace HG := Lib.hid (kept_trans HG.out hg)
  clear ha hg
  clear HA 
  go_wp2_with fail
  refine (stop_no 5 _).mono ?_
  rintro e w5 ⟨rfl, hws⟩
  replace hws := hws.symm
  subst hws
  go_wp2_with fail
  refine (Qc0.out _ HE.out).mono ?_
  rintro e w6 ⟨rfl, hb⟩
  replace H2 := Lib.hid (keep_block H2.out hb)
  replace HE := Lib.hid (HE.out.below hb)
  replace HG := Lib.hid (kept_trans HG.out (kept_below hb))
  clear hb
  go_wp2_with fail
  refine (Qc1.out _ HE.out).mono ?_
  rintro e w7 ⟨rfl, hb⟩
  replace H2 := Lib.hid (keep_block H2.out hb)
  replace HE := Lib.hid (HE.out.below hb)
  replace HG := Lib.hid (kept_trans HG.out (kept_below hb))
  clear hb
  go_wp2_with fail
  refine (Qc2.out _ HE.out).mono ?_
  rintro e w8 ⟨rfl, hb⟩
  replace H2 := Lib.hid (keep_block H2.out hb)
  replace HE := Lib.hid (HE.out.below hb)
  replace HG := Lib.hid (kept_trans HG.out (kept_below hb))
  clear hb
  go_wp2_with fail
  refine (Qc3.out _ HE.out).mono ?_
  rintro e w9 ⟨rfl, hb⟩
  replace H2 := Lib.hid (keep_block H2.out hb)
  replace HE := Lib.hid (HE.out.below hb)
  replace HG := Lib.hid (kept_trans HG.out (kept_below hb))
  clear hb
  go_wp2_with fail
  refine (Qc4.out _ HE.out).mono ?_
  rintro e w10 ⟨rfl, hb⟩
  replace H2 := Lib.hid (keep_block H2.out hb)
  replace HE := Lib.hid (HE.out.below hb)
  replace HG := Lib.hid (kept_trans HG.out (kept_below hb))
  clear hb
  obtain ⟨⟨x2_0, x2_1⟩, x2_f0, x2_f1⟩ := two_at H2.out
  have n2 := set2_at H2.out (.string (numS r)) (.string (denS r))
  have hgl : W.grownBy ((w10.setCell ⟨W.heap.size, 0, none⟩ (.string (numS r))).setCell ⟨W.heap.size, 1, none⟩ (.string (denS r))) (some b) := below_only HG.out (put2_below (show W.heap.size ≤ W.heap.size from (by omega)) w10 (.string (numS r)) (.string (denS r)))
  clear HG
  have HG := Lib.hid hgl
  clear hgl
  obtain ⟨⟨r2_0, r2_1⟩, _⟩ := two_at n2
  go_wp2
  refine bodyPost_ret (v := .agg #[.string (numS r), .string (denS r)]) (by simp [results, Tryz.results183, go_sem, r2_0, r2_1]) rfl ⟨rfl, HG.out⟩

end Go.Proofs.YtemdjmaakajhjaaGreatDoor.Num.Ft

/- Binomial coefficients and falling products. Plain: no program. -/
namespace Go.Proofs.YtemdjmaakajhjaaGreatDoor.Num

def choose : Nat → Nat → Nat
  | _, 0 => 1
  | 0, _ + 1 => 0
  | n + 1, k + 1 => choose n k + choose n (k + 1)
def desc (n : Nat) : Nat → Nat
  | 0 => 1
  | k + 1 => desc n k * (n - k)
theorem choose_zero (n : Nat) : choose n 0 = 1 := by cases n <;> rfl
theorem choose_succ (n k : Nat) : choose (n + 1) (k + 1) = choose n k + choose n (k + 1) := rfl
theorem choose_more : ∀ (n k : Nat), n < k → choose n k = 0
  | 0, 0, h => by omega
  | 0, k + 1, _ => rfl
  | n + 1, 0, h => by omega
  | n + 1, k + 1, h => by rw [choose_succ, choose_more n k (by omega), choose_more n (k + 1) (by omega)]
theorem choose_self : ∀ n : Nat, choose n n = 1
  | 0 => rfl
  | n + 1 => by rw [choose_succ, choose_self n, choose_more n (n + 1) (by omega)]
theorem choose_mul : ∀ (n k : Nat), (n + 1) * choose n k = choose (n + 1) (k + 1) * (k + 1)
  | 0, 0 => rfl
  | 0, k + 1 => by rw [choose_more 0 (k + 1) (by omega), choose_more 1 (k + 2) (by omega)]; simp
  | n + 1, 0 => by
    have h := choose_mul n 0
    rw [choose_zero] at h ⊢
    rw [choose_succ (n + 1) 0, choose_zero]
    simp only [Nat.zero_add, Nat.mul_one] at h ⊢
    omega
  | n + 1, k + 1 => by
    have h1 := choose_mul n k
    have h2 := choose_mul n (k + 1)
    rw [choose_succ (n + 1) (k + 1)]
    rw [choose_succ n k] at h1 ⊢
    rw [choose_succ n (k + 1)] at h2 ⊢
    grind
theorem choose_le : ∀ (n k : Nat), choose n k ≤ 2 ^ n
  | n, 0 => by rw [choose_zero]; exact Nat.one_le_two_pow
  | 0, k + 1 => by simp [choose]
  | n + 1, k + 1 => by
    have h1 := choose_le n k
    have h2 := choose_le n (k + 1)
    rw [choose_succ, Nat.pow_succ]; omega
theorem desc_succ (n : Nat) : ∀ k, desc (n + 1) (k + 1) = (n + 1) * desc n k
  | 0 => by simp [desc]
  | k + 1 => by
    rw [show desc (n + 1) (k + 1 + 1) = desc (n + 1) (k + 1) * (n + 1 - (k + 1)) from rfl, desc_succ n k]
    rw [show desc n (k + 1) = desc n k * (n - k) from rfl, show n + 1 - (k + 1) = n - k by omega, Nat.mul_assoc]
theorem desc_choose : ∀ (n k : Nat), desc n k = choose n k * desc k k
  | n, 0 => by rw [choose_zero]; rfl
  | 0, k + 1 => by
    rw [choose_more 0 (k + 1) (by omega), show desc 0 (k + 1) = desc 0 k * (0 - k) from rfl]; simp
  | n + 1, k + 1 => by
    rw [desc_succ n k, desc_succ k k, desc_choose n k, ← Nat.mul_assoc, ← Nat.mul_assoc, choose_mul]
theorem desc_le (n : Nat) : ∀ k, desc n k ≤ n ^ k
  | 0 => by simp [desc]
  | k + 1 => by
    rw [Nat.pow_succ]
    exact Nat.mul_le_mul (desc_le n k) (Nat.sub_le n k)
theorem pow_mono {a b c d : Nat} (h : a ≤ b) (k : c ≤ d) (hb : 0 < b) : a ^ c ≤ b ^ d :=
  Nat.le_trans (Nat.pow_le_pow_left h c) (Nat.pow_le_pow_right hb k)
theorem desc_small {n k : Nat} (hn : n ≤ 200) (hk : k ≤ 100) : desc n k ≤ 200 ^ 100 := Nat.le_trans (desc_le n k) (pow_mono hn hk (by decide))
theorem choose_small {n k : Nat} (hn : n ≤ 200) : choose n k ≤ 2 ^ 200 := Nat.le_trans (choose_le n k) (Nat.pow_le_pow_right (by decide) hn)
/-- one round of COMBIN -/
theorem choose_step (m i : Nat) : ((choose (m + i) i : Nat) : Rat) * ((m + (i + 1) : Nat) : Rat) / ((i + 1 : Nat) : Rat) = ((choose (m + (i + 1)) (i + 1) : Nat) : Rat) := by
  have h := choose_mul (m + i) i
  rw [show m + (i + 1) = m + i + 1 by omega]
  have h0 : ((i + 1 : Nat) : Rat) ≠ 0 := by
    intro e
    have : ((i + 1 : Nat) : Rat) = ((0 : Nat) : Rat) := e
    have h2 : i + 1 = 0 := by exact_mod_cast this
    omega
  have h3 : ((choose (m + i) i : Nat) : Rat) * ((m + i + 1 : Nat) : Rat) = ((choose (m + i + 1) (i + 1) : Nat) : Rat) * ((i + 1 : Nat) : Rat) := by
    rw [← Rat.natCast_mul, ← Rat.natCast_mul, ← h, Nat.mul_comm]
  rw [h3, Rat.div_def, Rat.mul_assoc, Rat.mul_inv_cancel _ h0, Rat.mul_one]
end Go.Proofs.YtemdjmaakajhjaaGreatDoor.Num
