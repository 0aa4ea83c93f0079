/- Numbers as texts of digits, fractions, values and the functions of fmath: contracts of the program's functions, joined from smaller texts. Conditions stand at each theorem. -/
import Derived.Test.YtphfefmlappidaaGreatDoorFypA
import Derived.Test.YtphfefmlappidaaGreatDoorFylA

/- package fmoney: the sums of interests and principals, CUMPRINC over its arguments. Conditions: what the small functions give. -/
namespace Go.Proofs.YtphfefmlappidaaGreatDoor.Num.Fy
open Go.RowKit Go.Lib Num

/-- what stays while the payments are added up -/
structure SumI (W : World) (b B4 B6 B10 B11 : Nat) (r v x y : Rat) (wx : World) : Prop where
  h2 : wx.heap[W.heap.size]? = some (.cells #[.string { data := #[] }, .string { data := #[] }] 23 (0, 0))
  h3 : wx.heap[W.heap.size + 1]? = some (.cells #[.string { data := #[] }, .string { data := #[] }] 23 (0, 0))
  h4 : wx.heap[B4]? = some (.cells #[.string (numS r), .string (denS r)] 23 (0, 0))
  h6 : wx.heap[B6]? = some (.cells #[.string (numS v), .string (denS v)] 23 (0, 0))
  h10 : wx.heap[B10]? = some (.cells #[.string (numS x), .string (denS x)] 23 (0, 0))
  h11 : wx.heap[B11]? = some (.cells #[.string (numS y), .string (denS y)] 23 (0, 0))
  g : W.grownBy wx (some b)
attribute [local irreducible] wpOp
set_option linter.unusedVariables false in
/-- what the operations of region 9 yield -/
def fy_sumsKs9 (r v zz x y ii qq x2 y2 : Rat) (N : Nat) (kk : Int) (W : World) (w12 w6 : World) : List RK :=
  [.pure (.agg #[.string (numS r), .string (denS r)]),
   .pure (.int .i64 kk),
   .pure (.int .i64 (N : Int)),
   .pure (.agg #[.string (numS v), .string (denS v)]),
   .pure (.agg #[.string (numS zz), .string (denS zz)]),
   .pure (.int .i64 0),
   .pure (.tuple #[.agg #[.string (numS ii), .string (denS ii)], .agg #[.string (numS qq), .string (denS qq)]]),
   .pure (.tuple #[.agg #[.string (numS ii), .string (denS ii)], .agg #[.string (numS qq), .string (denS qq)]]),
   .pure (.agg #[.string (numS ii), .string (denS ii)]),
   .pure (.agg #[.string (numS qq), .string (denS qq)]),
   .box none #[.string { data := #[] }, .string { data := #[] }] #[.string (numS ii), .string (denS ii)] 23 12,
   .box none #[.string { data := #[] }, .string { data := #[] }] #[.string (numS qq), .string (denS qq)] 23 13,
   .put 10,
   .put 11]
set_option linter.unusedVariables false in
/-- what the operations of region 10 yield -/
def fy_sumsKs10 (r v zz x y ii qq x2 y2 : Rat) (N : Nat) (kk : Int) (W : World) (w12 w6 : World) (b12 b13 : Nat) : List RK :=
  [.pure (.agg #[.string (numS x), .string (denS x)]),
   .pure (.agg #[.string (numS ii), .string (denS ii)]),
   .pure (.agg #[.string (numS x2), .string (denS x2)]),
   .pure (.agg #[.string (numS y), .string (denS y)]),
   .pure (.agg #[.string (numS qq), .string (denS qq)]),
   .pure (.agg #[.string (numS y2), .string (denS y2)]),
   .put 12,
   .put 13,
   .box (some (W.heap.size)) #[.string { data := #[] }, .string { data := #[] }] #[.string { data := #[] }, .string { data := #[] }] 23 16,
   .box (some (W.heap.size + 1)) #[.string { data := #[] }, .string { data := #[] }] #[.string { data := #[] }, .string { data := #[] }] 23 16,
   .box (some (w6.heap.size)) #[.string (numS r), .string (denS r)] #[.string (numS r), .string (denS r)] 23 16,
   .box (some (w6.heap.size + 1)) #[.string (numS v), .string (denS v)] #[.string (numS v), .string (denS v)] 23 16,
   .box (some (w12.heap.size)) #[.string (numS x), .string (denS x)] #[.string (numS x2), .string (denS x2)] 23 6,
   .box (some (w12.heap.size + 1)) #[.string (numS y), .string (denS y)] #[.string (numS y2), .string (denS y2)] 23 7,
   .box (some (b12)) #[.string (numS ii), .string (denS ii)] #[.string (numS ii), .string (denS ii)] 23 16,
   .box (some (b13)) #[.string (numS qq), .string (denS qq)] #[.string (numS qq), .string (denS qq)] 23 16]
set_option linter.unusedVariables false in
/-- what the operations of region 11 yield -/
def fy_sumsKs11 (x y : Rat) (W : World) (w12 w6 : World) : List RK :=
  [.pure (.agg #[.string (numS x), .string (denS x)]),
   .pure (.agg #[.string (numS y), .string (denS y)]),
   .put 4,
   .put 5,
   .box (some (W.heap.size)) #[.string { data := #[] }, .string { data := #[] }] #[.string (numS x), .string (denS x)] 23 2,
   .box (some (W.heap.size + 1)) #[.string { data := #[] }, .string { data := #[] }] #[.string (numS y), .string (denS y)] 23 3,
   .box (some (w12.heap.size)) #[.string (numS x), .string (denS x)] #[.string (numS x), .string (denS x)] 23 8,
   .box (some (w12.heap.size + 1)) #[.string (numS y), .string (denS y)] #[.string (numS y), .string (denS y)] 23 8]
set_option linter.unusedSimpArgs false in
set_option linter.unusedVariables false in
set_option maxHeartbeats 4000000 in
set_option maxRecDepth 100000 in
theorem fy_sums (r qn v qk qm qe zz : Rat) (X Y II QQ : Nat → Rat) (N : Nat) (b g C : Nat) (W : World) (hq0 : fits r = true)
    (hq1 : fits qn = true)
    (hw1 : qn.floor = (N : Int))
    (hq2 : fits v = true)
    (hq3 : fits qk = true)
    (hw3 : qk.floor = 1)
    (hq4 : fits qm = true)
    (hw4 : qm.floor = (N : Int))
    (hq5 : fits qe = true)
    (hw5 : qe.floor = 0)
    (hN0 : 1 ≤ N)
    (hN1 : N ≤ 1000)
    (c0 : Fun1 49 (.int .i64 0) (.agg #[.string (numS zz), .string (denS zz)]))
    (hX0 : X 0 = zz)
    (hY0 : Y 0 = zz)
    (hp : ∀ k : Nat, k < N → Fun6 213 (.agg #[.string (numS r), .string (denS r)]) (.int .i64 ((k + 1 : Nat) : Int)) (.int .i64 (N : Int)) (.agg #[.string (numS v), .string (denS v)]) (.agg #[.string (numS zz), .string (denS zz)]) (.int .i64 0) (.tuple #[.agg #[.string (numS (II (k + 1))), .string (denS (II (k + 1)))], .agg #[.string (numS (QQ (k + 1))), .string (denS (QQ (k + 1)))]]))
    (hx : ∀ k : Nat, k < N → Fun2 92 (fracV (X k)) (fracV (II (k + 1))) (fracV (X (k + 1))))
    (hy : ∀ k : Nat, k < N → Fun2 92 (fracV (Y k)) (fracV (QQ (k + 1))) (fracV (Y (k + 1)))) (ha : ArgsAt W b (some ⟨g, 0, none⟩) 6 C 0) (hne : g ≠ b) (hc0 : NumCells W g (0 + 0 * 9) r) (hc1 : NumCells W g (0 + 1 * 9) qn) (hc2 : NumCells W g (0 + 2 * 9) v) (hc3 : NumCells W g (0 + 3 * 9) qk) (hc4 : NumCells W g (0 + 4 * 9) qm) (hc5 : NumCells W g (0 + 5 * 9) qe) (hE : EnvY W) (hP : Past b) :
    Calls Tryz.prog 100 #[.pointer (some ⟨b, 0, none⟩)] W fun e w' => e = .returned (.tuple #[.agg #[.string (numS (X N)), .string (denS (X N))], .agg #[.string (numS (Y N)), .string (denS (Y N))]]) ∧ W.grownBy w' (some b) := by

  have TW0 := Lib.hid (fun W => y_within ((N : Int)) (0) (1000) W (by omega) (by omega))
  have TW1 := Lib.hid (fun W => y_within (0) (0) (1) W (by decide) (by decide))
  have TW2 := Lib.hid (fun W => y_within (1) (1) ((N : Int)) W (by decide) (by omega))
  have TW3 := Lib.hid (fun W => y_within ((N : Int)) (1) ((N : Int)) W (by omega) (by omega))
  have Qc0 := Lib.hid c0
  unfold Fun1 at Qc0
  have TA0 := Lib.hid (fun W' ga gc ge => argNum_any b g 0 6 C 0 r W' ga (by decide) (by decide) hne gc hq0 ge hP)
  rw [fracV_is r] at TA0
  have TA1 := Lib.hid (fun W' ga gc ge => argWhole_any b g 0 6 C 1 qn W' ga (by decide) (by decide) hne gc hq1 (by rw [hw1]; omega) (by rw [hw1]; omega) ge hP)
  rw [hw1] at TA1
  have TA2 := Lib.hid (fun W' ga gc ge => argNum_any b g 0 6 C 2 v W' ga (by decide) (by decide) hne gc hq2 ge hP)
  rw [fracV_is v] at TA2
  have TA3 := Lib.hid (fun W' ga gc ge => argWhole_any b g 0 6 C 3 qk W' ga (by decide) (by decide) hne gc hq3 (by rw [hw3]; omega) (by rw [hw3]; omega) ge hP)
  rw [hw3] at TA3
  have TA4 := Lib.hid (fun W' ga gc ge => argWhole_any b g 0 6 C 4 qm W' ga (by decide) (by decide) hne gc hq4 (by rw [hw4]; omega) (by rw [hw4]; omega) ge hP)
  rw [hw4] at TA4
  have TA5 := Lib.hid (fun W' ga gc ge => argWhole_any b g 0 6 C 5 qe W' ga (by decide) (by decide) hne gc hq5 (by rw [hw5]; omega) (by rw [hw5]; omega) ge hP)
  rw [hw5] at TA5
  have HPT := Lib.hid hp
  have HXT := Lib.hid hx
  have HYT := Lib.hid hy
  have HX0 := Lib.hid hX0
  have HY0 := Lib.hid hY0
  have HN1 := Lib.hid hN1
  have dN : decide (1 ≤ N) = true := decide_eq_true hN0
  have HP := Lib.hid hP
  have HE0 := Lib.hid hE
  have NG := Lib.hid hne
  have HBW := Lib.hid (heap_lt ha)
  have hb : Below W.heap.size W ((W.alloc (.cells #[.string { data := #[] }, .string { data := #[] }] 23)).alloc (.cells #[.string { data := #[] }, .string { data := #[] }] 23)) := (((Below.refl _ _).alloc (Nat.le_refl _) _).alloc (by simp only [World.size_alloc]; omega) _)
  have HG := Lib.hid (kept_below (b := b) hb)
  have HE := Lib.hid (hE.below hb)
  have HA := Lib.hid (show ArgsAt ((W.alloc (.cells #[.string { data := #[] }, .string { data := #[] }] 23)).alloc (.cells #[.string { data := #[] }, .string { data := #[] }] 23)) b (some ⟨g, 0, none⟩) 6 C 0 from keep_block ha hb)
  have HC0 := Lib.hid (NumCells.below hc0 hb)
  have HC1 := Lib.hid (NumCells.below hc1 hb)
  have HC2 := Lib.hid (NumCells.below hc2 hb)
  have HC3 := Lib.hid (NumCells.below hc3 hb)
  have HC4 := Lib.hid (NumCells.below hc4 hb)
  have HC5 := Lib.hid (NumCells.below hc5 hb)
  have H2 : Hid (((W.alloc (.cells #[.string { data := #[] }, .string { data := #[] }] 23)).alloc (.cells #[.string { data := #[] }, .string { data := #[] }] 23)).heap[W.heap.size]? = some (.cells #[.string { data := #[] }, .string { data := #[] }] 23 (0, 0))) := Lib.hid (by
    have h := heap_alloc_new W (.cells #[.string { data := #[] }, .string { data := #[] }] 23)
    exact new_keep (h))
  have NE2 : Hid (W.heap.size ≠ b) := Lib.hid (by have := HBW.out; omega)
  have H3 : Hid (((W.alloc (.cells #[.string { data := #[] }, .string { data := #[] }] 23)).alloc (.cells #[.string { data := #[] }, .string { data := #[] }] 23)).heap[W.heap.size + 1]? = some (.cells #[.string { data := #[] }, .string { data := #[] }] 23 (0, 0))) := Lib.hid (by
    have h := heap_alloc_new (W.alloc (.cells #[.string { data := #[] }, .string { data := #[] }] 23)) (.cells #[.string { data := #[] }, .string { data := #[] }] 23)
    simp only [World.size_alloc] at h
    exact h)
  have NE3 : Hid (W.heap.size + 1 ≠ b) := Lib.hid (by have := HBW.out; omega)
  obtain ⟨W0, hW0⟩ : ∃ Z, ((W.alloc (.cells #[.string { data := #[] }, .string { data := #[] }] 23)).alloc (.cells #[.string { data := #[] }, .string { data := #[] }] 23)) = Z := ⟨_, rfl⟩
  rw [hW0] at HG HE HA HC0 HC1 HC2 HC3 HC4 HC5 H2 H3
  have EW0 := Lib.hid hW0
  clear hW0 hb ha hE hP hne hc0 hc1 hc2 hc3 hc4 hc5 c0 hq0 hq1 hw1 hq2 hq3 hw3 hq4 hw4 hq5 hw5 hp hx hy hX0 hY0 hN0 hN1
  go_enter Tryz.func100, Tryz.ntmps100
  go_wp2_with fail
  rw [EW0.out]
  refine (TA0.out _ HA.out HC0.out (HE.out.e)).mono ?_
  rintro e w1 ⟨rfl, ha, hg⟩
  replace HA := Lib.hid ha
  clear HC0
  replace H2 := Lib.hid (kept_block H2.out hg NE2.out)
  replace H3 := Lib.hid (kept_block H3.out hg NE3.out)
  replace HC1 := Lib.hid (HC1.out.kept hg NG.out)
  replace HC2 := Lib.hid (HC2.out.kept hg NG.out)
  replace HC3 := Lib.hid (HC3.out.kept hg NG.out)
  replace HC4 := Lib.hid (HC4.out.kept hg NG.out)
  replace HC5 := Lib.hid (HC5.out.kept hg NG.out)
  replace HE := Lib.hid (HE.out.kept hg HP.out)
  replace HG := Lib.hid (kept_trans HG.out hg)
  clear ha hg
  go_wp2_with fail
  refine (TA1.out _ HA.out HC1.out (HE.out.e)).mono ?_
  rintro e w2 ⟨rfl, ha, hg⟩
  replace HA := Lib.hid ha
  clear HC1
  replace H2 := Lib.hid (kept_block H2.out hg NE2.out)
  replace H3 := Lib.hid (kept_block H3.out hg NE3.out)
  replace HC2 := Lib.hid (HC2.out.kept hg NG.out)
  replace HC3 := Lib.hid (HC3.out.kept hg NG.out)
  replace HC4 := Lib.hid (HC4.out.kept hg NG.out)
  replace HC5 := Lib.hid (HC5.out.kept hg NG.out)
  replace HE := Lib.hid (HE.out.kept hg HP.out)
  replace HG := Lib.hid (kept_trans HG.out hg)
  clear ha hg
  go_wp2_with fail
  refine (TA2.out _ HA.out HC2.out (HE.out.e)).mono ?_
  rintro e w3 ⟨rfl, ha, hg⟩
  replace HA := Lib.hid ha
  clear HC2
  replace H2 := Lib.hid (kept_block H2.out hg NE2.out)
  replace H3 := Lib.hid (kept_block H3.out hg NE3.out)
  replace HC3 := Lib.hid (HC3.out.kept hg NG.out)
  replace HC4 := Lib.hid (HC4.out.kept hg NG.out)
  replace HC5 := Lib.hid (HC5.out.kept hg NG.out)
  replace HE := Lib.hid (HE.out.kept hg HP.out)
  replace HG := Lib.hid (kept_trans HG.out hg)
  clear ha hg
  go_wp2_with fail
  refine (TA3.out _ HA.out HC3.out (HE.out.e)).mono ?_
  rintro e w4 ⟨rfl, ha, hg⟩
  replace HA := Lib.hid ha
  clear HC3
  replace H2 := Lib.hid (kept_block H2.out hg NE2.out)
  replace H3 := Lib.hid (kept_block H3.out hg NE3.out)
  replace HC4 := Lib.hid (HC4.out.kept hg NG.out)
  replace HC5 := Lib.hid (HC5.out.kept hg NG.out)
  replace HE := Lib.hid (HE.out.kept hg HP.out)
  replace HG := Lib.hid (kept_trans HG.out hg)
  clear ha hg
  go_wp2_with fail
  refine (TA4.out _ HA.out HC4.out (HE.out.e)).mono ?_
  rintro e w5 ⟨rfl, ha, hg⟩
  replace HA := Lib.hid ha
  clear HC4
  replace H2 := Lib.hid (kept_block H2.out hg NE2.out)
  replace H3 := Lib.hid (kept_block H3.out hg NE3.out)
  replace HC5 := Lib.hid (HC5.out.kept hg NG.out)
  replace HE := Lib.hid (HE.out.kept hg HP.out)
  replace HG := Lib.hid (kept_trans HG.out hg)
  clear ha hg
  go_wp2_with fail
  refine (TA5.out _ HA.out HC5.out (HE.out.e)).mono ?_
  rintro e w6 ⟨rfl, ha, hg⟩
  replace HA := Lib.hid ha
  clear HC5
  replace H2 := Lib.hid (kept_block H2.out hg NE2.out)
  replace H3 := Lib.hid (kept_block H3.out hg NE3.out)
  replace HE := Lib.hid (HE.out.kept hg HP.out)
  replace HG := Lib.hid (kept_trans HG.out hg)
  clear ha hg
  have lt_2 := heap_lt H2.out
  have lt_3 := heap_lt H3.out
  have geW := HG.out.size
  have L4_2 : Hid (W.heap.size < w6.heap.size) := Lib.hid (by omega)
  have L4_3 : Hid (W.heap.size + 1 < w6.heap.size) := Lib.hid (by omega)
  have G4 : Hid (W.heap.size ≤ w6.heap.size) := Lib.hid (by omega)
  have NE4 : Hid (w6.heap.size ≠ b) := Lib.hid (by have := HBW.out; omega)
  have hb : Below w6.heap.size w6 (w6.alloc (.cells #[.string (numS r), .string (denS r)] 23)) := (Below.refl _ _).alloc (Nat.le_refl _) _
  replace H2 := Lib.hid (keep_block H2.out hb)
  replace H3 := Lib.hid (keep_block H3.out hb)
  replace HA := Lib.hid (keep_block HA.out hb)
  replace HE := Lib.hid (HE.out.below hb)
  replace HG := Lib.hid (kept_trans HG.out (kept_below hb))
  have H4 := Lib.hid (heap_alloc_new w6 (.cells #[.string (numS r), .string (denS r)] 23))
  clear hb
  have L6_2 : Hid (W.heap.size < w6.heap.size + 1) := Lib.hid (by omega)
  have L6_3 : Hid (W.heap.size + 1 < w6.heap.size + 1) := Lib.hid (by omega)
  have L6_4 : Hid (w6.heap.size < w6.heap.size + 1) := Lib.hid (by omega)
  have G6 : Hid (W.heap.size ≤ w6.heap.size + 1) := Lib.hid (by omega)
  have NE6 : Hid (w6.heap.size + 1 ≠ b) := Lib.hid (by have := HBW.out; omega)
  have hb : Below (w6.alloc (.cells #[.string (numS r), .string (denS r)] 23)).heap.size (w6.alloc (.cells #[.string (numS r), .string (denS r)] 23)) ((w6.alloc (.cells #[.string (numS r), .string (denS r)] 23)).alloc (.cells #[.string (numS v), .string (denS v)] 23)) := (Below.refl _ _).alloc (Nat.le_refl _) _
  replace H2 := Lib.hid (keep_block H2.out hb)
  replace H3 := Lib.hid (keep_block H3.out hb)
  replace H4 := Lib.hid (keep_block H4.out hb)
  replace HA := Lib.hid (keep_block HA.out hb)
  replace HE := Lib.hid (HE.out.below hb)
  replace HG := Lib.hid (kept_trans HG.out (kept_below hb))
  have H6 : Hid (((w6.alloc (.cells #[.string (numS r), .string (denS r)] 23)).alloc (.cells #[.string (numS v), .string (denS v)] 23)).heap[w6.heap.size + 1]? = some (.cells #[.string (numS v), .string (denS v)] 23 (0, 0))) := Lib.hid (by
    have h := heap_alloc_new (w6.alloc (.cells #[.string (numS r), .string (denS r)] 23)) (.cells #[.string (numS v), .string (denS v)] 23)
    simp only [World.size_alloc] at h
    exact h)
  clear hb
  clear geW lt_2 lt_3
  obtain ⟨WL1, hWL1⟩ : ∃ Z, ((w6.alloc (.cells #[.string (numS r), .string (denS r)] 23)).alloc (.cells #[.string (numS v), .string (denS v)] 23)) = Z := ⟨_, rfl⟩
  rw [hWL1] at HE HG H2 H3 H4 H6 HA
  have EWL1 := Lib.hid hWL1
  clear hWL1
  clear HA 
  go_wp2_with fail
  rw [EWL1.out]
  refine (TW0.out _).mono ?_
  rintro e w7 ⟨rfl, hws⟩
  replace hws := hws.symm
  subst hws
  go_wp2_with fail
  refine (TW1.out _).mono ?_
  rintro e w8 ⟨rfl, hws⟩
  replace hws := hws.symm
  subst hws
  go_wp2_with fail
  refine (TW2.out _).mono ?_
  rintro e w9 ⟨rfl, hws⟩
  replace hws := hws.symm
  subst hws
  go_wp2_with fail
  refine (TW3.out _).mono ?_
  rintro e w10 ⟨rfl, hws⟩
  replace hws := hws.symm
  subst hws
  go_wp2_with fail
  refine (Qc0.out _ HE.out).mono ?_
  rintro e w11 ⟨rfl, hb⟩
  replace H2 := Lib.hid (keep_block H2.out hb)
  replace H3 := Lib.hid (keep_block H3.out hb)
  replace H4 := Lib.hid (keep_block H4.out hb)
  replace H6 := Lib.hid (keep_block H6.out hb)
  replace HE := Lib.hid (HE.out.below hb)
  replace HG := Lib.hid (kept_trans HG.out (kept_below hb))
  clear hb
  go_wp2_with fail
  refine (Qc0.out _ HE.out).mono ?_
  rintro e w12 ⟨rfl, hb⟩
  replace H2 := Lib.hid (keep_block H2.out hb)
  replace H3 := Lib.hid (keep_block H3.out hb)
  replace H4 := Lib.hid (keep_block H4.out hb)
  replace H6 := Lib.hid (keep_block H6.out hb)
  replace HE := Lib.hid (HE.out.below hb)
  replace HG := Lib.hid (kept_trans HG.out (kept_below hb))
  clear hb
  have lt_2 := heap_lt H2.out
  have lt_3 := heap_lt H3.out
  have lt_4 := heap_lt H4.out
  have lt_6 := heap_lt H6.out
  have geW := HG.out.size
  have L10_2 : Hid (W.heap.size < w12.heap.size) := Lib.hid (by omega)
  have L10_3 : Hid (W.heap.size + 1 < w12.heap.size) := Lib.hid (by omega)
  have L10_4 : Hid (w6.heap.size < w12.heap.size) := Lib.hid (by omega)
  have L10_6 : Hid (w6.heap.size + 1 < w12.heap.size) := Lib.hid (by omega)
  have G10 : Hid (W.heap.size ≤ w12.heap.size) := Lib.hid (by omega)
  have NE10 : Hid (w12.heap.size ≠ b) := Lib.hid (by have := HBW.out; omega)
  have hb : Below w12.heap.size w12 (w12.alloc (.cells #[.string (numS zz), .string (denS zz)] 23)) := (Below.refl _ _).alloc (Nat.le_refl _) _
  replace H2 := Lib.hid (keep_block H2.out hb)
  replace H3 := Lib.hid (keep_block H3.out hb)
  replace H4 := Lib.hid (keep_block H4.out hb)
  replace H6 := Lib.hid (keep_block H6.out hb)
  replace HE := Lib.hid (HE.out.below hb)
  replace HG := Lib.hid (kept_trans HG.out (kept_below hb))
  have H10 := Lib.hid (heap_alloc_new w12 (.cells #[.string (numS zz), .string (denS zz)] 23))
  clear hb
  have L11_2 : Hid (W.heap.size < w12.heap.size + 1) := Lib.hid (by omega)
  have L11_3 : Hid (W.heap.size + 1 < w12.heap.size + 1) := Lib.hid (by omega)
  have L11_4 : Hid (w6.heap.size < w12.heap.size + 1) := Lib.hid (by omega)
  have L11_6 : Hid (w6.heap.size + 1 < w12.heap.size + 1) := Lib.hid (by omega)
  have L11_10 : Hid (w12.heap.size < w12.heap.size + 1) := Lib.hid (by omega)
  have G11 : Hid (W.heap.size ≤ w12.heap.size + 1) := Lib.hid (by omega)
  have NE11 : Hid (w12.heap.size + 1 ≠ b) := Lib.hid (by have := HBW.out; omega)
  have hb : Below (w12.alloc (.cells #[.string (numS zz), .string (denS zz)] 23)).heap.size (w12.alloc (.cells #[.string (numS zz), .string (denS zz)] 23)) ((w12.alloc (.cells #[.string (numS zz), .string (denS zz)] 23)).alloc (.cells #[.string (numS zz), .string (denS zz)] 23)) := (Below.refl _ _).alloc (Nat.le_refl _) _
  replace H2 := Lib.hid (keep_block H2.out hb)
  replace H3 := Lib.hid (keep_block H3.out hb)
  replace H4 := Lib.hid (keep_block H4.out hb)
  replace H6 := Lib.hid (keep_block H6.out hb)
  replace H10 := Lib.hid (keep_block H10.out hb)
  replace HE := Lib.hid (HE.out.below hb)
  replace HG := Lib.hid (kept_trans HG.out (kept_below hb))
  have H11 : Hid (((w12.alloc (.cells #[.string (numS zz), .string (denS zz)] 23)).alloc (.cells #[.string (numS zz), .string (denS zz)] 23)).heap[w12.heap.size + 1]? = some (.cells #[.string (numS zz), .string (denS zz)] 23 (0, 0))) := Lib.hid (by
    have h := heap_alloc_new (w12.alloc (.cells #[.string (numS zz), .string (denS zz)] 23)) (.cells #[.string (numS zz), .string (denS zz)] 23)
    simp only [World.size_alloc] at h
    exact h)
  clear hb
  clear geW lt_2 lt_3 lt_4 lt_6
  obtain ⟨WL2, hWL2⟩ : ∃ Z, ((w12.alloc (.cells #[.string (numS zz), .string (denS zz)] 23)).alloc (.cells #[.string (numS zz), .string (denS zz)] 23)) = Z := ⟨_, rfl⟩
  rw [hWL2] at HE HG H2 H3 H4 H6 H10 H11
  have EWL2 := Lib.hid hWL2
  clear hWL2
  go_wp2_with fail
  rw [EWL2.out]
  go_loopg [7] N (fun gh v7 wx => ∃ k : Nat, v7 = .int .i64 ((k + 1 : Nat) : Int) ∧ k ≤ N ∧ gh = N - k ∧ SumI W b (w6.heap.size) (w6.heap.size + 1) (w12.heap.size) (w12.heap.size + 1) r v (X k) (Y k) wx)
  case atStart => exact ⟨0, rfl, Nat.zero_le _, rfl, ⟨H2.out, H3.out, H4.out, H6.out, by rw [HX0.out]; exact H10.out, by rw [HY0.out]; exact H11.out, HG.out⟩⟩
  case round =>
    clear H2 H3 H4 H6 H10 H11 HG HE
    obtain ⟨k, rfl, hk, rfl, hI⟩ := hrel
    have H2 := Lib.hid hI.h2
    have H3 := Lib.hid hI.h3
    have H4 := Lib.hid hI.h4
    have H6 := Lib.hid hI.h6
    have H10 := Lib.hid hI.h10
    have H11 := Lib.hid hI.h11
    have HG := Lib.hid hI.g
    have HE := Lib.hid (HE0.out.kept hI.g HP.out)
    clear hI
    obtain ⟨x, hx⟩ : ∃ x, X k = x := ⟨_, rfl⟩
    obtain ⟨y, hy⟩ : ∃ y, Y k = y := ⟨_, rfl⟩
    rw [hx] at H10
    rw [hy] at H11
    by_cases hlt : k < N
    · have hd : decide (((k + 1 : Nat) : Int) ≤ (N : Int)) = true := decide_eq_true (by omega)
      have hw : IntKind.i64.wrap (((k + 1 : Nat) : Int) + 1) = ((k + 1 : Nat) : Int) + 1 := IntWalk.i64_in _ (by have := HN1.out; omega)
      have QP := Lib.hid (HPT.out k hlt)
      have QX := Lib.hid (HXT.out k hlt)
      have QY := Lib.hid (HYT.out k hlt)
      obtain ⟨ii, hii⟩ : ∃ x, II (k + 1) = x := ⟨_, rfl⟩
      obtain ⟨qq, hqq⟩ : ∃ x, QQ (k + 1) = x := ⟨_, rfl⟩
      obtain ⟨x2, hx2⟩ : ∃ x, X (k + 1) = x := ⟨_, rfl⟩
      obtain ⟨y2, hy2⟩ : ∃ x, Y (k + 1) = x := ⟨_, rfl⟩
      rw [hii, hqq] at QP
      rw [hx, hii, hx2] at QX
      rw [hy, hqq, hy2] at QY
      have HX2 := Lib.hid hx2
      have HY2 := Lib.hid hy2
      rw [fracV_is x, fracV_is ii, fracV_is x2] at QX
      rw [fracV_is y, fracV_is qq, fracV_is y2] at QY
      unfold Fun6 at QP
      unfold Fun2 at QX QY
      obtain ⟨kk, hkk⟩ : ∃ z : Int, ((k + 1 : Nat) : Int) = z := ⟨_, rfl⟩
      rw [hkk] at QP hd hw
      have HKK := Lib.hid hkk
      clear hii hqq hx2 hy2 hx hy hkk
      rw [HKK.out]
      have lt_2 := Lib.hid (heap_lt H2.out)
      have lt_3 := Lib.hid (heap_lt H3.out)
      have lt_4 := Lib.hid (heap_lt H4.out)
      have lt_6 := Lib.hid (heap_lt H6.out)
      have lt_10 := Lib.hid (heap_lt H10.out)
      have lt_11 := Lib.hid (heap_lt H11.out)
      have geW := Lib.hid HG.out.size
      go_wp2_with fail
      have hok : okB 14 (fy_sumsKs9 r v zz x y ii qq x2 y2 N kk W w12 w6) = true := by kernel_rfl
      have hna := noAny_of (ks := (fy_sumsKs9 r v zz x y ii qq x2 y2 N kk W w12 w6)) (by kernel_rfl)
      have hla := lasts_of hna
      refine wp_region_facts (row := none) (w := wr) 14 (fy_sumsKs9 r v zz x y ii qq x2 y2 N kk W w12 w6) [some 45, some 46, some 47, some 48, some 49, some 50, some 51, some 44, some 52, some 53, some 12, some 13, none, none] (by kernel_rfl) (by kernel_rfl) rfl [u45, u46, u47, u48, u49, u50, u51, u44, u52, u53, u12, u13, undef, undef] ?h00 (Fs.start rfl rfl) ?hs ?hd
      case h00 => simp only [putO, layL]
      case hs =>
        rintro listed vs Wr hF i hi hun hpre
        obtain ⟨s0, s1, s2, s3, s4, s5, s6, s7, s8, s9, s10, s11, s12, s13, hvs⟩ := exl_of 14 vs (fun l => vs = l) hF.len rfl
        subst hvs
        have hge := Nat.zero_le i
        simp only [putO, layL]
        rcases Nat.lt_or_ge i 7 with hlt | hgt
        · replace hi := hlt
          clear hlt
          rcases Nat.lt_or_ge i 3 with hlt | hgt
          · replace hi := hlt
            clear hlt
            rcases Nat.lt_or_ge i 1 with hlt | hgt
            · replace hi := hlt
              clear hlt
              obtain rfl := eqi hi hge
              have hcc := (two_at (keep_block H4.out (below_none hF.low))).1
              have cH40 := hcc.1
              have cH41 := hcc.2
              clear hcc
              refine step_of ⟨some 45, _, _, _, _, _⟩ rfl (fun K' hK => ?_)
              go_simp
              refine hK.out _ _ ⟨_, hF.pure hok hla hpre rfl (Below.refl _ _), ?fr⟩
              case fr => simp only [putO, layL]
            · replace hge : 1 ≤ i := hgt
              clear hgt
              rcases Nat.lt_or_ge i 2 with hlt | hgt
              · replace hi := hlt
                clear hlt
                obtain rfl := eqi hi hge
                refine step_of ⟨some 46, _, _, _, _, _⟩ rfl (fun K' hK => ?_)
                go_simp
                refine hK.out _ _ ⟨_, hF.pure hok hla hpre rfl (Below.refl _ _), ?fr⟩
                case fr => simp only [putO, layL]
              · replace hge : 2 ≤ i := hgt
                clear hgt
                obtain rfl := eqi hi hge
                refine step_of ⟨some 47, _, _, _, _, _⟩ rfl (fun K' hK => ?_)
                go_simp
                refine hK.out _ _ ⟨_, hF.pure hok hla hpre rfl (Below.refl _ _), ?fr⟩
                case fr => simp only [putO, layL]
          · replace hge : 3 ≤ i := hgt
            clear hgt
            rcases Nat.lt_or_ge i 5 with hlt | hgt
            · replace hi := hlt
              clear hlt
              rcases Nat.lt_or_ge i 4 with hlt | hgt
              · replace hi := hlt
                clear hlt
                obtain rfl := eqi hi hge
                have hcc := (two_at (keep_block H6.out (below_none hF.low))).1
                have cH60 := hcc.1
                have cH61 := hcc.2
                clear hcc
                refine step_of ⟨some 48, _, _, _, _, _⟩ rfl (fun K' hK => ?_)
                go_simp
                refine hK.out _ _ ⟨_, hF.pure hok hla hpre rfl (Below.refl _ _), ?fr⟩
                case fr => simp only [putO, layL]
              · replace hge : 4 ≤ i := hgt
                clear hgt
                obtain rfl := eqi hi hge
                refine step_of ⟨some 49, _, _, _, _, _⟩ rfl (fun K' hK => ?_)
                go_simp
                go_at_call 49
                (with_reducible refine (Qc0.out _ (HE.out.below (below_none hF.low))).mono ?_)
                rintro e Wq ⟨rfl, hq⟩
                refine hK.out _ _ ⟨_, hF.pure hok hla hpre rfl hq, ?fr⟩
                case fr => simp only [putO, layL]
            · replace hge : 5 ≤ i := hgt
              clear hgt
              rcases Nat.lt_or_ge i 6 with hlt | hgt
              · replace hi := hlt
                clear hlt
                obtain rfl := eqi hi hge
                refine step_of ⟨some 50, _, _, _, _, _⟩ rfl (fun K' hK => ?_)
                go_simp
                refine hK.out _ _ ⟨_, hF.pure hok hla hpre rfl (Below.refl _ _), ?fr⟩
                case fr => simp only [putO, layL]
              · replace hge : 6 ≤ i := hgt
                clear hgt
                obtain rfl := eqi hi hge
                have p0 := hpre 0 (by kernel_rfl)
                have e0 : s0 = .agg #[.string (numS r), .string (denS r)] := hF.get 0 _ rfl (.inr p0)
                subst e0
                have p1 := hpre 1 (by kernel_rfl)
                have e1 : s1 = .int .i64 kk := hF.get 1 _ rfl (.inr p1)
                subst e1
                have p2 := hpre 2 (by kernel_rfl)
                have e2 : s2 = .int .i64 (N : Int) := hF.get 2 _ rfl (.inr p2)
                subst e2
                have p3 := hpre 3 (by kernel_rfl)
                have e3 : s3 = .agg #[.string (numS v), .string (denS v)] := hF.get 3 _ rfl (.inr p3)
                subst e3
                have p4 := hpre 4 (by kernel_rfl)
                have e4 : s4 = .agg #[.string (numS zz), .string (denS zz)] := hF.get 4 _ rfl (.inr p4)
                subst e4
                have p5 := hpre 5 (by kernel_rfl)
                have e5 : s5 = .int .i64 0 := hF.get 5 _ rfl (.inr p5)
                subst e5
                refine step_of ⟨some 51, _, _, _, _, _⟩ rfl (fun K' hK => ?_)
                go_simp
                go_at_call 213
                (with_reducible refine (QP.out _ (HE.out.below (below_none hF.low))).mono ?_)
                rintro e Wq ⟨rfl, hq⟩
                refine hK.out _ _ ⟨_, hF.pure hok hla hpre rfl hq, ?fr⟩
                case fr => simp only [putO, layL]
        · replace hge : 7 ≤ i := hgt
          clear hgt
          rcases Nat.lt_or_ge i 10 with hlt | hgt
          · replace hi := hlt
            clear hlt
            rcases Nat.lt_or_ge i 8 with hlt | hgt
            · replace hi := hlt
              clear hlt
              obtain rfl := eqi hi hge
              have p6 := hpre 6 (by kernel_rfl)
              have e6 : s6 = .tuple #[.agg #[.string (numS ii), .string (denS ii)], .agg #[.string (numS qq), .string (denS qq)]] := hF.get 6 _ rfl (.inr p6)
              subst e6
              refine step_of ⟨some 44, _, _, _, _, _⟩ rfl (fun K' hK => ?_)
              go_simp
              refine hK.out _ _ ⟨_, hF.pure hok hla hpre rfl (Below.refl _ _), ?fr⟩
              case fr => simp only [putO, layL]
            · replace hge : 8 ≤ i := hgt
              clear hgt
              rcases Nat.lt_or_ge i 9 with hlt | hgt
              · replace hi := hlt
                clear hlt
                obtain rfl := eqi hi hge
                have p7 := hpre 7 (by kernel_rfl)
                have e7 : s7 = .tuple #[.agg #[.string (numS ii), .string (denS ii)], .agg #[.string (numS qq), .string (denS qq)]] := hF.get 7 _ rfl (.inr p7)
                subst e7
                refine step_of ⟨some 52, _, _, _, _, _⟩ rfl (fun K' hK => ?_)
                go_simp
                refine hK.out _ _ ⟨_, hF.pure hok hla hpre rfl (Below.refl _ _), ?fr⟩
                case fr => simp only [putO, layL]
              · replace hge : 9 ≤ i := hgt
                clear hgt
                obtain rfl := eqi hi hge
                have p7 := hpre 7 (by kernel_rfl)
                have e7 : s7 = .tuple #[.agg #[.string (numS ii), .string (denS ii)], .agg #[.string (numS qq), .string (denS qq)]] := hF.get 7 _ rfl (.inr p7)
                subst e7
                refine step_of ⟨some 53, _, _, _, _, _⟩ rfl (fun K' hK => ?_)
                go_simp
                refine hK.out _ _ ⟨_, hF.pure hok hla hpre rfl (Below.refl _ _), ?fr⟩
                case fr => simp only [putO, layL]
          · replace hge : 10 ≤ i := hgt
            clear hgt
            rcases Nat.lt_or_ge i 12 with hlt | hgt
            · replace hi := hlt
              clear hlt
              rcases Nat.lt_or_ge i 11 with hlt | hgt
              · replace hi := hlt
                clear hlt
                obtain rfl := eqi hi hge
                refine step_of ⟨some 12, _, _, _, _, _⟩ rfl (fun K' hK => ?_)
                go_simp
                refine hK.out _ _ ⟨_, hF.box hok hla hpre hun rfl, ?fr⟩
                case fr => simp only [putO, layL]
              · replace hge : 11 ≤ i := hgt
                clear hgt
                obtain rfl := eqi hi hge
                refine step_of ⟨some 13, _, _, _, _, _⟩ rfl (fun K' hK => ?_)
                go_simp
                refine hK.out _ _ ⟨_, hF.box hok hla hpre hun rfl, ?fr⟩
                case fr => simp only [putO, layL]
            · replace hge : 12 ≤ i := hgt
              clear hgt
              rcases Nat.lt_or_ge i 13 with hlt | hgt
              · replace hi := hlt
                clear hlt
                obtain rfl := eqi hi hge
                have p10 := hpre 10 (by kernel_rfl)
                obtain ⟨G, eG, _, hGl, hGB⟩ : ∃ G, s10 = .pointer (some ⟨G, 0, none⟩) ∧ (∀ k, none = some k → G = k) ∧ wr.heap.size ≤ G ∧ Wr.heap[G]? = some (.cells (if listed.getD 12 false = true then #[.string (numS ii), .string (denS ii)] else #[.string { data := #[] }, .string { data := #[] }]) 23 (0, 0)) := hF.get 10 _ rfl (.inr p10)
                subst eG
                rw [if_neg (bit_off hun)] at hGB
                have HGB := Lib.hid hGB
                clear hGB
                have p8 := hpre 8 (by kernel_rfl)
                have e8 : s8 = .agg #[.string (numS ii), .string (denS ii)] := hF.get 8 _ rfl (.inr p8)
                subst e8
                obtain ⟨⟨y0, y1⟩, g0, g1⟩ := two_at HGB.out
                refine step_of ⟨none, _, _, _, _, _⟩ rfl (fun K' hK => ?_)
                go_simp
                refine hK.out _ _ ⟨undef, hF.put hok hna hpre hun rfl undef rfl (.inr p10) rfl (set2_at HGB.out (.string (numS ii)) (.string (denS ii))) (fun k hk => set2_other _ _ (.string (numS ii)) (.string (denS ii)) hk) (put2_below hGl _ (.string (numS ii)) (.string (denS ii))), ?fr⟩
                case fr => simp only [putO, layL]
              · replace hge : 13 ≤ i := hgt
                clear hgt
                obtain rfl := eqi hi hge
                have p11 := hpre 11 (by kernel_rfl)
                obtain ⟨G, eG, _, hGl, hGB⟩ : ∃ G, s11 = .pointer (some ⟨G, 0, none⟩) ∧ (∀ k, none = some k → G = k) ∧ wr.heap.size ≤ G ∧ Wr.heap[G]? = some (.cells (if listed.getD 13 false = true then #[.string (numS qq), .string (denS qq)] else #[.string { data := #[] }, .string { data := #[] }]) 23 (0, 0)) := hF.get 11 _ rfl (.inr p11)
                subst eG
                rw [if_neg (bit_off hun)] at hGB
                have HGB := Lib.hid hGB
                clear hGB
                have p9 := hpre 9 (by kernel_rfl)
                have e9 : s9 = .agg #[.string (numS qq), .string (denS qq)] := hF.get 9 _ rfl (.inr p9)
                subst e9
                obtain ⟨⟨y0, y1⟩, g0, g1⟩ := two_at HGB.out
                refine step_of ⟨none, _, _, _, _, _⟩ rfl (fun K' hK => ?_)
                go_simp
                refine hK.out _ _ ⟨undef, hF.put hok hna hpre hun rfl undef rfl (.inr p11) rfl (set2_at HGB.out (.string (numS qq)) (.string (denS qq))) (fun k hk => set2_other _ _ (.string (numS qq)) (.string (denS qq)) hk) (put2_below hGl _ (.string (numS qq)) (.string (denS qq))), ?fr⟩
                case fr => simp only [putO, layL]
      case hd =>
        rintro listed vs WA hF hall
        obtain ⟨s0, s1, s2, s3, s4, s5, s6, s7, s8, s9, s10, s11, s12, s13, hvs⟩ := exl_of 14 vs (fun l => vs = l) hF.len rfl
        subst hvs
        obtain ⟨b12, e10, _, gq, k10⟩ : ∃ G, s10 = .pointer (some ⟨G, 0, none⟩) ∧ (∀ k, none = some k → G = k) ∧ _ ≤ G ∧ WA.heap[G]? = some (.cells (if listed.getD 12 false = true then #[.string (numS ii), .string (denS ii)] else #[.string { data := #[] }, .string { data := #[] }]) 23 (0, 0)) := hF.get 10 _ rfl (.inr (hall 10 (by decide)))
        subst e10
        rw [if_pos (hall 12 (by decide))] at k10
        have H12 := Lib.hid k10
        clear k10
        have ge12 := Lib.hid gq
        clear gq
        obtain ⟨b13, e11, _, gq, k11⟩ : ∃ G, s11 = .pointer (some ⟨G, 0, none⟩) ∧ (∀ k, none = some k → G = k) ∧ _ ≤ G ∧ WA.heap[G]? = some (.cells (if listed.getD 13 false = true then #[.string (numS qq), .string (denS qq)] else #[.string { data := #[] }, .string { data := #[] }]) 23 (0, 0)) := hF.get 11 _ rfl (.inr (hall 11 (by decide)))
        subst e11
        rw [if_pos (hall 13 (by decide))] at k11
        have H13 := Lib.hid k11
        clear k11
        have ge13 := Lib.hid gq
        clear gq
        have nq := hF.ne 10 11 _ _ (by decide) rfl rfl rfl rfl (.inr (hall 10 (by decide))) (.inr (hall 11 (by decide)))
        have L13_12 : Hid (b12 ≠ b13) := Lib.hid (fun h => nq (congrArg some h))
        clear nq
        have hq := below_none hF.low
        replace H2 := Lib.hid (keep_block H2.out hq)
        replace H3 := Lib.hid (keep_block H3.out hq)
        replace H4 := Lib.hid (keep_block H4.out hq)
        replace H6 := Lib.hid (keep_block H6.out hq)
        replace H10 := Lib.hid (keep_block H10.out hq)
        replace H11 := Lib.hid (keep_block H11.out hq)
        replace HE := Lib.hid (HE.out.below hq)
        replace HG := Lib.hid (kept_trans HG.out (kept_below hq))
        clear hq
        clear hF hall hok hna hla
        simp only [putO, layL]
        have L12_2 : Hid (W.heap.size < b12) := Lib.hid (by have := lt_2.out; have := ge12.out; omega)
        have L12_3 : Hid (W.heap.size + 1 < b12) := Lib.hid (by have := lt_3.out; have := ge12.out; omega)
        have L12_4 : Hid (w6.heap.size < b12) := Lib.hid (by have := lt_4.out; have := ge12.out; omega)
        have L12_6 : Hid (w6.heap.size + 1 < b12) := Lib.hid (by have := lt_6.out; have := ge12.out; omega)
        have L12_10 : Hid (w12.heap.size < b12) := Lib.hid (by have := lt_10.out; have := ge12.out; omega)
        have L12_11 : Hid (w12.heap.size + 1 < b12) := Lib.hid (by have := lt_11.out; have := ge12.out; omega)
        have G12 : Hid (W.heap.size ≤ b12) := Lib.hid (by have := geW.out; have := ge12.out; omega)
        have L13_2 : Hid (W.heap.size < b13) := Lib.hid (by have := lt_2.out; have := ge13.out; omega)
        have L13_3 : Hid (W.heap.size + 1 < b13) := Lib.hid (by have := lt_3.out; have := ge13.out; omega)
        have L13_4 : Hid (w6.heap.size < b13) := Lib.hid (by have := lt_4.out; have := ge13.out; omega)
        have L13_6 : Hid (w6.heap.size + 1 < b13) := Lib.hid (by have := lt_6.out; have := ge13.out; omega)
        have L13_10 : Hid (w12.heap.size < b13) := Lib.hid (by have := lt_10.out; have := ge13.out; omega)
        have L13_11 : Hid (w12.heap.size + 1 < b13) := Lib.hid (by have := lt_11.out; have := ge13.out; omega)
        have G13 : Hid (W.heap.size ≤ b13) := Lib.hid (by have := geW.out; have := ge13.out; omega)
        clear geW lt_2 lt_3 lt_4 lt_6 lt_10 lt_11
        go_wp2_with fail
        have := L4_2.out
        have := L4_3.out
        have := L6_2.out
        have := L6_3.out
        have := L6_4.out
        have := L10_2.out
        have := L10_3.out
        have := L10_4.out
        have := L10_6.out
        have := L11_2.out
        have := L11_3.out
        have := L11_4.out
        have := L11_6.out
        have := L11_10.out
        have := L12_2.out
        have := L12_3.out
        have := L12_4.out
        have := L12_6.out
        have := L12_10.out
        have := L12_11.out
        have := L13_2.out
        have := L13_3.out
        have := L13_4.out
        have := L13_6.out
        have := L13_10.out
        have := L13_11.out
        have := L13_12.out
        have := HG.out.size
        have := G4.out
        have := G6.out
        have := G10.out
        have := G11.out
        have := G12.out
        have := G13.out
        have hok : okB 8 (fy_sumsKs10 r v zz x y ii qq x2 y2 N kk W w12 w6 b12 b13) = true := by kernel_rfl
        have hna := noAny_of (ks := (fy_sumsKs10 r v zz x y ii qq x2 y2 N kk W w12 w6 b12 b13)) (by kernel_rfl)
        have hla := lasts_of hna
        refine wp_region_facts (row := (some b)) (w := W) 8 (fy_sumsKs10 r v zz x y ii qq x2 y2 N kk W w12 w6 b12 b13) [some 54, some 55, some 56, some 57, some 58, some 59, none, none] (by kernel_rfl) (by kernel_rfl) rfl [u54, u55, u56, u57, u58, u59, undef, undef, .pointer (some ⟨W.heap.size, 0, none⟩), .pointer (some ⟨W.heap.size + 1, 0, none⟩), .pointer (some ⟨w6.heap.size, 0, none⟩), .pointer (some ⟨w6.heap.size + 1, 0, none⟩), .pointer (some ⟨w12.heap.size, 0, none⟩), .pointer (some ⟨w12.heap.size + 1, 0, none⟩), .pointer (some ⟨b12, 0, none⟩), .pointer (some ⟨b13, 0, none⟩)] ?h00 (Fs.start_olds hla rfl HG.out ⟨⟨_, rfl, fun _ h => Option.some.inj h, by omega, H2.out⟩, fun _ => ⟨fun _ => far_of (by omega), fun _ => far_of (by omega), fun _ => far_of (by omega), fun _ => far_of (by omega), fun _ => far_of (by omega), fun _ => far_of (by omega), fun _ => far_of (by omega), trivial⟩, ⟨⟨_, rfl, fun _ h => Option.some.inj h, by omega, H3.out⟩, fun _ => ⟨fun _ => far_of (by omega), fun _ => far_of (by omega), fun _ => far_of (by omega), fun _ => far_of (by omega), fun _ => far_of (by omega), fun _ => far_of (by omega), trivial⟩, ⟨⟨_, rfl, fun _ h => Option.some.inj h, by omega, H4.out⟩, fun _ => ⟨fun _ => far_of (by omega), fun _ => far_of (by omega), fun _ => far_of (by omega), fun _ => far_of (by omega), fun _ => far_of (by omega), trivial⟩, ⟨⟨_, rfl, fun _ h => Option.some.inj h, by omega, H6.out⟩, fun _ => ⟨fun _ => far_of (by omega), fun _ => far_of (by omega), fun _ => far_of (by omega), fun _ => far_of (by omega), trivial⟩, ⟨⟨_, rfl, fun _ h => Option.some.inj h, by omega, H10.out⟩, fun _ => ⟨fun _ => far_of (by omega), fun _ => far_of (by omega), fun _ => far_of (by omega), trivial⟩, ⟨⟨_, rfl, fun _ h => Option.some.inj h, by omega, H11.out⟩, fun _ => ⟨fun _ => far_of (by omega), fun _ => far_of (by omega), trivial⟩, ⟨⟨_, rfl, fun _ h => Option.some.inj h, by omega, H12.out⟩, fun _ => ⟨fun _ => far_of (by omega), trivial⟩, ⟨⟨_, rfl, fun _ h => Option.some.inj h, by omega, H13.out⟩, fun _ => trivial, trivial⟩⟩⟩⟩⟩⟩⟩⟩) ?hs ?hd
        case h00 => simp only [putO, layL]
        case hs =>
          rintro listed vs Wr hF i hi hun hpre
          obtain ⟨s0, s1, s2, s3, s4, s5, s6, s7, o0, o1, o2, o3, o4, o5, o6, o7, hvs⟩ := exl_of 16 vs (fun l => vs = l) hF.len rfl
          subst hvs
          obtain ⟨eG0, gG0, hO0⟩ := old_of hF (i := 8) rfl (.inl (by decide))
          replace eG0 : o0 = _ := eG0
          subst eG0
          obtain ⟨eG1, gG1, hO1⟩ := old_of hF (i := 9) rfl (.inl (by decide))
          replace eG1 : o1 = _ := eG1
          subst eG1
          obtain ⟨eG2, gG2, hO2⟩ := old_of hF (i := 10) rfl (.inl (by decide))
          replace eG2 : o2 = _ := eG2
          subst eG2
          obtain ⟨eG3, gG3, hO3⟩ := old_of hF (i := 11) rfl (.inl (by decide))
          replace eG3 : o3 = _ := eG3
          subst eG3
          obtain ⟨eG4, gG4, hO4⟩ := old_of hF (i := 12) rfl (.inl (by decide))
          replace eG4 : o4 = _ := eG4
          subst eG4
          obtain ⟨eG5, gG5, hO5⟩ := old_of hF (i := 13) rfl (.inl (by decide))
          replace eG5 : o5 = _ := eG5
          subst eG5
          obtain ⟨eG6, gG6, hO6⟩ := old_of hF (i := 14) rfl (.inl (by decide))
          replace eG6 : o6 = _ := eG6
          subst eG6
          obtain ⟨eG7, gG7, hO7⟩ := old_of hF (i := 15) rfl (.inl (by decide))
          replace eG7 : o7 = _ := eG7
          subst eG7
          have hge := Nat.zero_le i
          simp only [putO, layL]
          rcases Nat.lt_or_ge i 4 with hlt | hgt
          · replace hi := hlt
            clear hlt
            rcases Nat.lt_or_ge i 2 with hlt | hgt
            · replace hi := hlt
              clear hlt
              rcases Nat.lt_or_ge i 1 with hlt | hgt
              · replace hi := hlt
                clear hlt
                obtain rfl := eqi hi hge
                rw [if_neg (fun h => bit_off hun (hF.back 6 0 h (by kernel_rfl)))] at hO4
                have hcc := (two_at (hO4)).1
                have cH100 := hcc.1
                have cH101 := hcc.2
                clear hcc
                refine step_of ⟨some 54, _, _, _, _, _⟩ rfl (fun K' hK => ?_)
                go_simp
                refine hK.out _ _ ⟨_, hF.pure hok hla hpre rfl (Below.refl _ _), ?fr⟩
                case fr => simp only [putO, layL]
              · replace hge : 1 ≤ i := hgt
                clear hgt
                obtain rfl := eqi hi hge
                rw [if_neg (hF.unst (by decide))] at hO6
                have hcc := (two_at (hO6)).1
                have cH120 := hcc.1
                have cH121 := hcc.2
                clear hcc
                refine step_of ⟨some 55, _, _, _, _, _⟩ rfl (fun K' hK => ?_)
                go_simp
                refine hK.out _ _ ⟨_, hF.pure hok hla hpre rfl (Below.refl _ _), ?fr⟩
                case fr => simp only [putO, layL]
            · replace hge : 2 ≤ i := hgt
              clear hgt
              rcases Nat.lt_or_ge i 3 with hlt | hgt
              · replace hi := hlt
                clear hlt
                obtain rfl := eqi hi hge
                have p0 := hpre 0 (by kernel_rfl)
                have e0 : s0 = .agg #[.string (numS x), .string (denS x)] := hF.get 0 _ rfl (.inr p0)
                subst e0
                have p1 := hpre 1 (by kernel_rfl)
                have e1 : s1 = .agg #[.string (numS ii), .string (denS ii)] := hF.get 1 _ rfl (.inr p1)
                subst e1
                refine step_of ⟨some 56, _, _, _, _, _⟩ rfl (fun K' hK => ?_)
                go_simp
                go_at_call 92
                (with_reducible refine (QX.out _ (HE0.out.kept hF.low HP.out)).mono ?_)
                rintro e Wq ⟨rfl, hq⟩
                refine hK.out _ _ ⟨_, hF.pure hok hla hpre rfl hq, ?fr⟩
                case fr => simp only [putO, layL]
              · replace hge : 3 ≤ i := hgt
                clear hgt
                obtain rfl := eqi hi hge
                rw [if_neg (fun h => bit_off hun (hF.back 7 3 h (by kernel_rfl)))] at hO5
                have hcc := (two_at (hO5)).1
                have cH110 := hcc.1
                have cH111 := hcc.2
                clear hcc
                refine step_of ⟨some 57, _, _, _, _, _⟩ rfl (fun K' hK => ?_)
                go_simp
                refine hK.out _ _ ⟨_, hF.pure hok hla hpre rfl (Below.refl _ _), ?fr⟩
                case fr => simp only [putO, layL]
          · replace hge : 4 ≤ i := hgt
            clear hgt
            rcases Nat.lt_or_ge i 6 with hlt | hgt
            · replace hi := hlt
              clear hlt
              rcases Nat.lt_or_ge i 5 with hlt | hgt
              · replace hi := hlt
                clear hlt
                obtain rfl := eqi hi hge
                rw [if_neg (hF.unst (by decide))] at hO7
                have hcc := (two_at (hO7)).1
                have cH130 := hcc.1
                have cH131 := hcc.2
                clear hcc
                refine step_of ⟨some 58, _, _, _, _, _⟩ rfl (fun K' hK => ?_)
                go_simp
                refine hK.out _ _ ⟨_, hF.pure hok hla hpre rfl (Below.refl _ _), ?fr⟩
                case fr => simp only [putO, layL]
              · replace hge : 5 ≤ i := hgt
                clear hgt
                obtain rfl := eqi hi hge
                have p3 := hpre 3 (by kernel_rfl)
                have e3 : s3 = .agg #[.string (numS y), .string (denS y)] := hF.get 3 _ rfl (.inr p3)
                subst e3
                have p4 := hpre 4 (by kernel_rfl)
                have e4 : s4 = .agg #[.string (numS qq), .string (denS qq)] := hF.get 4 _ rfl (.inr p4)
                subst e4
                refine step_of ⟨some 59, _, _, _, _, _⟩ rfl (fun K' hK => ?_)
                go_simp
                go_at_call 92
                (with_reducible refine (QY.out _ (HE0.out.kept hF.low HP.out)).mono ?_)
                rintro e Wq ⟨rfl, hq⟩
                refine hK.out _ _ ⟨_, hF.pure hok hla hpre rfl hq, ?fr⟩
                case fr => simp only [putO, layL]
            · replace hge : 6 ≤ i := hgt
              clear hgt
              rcases Nat.lt_or_ge i 7 with hlt | hgt
              · replace hi := hlt
                clear hlt
                obtain rfl := eqi hi hge
                have p2 := hpre 2 (by kernel_rfl)
                have e2 : s2 = .agg #[.string (numS x2), .string (denS x2)] := hF.get 2 _ rfl (.inr p2)
                subst e2
                rw [if_neg (bit_off hun)] at hO4
                have HGB := Lib.hid hO4
                obtain ⟨⟨y0, y1⟩, g0, g1⟩ := two_at HGB.out
                refine step_of ⟨none, _, _, _, _, _⟩ rfl (fun K' hK => ?_)
                go_simp
                refine hK.out _ _ ⟨undef, hF.put hok hna hpre hun rfl undef rfl (.inl (by decide)) rfl (set2_at HGB.out (.string (numS x2)) (.string (denS x2))) (fun k hk => set2_other _ _ (.string (numS x2)) (.string (denS x2)) hk) (put2_below gG4 _ (.string (numS x2)) (.string (denS x2))), ?fr⟩
                case fr => simp only [putO, layL]
              · replace hge : 7 ≤ i := hgt
                clear hgt
                obtain rfl := eqi hi hge
                have p5 := hpre 5 (by kernel_rfl)
                have e5 : s5 = .agg #[.string (numS y2), .string (denS y2)] := hF.get 5 _ rfl (.inr p5)
                subst e5
                rw [if_neg (bit_off hun)] at hO5
                have HGB := Lib.hid hO5
                obtain ⟨⟨y0, y1⟩, g0, g1⟩ := two_at HGB.out
                refine step_of ⟨none, _, _, _, _, _⟩ rfl (fun K' hK => ?_)
                go_simp
                refine hK.out _ _ ⟨undef, hF.put hok hna hpre hun rfl undef rfl (.inl (by decide)) rfl (set2_at HGB.out (.string (numS y2)) (.string (denS y2))) (fun k hk => set2_other _ _ (.string (numS y2)) (.string (denS y2)) hk) (put2_below gG5 _ (.string (numS y2)) (.string (denS y2))), ?fr⟩
                case fr => simp only [putO, layL]
        case hd =>
          rintro listed vs WB hF hall
          obtain ⟨s0, s1, s2, s3, s4, s5, s6, s7, o0, o1, o2, o3, o4, o5, o6, o7, hvs⟩ := exl_of 16 vs (fun l => vs = l) hF.len rfl
          subst hvs
          obtain ⟨eG0, gG0, hO0⟩ := old_of hF (i := 8) rfl (.inl (by decide))
          replace eG0 : o0 = _ := eG0
          subst eG0
          obtain ⟨eG1, gG1, hO1⟩ := old_of hF (i := 9) rfl (.inl (by decide))
          replace eG1 : o1 = _ := eG1
          subst eG1
          obtain ⟨eG2, gG2, hO2⟩ := old_of hF (i := 10) rfl (.inl (by decide))
          replace eG2 : o2 = _ := eG2
          subst eG2
          obtain ⟨eG3, gG3, hO3⟩ := old_of hF (i := 11) rfl (.inl (by decide))
          replace eG3 : o3 = _ := eG3
          subst eG3
          obtain ⟨eG4, gG4, hO4⟩ := old_of hF (i := 12) rfl (.inl (by decide))
          replace eG4 : o4 = _ := eG4
          subst eG4
          obtain ⟨eG5, gG5, hO5⟩ := old_of hF (i := 13) rfl (.inl (by decide))
          replace eG5 : o5 = _ := eG5
          subst eG5
          obtain ⟨eG6, gG6, hO6⟩ := old_of hF (i := 14) rfl (.inl (by decide))
          replace eG6 : o6 = _ := eG6
          subst eG6
          obtain ⟨eG7, gG7, hO7⟩ := old_of hF (i := 15) rfl (.inl (by decide))
          replace eG7 : o7 = _ := eG7
          subst eG7
          rw [if_neg (hF.unst (by decide))] at hO0
          replace H2 := Lib.hid hO0
          clear hO0
          rw [if_neg (hF.unst (by decide))] at hO1
          replace H3 := Lib.hid hO1
          clear hO1
          rw [if_neg (hF.unst (by decide))] at hO2
          replace H4 := Lib.hid hO2
          clear hO2
          rw [if_neg (hF.unst (by decide))] at hO3
          replace H6 := Lib.hid hO3
          clear hO3
          rw [if_pos (hall 6 (by decide))] at hO4
          replace H10 := Lib.hid hO4
          clear hO4
          rw [if_pos (hall 7 (by decide))] at hO5
          replace H11 := Lib.hid hO5
          clear hO5
          rw [if_neg (hF.unst (by decide))] at hO6
          replace H12 := Lib.hid hO6
          clear hO6
          rw [if_neg (hF.unst (by decide))] at hO7
          replace H13 := Lib.hid hO7
          clear hO7
          have HQ := Lib.hid hF.low
          clear hF hall hok hna hla
          simp only [putO, layL]
          replace HG := HQ
          clear HQ
          replace HE := Lib.hid (HE0.out.kept HG.out HP.out)
          have HI := Lib.hid (show SumI W b (w6.heap.size) (w6.heap.size + 1) (w12.heap.size) (w12.heap.size + 1) r v x2 y2 WB from ⟨H2.out, H3.out, H4.out, H6.out, H10.out, H11.out, HG.out⟩)
          go_wp2
          go_roundg (N - (k + 1))
          case measure => omega
          case rel => exact ⟨k + 1, by rw [← HKK.out]; rfl, by omega, rfl, by rw [HX2.out, HY2.out]; exact HI.out⟩
    · have hd : decide (((k + 1 : Nat) : Int) ≤ (N : Int)) = false := decide_eq_false (by omega)
      have hkN : k = N := by omega
      subst hkN
      have HXK := Lib.hid hx
      have HYK := Lib.hid hy
      obtain ⟨kk, hkk⟩ : ∃ z : Int, ((k + 1 : Nat) : Int) = z := ⟨_, rfl⟩
      rw [hkk] at hd
      have HKK := Lib.hid hkk
      clear hkk
      rw [HKK.out]
      clear hx hy hlt
      go_wp2_with fail
      have := L10_2.out
      have := L10_3.out
      have := L11_2.out
      have := L11_3.out
      have := L11_10.out
      have := HG.out.size
      have := G10.out
      have := G11.out
      have hok : okB 4 (fy_sumsKs11 x y W w12 w6) = true := by kernel_rfl
      have hna := noAny_of (ks := (fy_sumsKs11 x y W w12 w6)) (by kernel_rfl)
      have hla := lasts_of hna
      refine wp_region_facts (row := (some b)) (w := W) 4 (fy_sumsKs11 x y W w12 w6) [some 60, some 61, none, none] (by kernel_rfl) (by kernel_rfl) rfl [undef, undef, undef, undef, .pointer (some ⟨W.heap.size, 0, none⟩), .pointer (some ⟨W.heap.size + 1, 0, none⟩), .pointer (some ⟨w12.heap.size, 0, none⟩), .pointer (some ⟨w12.heap.size + 1, 0, none⟩)] ?h00 (Fs.start_olds hla rfl HG.out ⟨⟨_, rfl, fun _ h => Option.some.inj h, by omega, H2.out⟩, fun _ => ⟨fun _ => far_of (by omega), fun _ => far_of (by omega), fun _ => far_of (by omega), trivial⟩, ⟨⟨_, rfl, fun _ h => Option.some.inj h, by omega, H3.out⟩, fun _ => ⟨fun _ => far_of (by omega), fun _ => far_of (by omega), trivial⟩, ⟨⟨_, rfl, fun _ h => Option.some.inj h, by omega, H10.out⟩, fun _ => ⟨fun _ => far_of (by omega), trivial⟩, ⟨⟨_, rfl, fun _ h => Option.some.inj h, by omega, H11.out⟩, fun _ => trivial, trivial⟩⟩⟩⟩) ?hs ?hd
      case h00 => simp only [putO, layL]
      case hs =>
        rintro listed vs Wr hF i hi hun hpre
        obtain ⟨s0, s1, s2, s3, o0, o1, o2, o3, hvs⟩ := exl_of 8 vs (fun l => vs = l) hF.len rfl
        subst hvs
        obtain ⟨eG0, gG0, hO0⟩ := old_of hF (i := 4) rfl (.inl (by decide))
        replace eG0 : o0 = _ := eG0
        subst eG0
        obtain ⟨eG1, gG1, hO1⟩ := old_of hF (i := 5) rfl (.inl (by decide))
        replace eG1 : o1 = _ := eG1
        subst eG1
        obtain ⟨eG2, gG2, hO2⟩ := old_of hF (i := 6) rfl (.inl (by decide))
        replace eG2 : o2 = _ := eG2
        subst eG2
        obtain ⟨eG3, gG3, hO3⟩ := old_of hF (i := 7) rfl (.inl (by decide))
        replace eG3 : o3 = _ := eG3
        subst eG3
        have hge := Nat.zero_le i
        simp only [putO, layL]
        rcases Nat.lt_or_ge i 2 with hlt | hgt
        · replace hi := hlt
          clear hlt
          rcases Nat.lt_or_ge i 1 with hlt | hgt
          · replace hi := hlt
            clear hlt
            obtain rfl := eqi hi hge
            rw [if_neg (hF.unst (by decide))] at hO2
            have hcc := (two_at (hO2)).1
            have cH100 := hcc.1
            have cH101 := hcc.2
            clear hcc
            refine step_of ⟨some 60, _, _, _, _, _⟩ rfl (fun K' hK => ?_)
            go_simp
            refine hK.out _ _ ⟨_, hF.pure hok hla hpre rfl (Below.refl _ _), ?fr⟩
            case fr => simp only [putO, layL]
          · replace hge : 1 ≤ i := hgt
            clear hgt
            obtain rfl := eqi hi hge
            rw [if_neg (hF.unst (by decide))] at hO3
            have hcc := (two_at (hO3)).1
            have cH110 := hcc.1
            have cH111 := hcc.2
            clear hcc
            refine step_of ⟨some 61, _, _, _, _, _⟩ rfl (fun K' hK => ?_)
            go_simp
            refine hK.out _ _ ⟨_, hF.pure hok hla hpre rfl (Below.refl _ _), ?fr⟩
            case fr => simp only [putO, layL]
        · replace hge : 2 ≤ i := hgt
          clear hgt
          rcases Nat.lt_or_ge i 3 with hlt | hgt
          · replace hi := hlt
            clear hlt
            obtain rfl := eqi hi hge
            have p0 := hpre 0 (by kernel_rfl)
            have e0 : s0 = .agg #[.string (numS x), .string (denS x)] := hF.get 0 _ rfl (.inr p0)
            subst e0
            rw [if_neg (bit_off hun)] at hO0
            have HGB := Lib.hid hO0
            obtain ⟨⟨y0, y1⟩, g0, g1⟩ := two_at HGB.out
            refine step_of ⟨none, _, _, _, _, _⟩ rfl (fun K' hK => ?_)
            go_simp
            refine hK.out _ _ ⟨undef, hF.put hok hna hpre hun rfl undef rfl (.inl (by decide)) rfl (set2_at HGB.out (.string (numS x)) (.string (denS x))) (fun k hk => set2_other _ _ (.string (numS x)) (.string (denS x)) hk) (put2_below gG0 _ (.string (numS x)) (.string (denS x))), ?fr⟩
            case fr => simp only [putO, layL]
          · replace hge : 3 ≤ i := hgt
            clear hgt
            obtain rfl := eqi hi hge
            have p1 := hpre 1 (by kernel_rfl)
            have e1 : s1 = .agg #[.string (numS y), .string (denS y)] := hF.get 1 _ rfl (.inr p1)
            subst e1
            rw [if_neg (bit_off hun)] at hO1
            have HGB := Lib.hid hO1
            obtain ⟨⟨y0, y1⟩, g0, g1⟩ := two_at HGB.out
            refine step_of ⟨none, _, _, _, _, _⟩ rfl (fun K' hK => ?_)
            go_simp
            refine hK.out _ _ ⟨undef, hF.put hok hna hpre hun rfl undef rfl (.inl (by decide)) rfl (set2_at HGB.out (.string (numS y)) (.string (denS y))) (fun k hk => set2_other _ _ (.string (numS y)) (.string (denS y)) hk) (put2_below gG1 _ (.string (numS y)) (.string (denS y))), ?fr⟩
            case fr => simp only [putO, layL]
      case hd =>
        rintro listed vs WC hF hall
        obtain ⟨s0, s1, s2, s3, o0, o1, o2, o3, hvs⟩ := exl_of 8 vs (fun l => vs = l) hF.len rfl
        subst hvs
        obtain ⟨eG0, gG0, hO0⟩ := old_of hF (i := 4) rfl (.inl (by decide))
        replace eG0 : o0 = _ := eG0
        subst eG0
        obtain ⟨eG1, gG1, hO1⟩ := old_of hF (i := 5) rfl (.inl (by decide))
        replace eG1 : o1 = _ := eG1
        subst eG1
        obtain ⟨eG2, gG2, hO2⟩ := old_of hF (i := 6) rfl (.inl (by decide))
        replace eG2 : o2 = _ := eG2
        subst eG2
        obtain ⟨eG3, gG3, hO3⟩ := old_of hF (i := 7) rfl (.inl (by decide))
        replace eG3 : o3 = _ := eG3
        subst eG3
        rw [if_pos (hall 2 (by decide))] at hO0
        replace H2 := Lib.hid hO0
        clear hO0
        rw [if_pos (hall 3 (by decide))] at hO1
        replace H3 := Lib.hid hO1
        clear hO1
        rw [if_neg (hF.unst (by decide))] at hO2
        replace H10 := Lib.hid hO2
        clear hO2
        rw [if_neg (hF.unst (by decide))] at hO3
        replace H11 := Lib.hid hO3
        clear hO3
        have HQ := Lib.hid hF.low
        clear hF hall hok hna hla
        simp only [putO, layL]
        replace HG := HQ
        clear HQ
        replace HE := Lib.hid (HE0.out.kept HG.out HP.out)
        clear H4 H6
        obtain ⟨⟨x2_0, x2_1⟩, x2_f0, x2_f1⟩ := two_at H2.out
        obtain ⟨⟨x3_0, x3_1⟩, x3_f0, x3_f1⟩ := two_at H3.out
        go_wp2
        refine bodyPost_ret (v := .tuple #[.agg #[.string (numS x), .string (denS x)], .agg #[.string (numS y), .string (denS y)]]) (by simp [results, Tryz.results100, go_sem, x2_0, x2_1, x3_0, x3_1]) rfl ⟨by rw [HXK.out, HYK.out], HG.out⟩

set_option linter.unusedSimpArgs false in
set_option linter.unusedVariables false in
set_option maxHeartbeats 4000000 in
set_option maxRecDepth 100000 in
theorem fy_CUMPRINC (r qn v qk qm qe zz : Rat) (X Y II QQ : Nat → Rat) (N : Nat) (b g C : Nat) (W : World) (hq0 : fits r = true)
    (hq1 : fits qn = true)
    (hw1 : qn.floor = (N : Int))
    (hq2 : fits v = true)
    (hq3 : fits qk = true)
    (hw3 : qk.floor = 1)
    (hq4 : fits qm = true)
    (hw4 : qm.floor = (N : Int))
    (hq5 : fits qe = true)
    (hw5 : qe.floor = 0)
    (hN0 : 1 ≤ N)
    (hN1 : N ≤ 1000)
    (c0 : Fun1 49 (.int .i64 0) (.agg #[.string (numS zz), .string (denS zz)]))
    (hX0 : X 0 = zz)
    (hY0 : Y 0 = zz)
    (hp : ∀ k : Nat, k < N → Fun6 213 (.agg #[.string (numS r), .string (denS r)]) (.int .i64 ((k + 1 : Nat) : Int)) (.int .i64 (N : Int)) (.agg #[.string (numS v), .string (denS v)]) (.agg #[.string (numS zz), .string (denS zz)]) (.int .i64 0) (.tuple #[.agg #[.string (numS (II (k + 1))), .string (denS (II (k + 1)))], .agg #[.string (numS (QQ (k + 1))), .string (denS (QQ (k + 1)))]]))
    (hx : ∀ k : Nat, k < N → Fun2 92 (fracV (X k)) (fracV (II (k + 1))) (fracV (X (k + 1))))
    (hy : ∀ k : Nat, k < N → Fun2 92 (fracV (Y k)) (fracV (QQ (k + 1))) (fracV (Y (k + 1)))) (ha : ArgsAt W b (some ⟨g, 0, none⟩) 6 C 0) (hne : g ≠ b) (hc0 : NumCells W g (0 + 0 * 9) r) (hc1 : NumCells W g (0 + 1 * 9) qn) (hc2 : NumCells W g (0 + 2 * 9) v) (hc3 : NumCells W g (0 + 3 * 9) qk) (hc4 : NumCells W g (0 + 4 * 9) qm) (hc5 : NumCells W g (0 + 5 * 9) qe) (hE : EnvY W) (hP : Past b) :
    Calls Tryz.prog 101 #[.pointer (some ⟨b, 0, none⟩)] W fun e w' => e = .returned (.agg #[.string (numS (Y N)), .string (denS (Y N))]) ∧ W.grownBy w' (some b) := by
  have TP := Lib.hid (fun W' ga h0 h1 h2 h3 h4 h5 ge => fy_sums r qn v qk qm qe zz X Y II QQ N b g C W' hq0 hq1 hw1 hq2 hq3 hw3 hq4 hw4 hq5 hw5 hN0 hN1 c0 hX0 hY0 hp hx hy ga hne h0 h1 h2 h3 h4 h5 ge hP)
  obtain ⟨x, hxn⟩ : ∃ x, X N = x := ⟨_, rfl⟩
  obtain ⟨y, hyn⟩ : ∃ x, Y N = x := ⟨_, rfl⟩
  rw [hxn, hyn] at TP
  rw [hyn]
  have HP := Lib.hid hP
  have HE0 := Lib.hid hE
  have NG := Lib.hid hne
  have HBW := Lib.hid (heap_lt ha)
  have hb : Below W.heap.size W (W.alloc (.cells #[.string { data := #[] }, .string { data := #[] }] 23)) := ((Below.refl _ _).alloc (Nat.le_refl _) _)
  have HG := Lib.hid (kept_below (b := b) hb)
  have HE := Lib.hid (hE.below hb)
  have HA := Lib.hid (show ArgsAt (W.alloc (.cells #[.string { data := #[] }, .string { data := #[] }] 23)) b (some ⟨g, 0, none⟩) 6 C 0 from keep_block ha hb)
  have HC0 := Lib.hid (NumCells.below hc0 hb)
  have HC1 := Lib.hid (NumCells.below hc1 hb)
  have HC2 := Lib.hid (NumCells.below hc2 hb)
  have HC3 := Lib.hid (NumCells.below hc3 hb)
  have HC4 := Lib.hid (NumCells.below hc4 hb)
  have HC5 := Lib.hid (NumCells.below hc5 hb)
  have H2 : Hid ((W.alloc (.cells #[.string { data := #[] }, .string { data := #[] }] 23)).heap[W.heap.size]? = some (.cells #[.string { data := #[] }, .string { data := #[] }] 23 (0, 0))) := Lib.hid (by
    have h := heap_alloc_new W (.cells #[.string { data := #[] }, .string { data := #[] }] 23)
    exact h)
  have NE2 : Hid (W.heap.size ≠ b) := Lib.hid (by have := HBW.out; omega)
  obtain ⟨W0, hW0⟩ : ∃ Z, (W.alloc (.cells #[.string { data := #[] }, .string { data := #[] }] 23)) = Z := ⟨_, rfl⟩
  rw [hW0] at HG HE HA HC0 HC1 HC2 HC3 HC4 HC5 H2
  have EW0 := Lib.hid hW0
  clear hW0 hb ha hE hP hne hc0 hc1 hc2 hc3 hc4 hc5  hq0 hq1 hw1 hq2 hq3 hw3 hq4 hw4 hq5 hw5 hN0 hN1 c0 hX0 hY0 hp hx hy hxn hyn
  go_enter Tryz.func101, Tryz.ntmps101
  go_wp2_with fail
  rw [EW0.out]
  refine (TP.out _ HA.out HC0.out HC1.out HC2.out HC3.out HC4.out HC5.out HE.out).mono ?_
  rintro e w1 ⟨rfl, hg⟩
  clear HA
  replace H2 := Lib.hid (kept_block H2.out hg NE2.out)
  replace HC0 := Lib.hid (HC0.out.kept hg NG.out)
  replace HC1 := Lib.hid (HC1.out.kept hg NG.out)
  replace HC2 := Lib.hid (HC2.out.kept hg NG.out)
  replace HC3 := Lib.hid (HC3.out.kept hg NG.out)
  replace HC4 := Lib.hid (HC4.out.kept hg NG.out)
  replace HC5 := Lib.hid (HC5.out.kept hg NG.out)
  replace HE := Lib.hid (HE.out.kept hg HP.out)
  replace HG := Lib.hid (kept_trans HG.out hg)
  clear hg
  have lt_2 := heap_lt H2.out
  have geW := HG.out.size
  have L3_2 : Hid (W.heap.size < w1.heap.size) := Lib.hid (by omega)
  have G3 : Hid (W.heap.size ≤ w1.heap.size) := Lib.hid (by omega)
  have NE3 : Hid (w1.heap.size ≠ b) := Lib.hid (by have := HBW.out; omega)
  have hb : Below w1.heap.size w1 (w1.alloc (.cells #[.string (numS x), .string (denS x)] 23)) := (Below.refl _ _).alloc (Nat.le_refl _) _
  replace H2 := Lib.hid (keep_block H2.out hb)
  replace HC0 := Lib.hid (NumCells.below HC0.out hb)
  replace HC1 := Lib.hid (NumCells.below HC1.out hb)
  replace HC2 := Lib.hid (NumCells.below HC2.out hb)
  replace HC3 := Lib.hid (NumCells.below HC3.out hb)
  replace HC4 := Lib.hid (NumCells.below HC4.out hb)
  replace HC5 := Lib.hid (NumCells.below HC5.out hb)
  replace HE := Lib.hid (HE.out.below hb)
  replace HG := Lib.hid (kept_trans HG.out (kept_below hb))
  have H3 := Lib.hid (heap_alloc_new w1 (.cells #[.string (numS x), .string (denS x)] 23))
  clear hb
  have L4_2 : Hid (W.heap.size < w1.heap.size + 1) := Lib.hid (by omega)
  have L4_3 : Hid (w1.heap.size < w1.heap.size + 1) := Lib.hid (by omega)
  have G4 : Hid (W.heap.size ≤ w1.heap.size + 1) := Lib.hid (by omega)
  have NE4 : Hid (w1.heap.size + 1 ≠ b) := Lib.hid (by have := HBW.out; omega)
  have hb : Below (w1.alloc (.cells #[.string (numS x), .string (denS x)] 23)).heap.size (w1.alloc (.cells #[.string (numS x), .string (denS x)] 23)) ((w1.alloc (.cells #[.string (numS x), .string (denS x)] 23)).alloc (.cells #[.string (numS y), .string (denS y)] 23)) := (Below.refl _ _).alloc (Nat.le_refl _) _
  replace H2 := Lib.hid (keep_block H2.out hb)
  replace H3 := Lib.hid (keep_block H3.out hb)
  replace HC0 := Lib.hid (NumCells.below HC0.out hb)
  replace HC1 := Lib.hid (NumCells.below HC1.out hb)
  replace HC2 := Lib.hid (NumCells.below HC2.out hb)
  replace HC3 := Lib.hid (NumCells.below HC3.out hb)
  replace HC4 := Lib.hid (NumCells.below HC4.out hb)
  replace HC5 := Lib.hid (NumCells.below HC5.out hb)
  replace HE := Lib.hid (HE.out.below hb)
  replace HG := Lib.hid (kept_trans HG.out (kept_below hb))
  have H4 : Hid (((w1.alloc (.cells #[.string (numS x), .string (denS x)] 23)).alloc (.cells #[.string (numS y), .string (denS y)] 23)).heap[w1.heap.size + 1]? = some (.cells #[.string (numS y), .string (denS y)] 23 (0, 0))) := Lib.hid (by
    have h := heap_alloc_new (w1.alloc (.cells #[.string (numS x), .string (denS x)] 23)) (.cells #[.string (numS y), .string (denS y)] 23)
    simp only [World.size_alloc] at h
    exact h)
  clear hb
  clear geW lt_2
  obtain ⟨⟨x4_0, x4_1⟩, x4_f0, x4_f1⟩ := two_at H4.out
  obtain ⟨⟨x2_0, x2_1⟩, x2_f0, x2_f1⟩ := two_at H2.out
  have n2 := set2_at H2.out (.string (numS y)) (.string (denS y))
  have hgl : W.grownBy ((((w1.alloc (.cells #[.string (numS x), .string (denS x)] 23)).alloc (.cells #[.string (numS y), .string (denS y)] 23)).setCell ⟨W.heap.size, 0, none⟩ (.string (numS y))).setCell ⟨W.heap.size, 1, none⟩ (.string (denS y))) (some b) := below_only HG.out (put2_below (show W.heap.size ≤ W.heap.size from (by omega)) ((w1.alloc (.cells #[.string (numS x), .string (denS x)] 23)).alloc (.cells #[.string (numS y), .string (denS y)] 23)) (.string (numS y)) (.string (denS y)))
  clear HG
  have HG := Lib.hid hgl
  clear hgl
  obtain ⟨⟨r2_0, r2_1⟩, _⟩ := two_at n2
  go_wp2
  refine bodyPost_ret (v := .agg #[.string (numS y), .string (denS y)]) (by simp [results, Tryz.results101, go_sem, r2_0, r2_1]) rfl ⟨rfl, HG.out⟩

end Go.Proofs.YtphfefmlappidaaGreatDoor.Num.Fy

/- package fmoney at loans of at most 24 periods: loan, future, payment, part. Conditions: rates of -9 to 30 hundredths; the tables lie as they are laid. -/
namespace Go.Proofs.YtphfefmlappidaaGreatDoor.Num.Fy
open Go.RowKit Go.Lib Num

/-- the variable one, as it is read -/
def oneV : Value := .agg #[.string { data := #[49] }, .string { data := #[49] }]
/-- the terms of a loan as a value -/
def termsV (r g s : Rat) : Value := .agg #[.string (numS r), .string (denS r), .string (numS g), .string (denS g), .string (numS s), .string (denS s)]
theorem f1 : fits (1 : Rat) = true := fits_int 1 (by decide)
theorem f0 : fits (0 : Rat) = true := fits_int 0 (by decide)
theorem c_add {p q r : Rat} (hp : fits p = true) (hq : fits q = true) (hr : fits r = true) (e : p + q = r) : Fun2 92 (fracV p) (fracV q) (fracV r) := fun W g => by
  subst e; exact y_add p q W hp hq hr g.e
theorem c_sub {p q r : Rat} (hp : fits p = true) (hq : fits q = true) (hr : fits r = true) (e : p - q = r) : Fun2 107 (fracV p) (fracV q) (fracV r) := fun W g => by
  subst e; exact y_sub p q W hp hq hr g.e
theorem c_mul {p q r : Rat} (hp : fits p = true) (hq : fits q = true) (hr : fits r = true) (e : p * q = r) : Fun2 93 (fracV p) (fracV q) (fracV r) := fun W g => by
  subst e; exact y_mul p q W hp hq hr g.e
theorem c_div {p q r : Rat} (hp : fits p = true) (hq : fits q = true) (h0 : q ≠ 0) (hr : fits r = true) (e : p / q = r) : Fun2 91 (fracV p) (fracV q) (fracV r) := fun W g => by
  subst e; exact y_div p q W hp hq h0 hr g.e
theorem c_neg {q r : Rat} (hq : fits q = true) (e : -q = r) : Fun1 90 (fracV q) (fracV r) := fun W g => by
  subst e; exact y_neg q W hq g.e
theorem c_add1 {q : Rat} (hq : fits q = true) (hr : fits (1 + q) = true) : Fun2 92 oneV (fracV q) (fracV (1 + q)) := fun W g => by
  have T := y_add 1 q W f1 hq hr g.e
  rw [one_is] at T
  exact T
theorem c_sub1 {q : Rat} (hq : fits q = true) (hr : fits (q - 1) = true) : Fun2 107 (fracV q) oneV (fracV (q - 1)) := fun W g => by
  have T := y_sub q 1 W hq f1 hr g.e
  rw [one_is] at T
  exact T
theorem c_sign {q : Rat} (hq : fits q = true) : Fun1 208 (fracV q) (.int .i64 (cmpR q 0)) := fun W g => y_sign q W hq g.e
theorem c_of {n : Int} (h : n.natAbs ≤ 1000000000) : Fun1 49 (.int .i64 n) (fracV ((n : Int) : Rat)) := fun W g => of_any n W (by omega) (by omega) g.e.tab
theorem c_pow {q : Rat} {k : Nat} (hk : k ≤ 1000) (hq : fits q = true) (hr : fits (q ^ k) = true) (h1 : up q ^ k < 10 ^ 300) (h2 : q.den ^ k < 10 ^ 300) : Fun2 207 (fracV q) (.int .i64 (k : Int)) (fracV (q ^ k)) := fun W g =>
  y_power q (q ^ k) (k : Int) W hq hr (by omega) (by omega) (by unfold powR; rw [if_neg (by omega), Int.natAbs_natCast]) (by rw [Int.natAbs_natCast]; exact h1) (by rw [Int.natAbs_natCast]; exact h2) g.e
theorem cmp_zero {q : Rat} (h : q = 0) : cmpR q 0 = 0 := by unfold cmpR; rw [if_pos h]
theorem cmp_ne {q : Rat} (h : q ≠ 0) : cmpR q 0 ≠ 0 := by unfold cmpR; rw [if_neg h]; split <;> decide

theorem fut_any (r g s p v : Rat) (hg : fits g = true) (hs : fits s = true) (hp : fits p = true) (hv : fits v = true) (h1 : fits (v * g) = true) (h2 : fits (p * s) = true) (h3 : fits (v * g + p * s) = true) :
    Fun3 88 (termsV r g s) (fracV p) (fracV v) (fracV (-(v * g + p * s))) := fun W e =>
  future_walk r g s p v (v * g) (p * s) (v * g + p * s) (-(v * g + p * s)) W (c_mul hv hg h1 rfl) (c_mul hp hs h2 rfl) (c_add h1 h2 h3 rfl) (c_neg h3 rfl) e
theorem pay_any (r g s v w : Rat) (hg : fits g = true) (hs : fits s = true) (h0 : s ≠ 0) (hv : fits v = true) (hw : fits w = true) (h1 : fits (v * g) = true) (h2 : fits (v * g + w) = true) (h3 : fits ((v * g + w) / s) = true) :
    Fun3 95 (termsV r g s) (fracV v) (fracV w) (fracV (-((v * g + w) / s))) := fun W e =>
  payment_walk r g s v w (v * g) (v * g + w) ((v * g + w) / s) (-((v * g + w) / s)) W (c_mul hv hg h1 rfl) (c_add h1 hw h2 rfl) (c_div h2 hs h0 h3 rfl) (c_neg h3 rfl) e

section
variable {a V U : Int} {n k : Nat} (a0 : -9 ≤ a) (a1 : a ≤ 30) (hV : V.natAbs ≤ 1000000) (hU : U.natAbs ≤ 1000000)
include a0 a1
theorem f_rate : fits (rateR a) = true := (rate_sd a0 a1).fits (by decide) (by decide)
theorem f_or : fits (1 + rateR a) = true := (one_rate_sd a0 a1).fits (by decide) (by decide)
theorem f_grow (hk : k ≤ 24) : fits (growR (rateR a) k) = true := (grow_sd a0 a1 hk).fits (by decide) (by decide)
theorem f_sum (e : Bool) (hk : k ≤ 24) : fits (sumR (rateR a) k e) = true := (sum_sd a0 a1 (e := e) hk).fits (by decide) (by decide)
theorem f_sum0 (hk : k ≤ 24) : fits (sumR0 (rateR a) k) = true := (sum0_sd a0 a1 hk).fits (by decide) (by decide)
theorem loan_any (e : Bool) (hk : k ≤ 24) : Fun3 87 (fracV (rateR a)) (.int .i64 (k : Int)) (.int .i64 (if e = true then 1 else 0)) (termsV (rateR a) (growR (rateR a) k) (sumR (rateR a) k e)) := by
  intro W g
  have fr := f_rate a0 a1
  have fo := f_or a0 a1
  have fg := f_grow a0 a1 hk
  have h0 := f_sum0 a0 a1 hk
  have cA := c_add1 fr fo
  have hl := grow_limbs a0 a1 hk
  have cP : Fun2 207 (fracV (1 + rateR a)) (.int .i64 (k : Int)) (fracV (growR (rateR a) k)) := c_pow (by omega) fo fg hl.1 hl.2
  have cO : Fun1 49 (.int .i64 (k : Int)) (fracV ((k : Int) : Rat)) := c_of (by omega)
  have cS := c_sign fr
  by_cases hz : rateR a = 0
  · have hs : sumR0 (rateR a) k = ((k : Int) : Rat) := by unfold sumR0; rw [if_pos hz, Rat.intCast_natCast]
    have fk : fits ((k : Int) : Rat) = true := by rw [← hs]; exact h0
    cases e
    · have e1 : sumR (rateR a) k false = ((k : Int) : Rat) := hs
      rw [e1]
      exact loan_z0 (rateR a) (1 + rateR a) (growR (rateR a) k) ((k : Int) : Rat) (k : Int) (cmpR (rateR a) 0) W (by omega) (by omega) (cmp_zero hz) cA cP cO cS g
    · have e1 : ((k : Int) : Rat) * (1 + rateR a) = sumR (rateR a) k true := by rw [← hs]; rfl
      exact loan_z1 (rateR a) (1 + rateR a) (growR (rateR a) k) ((k : Int) : Rat) (sumR (rateR a) k true) (k : Int) (cmpR (rateR a) 0) W (by omega) (by omega) (cmp_zero hz) cA cP cO cS (c_mul fk fo (f_sum a0 a1 true hk) e1) g
  · have hs : (growR (rateR a) k - 1) / rateR a = sumR0 (rateR a) k := by unfold sumR0; rw [if_neg hz]
    have fg1 : fits (growR (rateR a) k - 1) = true := (grow1_sd a0 a1 hk).fits (by decide) (by decide)
    have cM := c_sub1 fg fg1
    have cD := c_div fg1 fr hz h0 hs
    cases e
    · exact loan_r0 (rateR a) (1 + rateR a) (growR (rateR a) k) ((k : Int) : Rat) (growR (rateR a) k - 1) (sumR0 (rateR a) k) (k : Int) (cmpR (rateR a) 0) W (by omega) (by omega) (cmp_ne hz) cA cP cO cS cM cD g
    · exact loan_r1 (rateR a) (1 + rateR a) (growR (rateR a) k) ((k : Int) : Rat) (growR (rateR a) k - 1) (sumR0 (rateR a) k) (sumR (rateR a) k true) (k : Int) (cmpR (rateR a) 0) W (by omega) (by omega) (cmp_ne hz) cA cP cO cS cM cD (c_mul h0 fo (f_sum a0 a1 true hk) rfl) g

include hV hU
theorem f_pay (e : Bool) (hn : 1 ≤ n) (hk : n ≤ 24) : fits (payR (rateR a) n e (cents V) (cents U)) = true := (pay_sd a0 a1 hV hU hn hk).fits (by decide) (by decide)
theorem payment_any (e : Bool) (hn : 1 ≤ n) (hk : n ≤ 24) : Fun3 95 (termsV (rateR a) (growR (rateR a) n) (sumR (rateR a) n e)) (fracV (cents V)) (fracV (cents U)) (fracV (payR (rateR a) n e (cents V) (cents U))) :=
  pay_any (rateR a) (growR (rateR a) n) (sumR (rateR a) n e) (cents V) (cents U) (f_grow a0 a1 hk) (f_sum a0 a1 e hk) (sum_ne a0 hn) ((cents_sd hV).fits (by decide) (by decide)) ((cents_sd hU).fits (by decide) (by decide))
    ((vg_sd a0 a1 hV hk).fits (by decide) (by decide)) ((vgw_sd a0 a1 hV hU hk).fits (by decide) (by decide)) ((SD.div (vgw_sd a0 a1 hV hU hk) (sum_sd a0 a1 (e := e) hk) (sum_ne a0 hn)).fits (by decide) (by decide))
theorem future_pay (e : Bool) (hn : 1 ≤ n) (hk : n ≤ 24) : Fun3 88 (termsV (rateR a) (growR (rateR a) n) (sumR (rateR a) n e)) (fracV (payR (rateR a) n e (cents V) (cents U))) (fracV (cents V)) (fracV (cents U)) := by
  have h := fut_any (rateR a) (growR (rateR a) n) (sumR (rateR a) n e) (payR (rateR a) n e (cents V) (cents U)) (cents V) (f_grow a0 a1 hk) (f_sum a0 a1 e hk) (f_pay a0 a1 hV hU e hn hk) ((cents_sd hV).fits (by decide) (by decide))
    ((vg_sd a0 a1 hV hk).fits (by decide) (by decide)) ((paysum_sd a0 a1 hV hU hn hk).fits (by decide) (by decide)) ((fut_sd a0 a1 hV hU hn hk).fits (by decide) (by decide))
  rw [show -(cents V * growR (rateR a) n + payR (rateR a) n e (cents V) (cents U) * sumR (rateR a) n e) = cents U from fut_pay _ _ _ _ _ (sum_ne a0 hn)] at h
  exact h
end
end Go.Proofs.YtphfefmlappidaaGreatDoor.Num.Fy

/- package fmoney at loans of at most 24 periods: the parts of payments, the value now. Conditions: rates of -9 to 30 hundredths; the tables lie as they are laid. -/
namespace Go.Proofs.YtphfefmlappidaaGreatDoor.Num.Fy
open Go.RowKit Go.Lib Num

theorem cents_zero : cents 0 = 0 := by decide +kernel
theorem sum_z (r : Rat) (e : Bool) : sumR r 0 e = 0 := by
  unfold sumR
  cases e
  · exact sum_zero r
  · show sumR0 r 0 * (1 + r) = 0
    rw [sum_zero, Rat.zero_mul]
/-- the first payment's interest -/
def firstI (r v : Rat) (e : Bool) : Rat := if e = true then 0 else -v * r
section
variable {a V U : Int} {n k : Nat} (a0 : -9 ≤ a) (a1 : a ≤ 30) (hV : V.natAbs ≤ 1000000) (hU : U.natAbs ≤ 1000000)
include a0 a1 hV
theorem firstI_sd (e : Bool) : SD (firstI (rateR a) (cents V) e) 8 4 := by
  unfold firstI
  split
  · exact sd_of (Sm.int 0 (A := 1) (by decide)) (by decide) (by decide)
  · exact SD.mul (SD.neg (cents_sd hV)) (rate_sd a0 a1)
include hU
theorem firstP_sd (e : Bool) (hn : 1 ≤ n) (hk : n ≤ 24) : SD (payR (rateR a) n e (cents V) (cents U) - firstI (rateR a) (cents V) e) 117 112 :=
  SD.sub (pay_sd a0 a1 hV hU hn hk) (firstI_sd a0 a1 hV e) (by decide) (by decide)
theorem part_first (e : Bool) (hn : 1 ≤ n) (hk : n ≤ 24) : Fun6 213 (fracV (rateR a)) (.int .i64 1) (.int .i64 (n : Int)) (fracV (cents V)) (fracV (cents U)) (.int .i64 (if e = true then 1 else 0))
    (.tuple #[fracV (firstI (rateR a) (cents V) e), fracV (payR (rateR a) n e (cents V) (cents U) - firstI (rateR a) (cents V) e)]) := by
  intro W g
  have fp := f_pay a0 a1 hV hU e hn hk
  have fv : fits (cents V) = true := (cents_sd hV).fits (by decide) (by decide)
  have fi : fits (firstI (rateR a) (cents V) e) = true := (firstI_sd a0 a1 hV e).fits (by decide) (by decide)
  have fq : fits (payR (rateR a) n e (cents V) (cents U) - firstI (rateR a) (cents V) e) = true := (firstP_sd a0 a1 hV hU e hn hk).fits (by decide) (by decide)
  have c0 := loan_any a0 a1 e hk
  have c1 := payment_any a0 a1 hV hU e hn hk
  have c2 : Fun1 49 (.int .i64 0) (fracV 0) := c_of (n := 0) (by decide)
  have c6 := c_sub fp fi fq rfl
  cases e
  · have c3 := loan_any (k := 0) a0 a1 false (by decide)
    rw [grow_zero, sum_z] at c3
    have h1 : cents V * 1 = cents V := Rat.mul_one _
    have h2 : payR (rateR a) n false (cents V) (cents U) * 0 = 0 := Rat.mul_zero _
    have c4 := fut_any (rateR a) 1 0 (payR (rateR a) n false (cents V) (cents U)) (cents V) f1 f0 fp fv (by rw [h1]; exact fv) (by rw [h2]; exact f0) (by rw [h1, h2, Rat.add_zero]; exact fv)
    rw [h1, h2, Rat.add_zero] at c4
    have fn : fits (-cents V) = true := (SD.neg (cents_sd hV)).fits (by decide) (by decide)
    have c5 : Fun2 93 (fracV (-cents V)) (fracV (rateR a)) (fracV (firstI (rateR a) (cents V) false)) := c_mul fn (f_rate a0 a1) fi rfl
    exact part_e0 (rateR a) (cents V) (cents U) (growR (rateR a) n) (sumR (rateR a) n false) (payR (rateR a) n false (cents V) (cents U)) 0 (firstI (rateR a) (cents V) false) _ 1 0 (-cents V) (n : Int) 1 W (by decide) (by decide) c0 c1 c2 c3 c4 c5 c6 g
  · have fo := f_or a0 a1
    have c3 := c_add1 (f_rate a0 a1) fo
    have c4 : Fun2 91 (fracV 0) (fracV (1 + rateR a)) (fracV (firstI (rateR a) (cents V) true)) := c_div f0 fo (one_rate_ne a0) fi (by rw [Rat.div_def, Rat.zero_mul]; rfl)
    exact part_e1 (rateR a) (cents V) (cents U) (growR (rateR a) n) (sumR (rateR a) n true) (payR (rateR a) n true (cents V) (cents U)) 0 (firstI (rateR a) (cents V) true) _ (1 + rateR a) (n : Int) 1 W c0 c1 c2 c3 c4 c6 g
omit hU
theorem part_k (hn : 1 ≤ n) (hk : n ≤ 24) (hkn : k + 1 ≤ 24) : Fun6 213 (fracV (rateR a)) (.int .i64 ((k + 1 : Nat) : Int)) (.int .i64 (n : Int)) (fracV (cents V)) (fracV 0) (.int .i64 0)
    (.tuple #[fracV (intR (rateR a) (k + 1) n false (cents V) 0), fracV (payR (rateR a) n false (cents V) 0 - intR (rateR a) (k + 1) n false (cents V) 0)]) := by
  intro W g
  have fp : fits (payR (rateR a) n false (cents V) 0) = true := (pays_sd a0 a1 hV hn hk).fits (by decide) (by decide)
  have fv : fits (cents V) = true := (cents_sd hV).fits (by decide) (by decide)
  have c0 := loan_any a0 a1 false hk
  have c1 := payment_any (U := 0) a0 a1 hV (by decide) false hn hk
  rw [cents_zero] at c1
  have c2 : Fun1 49 (.int .i64 0) (fracV 0) := c_of (n := 0) (by decide)
  have c3 := loan_any (k := k) a0 a1 false (by omega)
  have fow : fits (owedR (rateR a) k (payR (rateR a) n false (cents V) 0) (cents V)) = true := (owed_sd a0 a1 hV hn hk (by omega)).fits (by decide) (by decide)
  have c4 := fut_any (rateR a) (growR (rateR a) k) (sumR (rateR a) k false) (payR (rateR a) n false (cents V) 0) (cents V) (f_grow a0 a1 (by omega)) (f_sum a0 a1 false (by omega)) fp fv ((vg_sd a0 a1 hV (by omega)).fits (by decide) (by decide)) ((paysk_sd a0 a1 hV hn hk (k := k) (by omega)).fits (by decide) (by decide)) fow
  have fio : fits (intR (rateR a) (k + 1) n false (cents V) 0) = true := (inte_sd a0 a1 hV hn hk hkn).fits (by decide) (by decide)
  have c5 : Fun2 93 (fracV (-(cents V * growR (rateR a) k + payR (rateR a) n false (cents V) 0 * sumR (rateR a) k false))) (fracV (rateR a)) (fracV (intR (rateR a) (k + 1) n false (cents V) 0)) :=
    c_mul ((SD.neg (owed_sd a0 a1 hV hn hk (k := k) (by omega))).fits (by decide) (by decide)) (f_rate a0 a1) fio (by rw [intR_owed, Rat.neg_mul]; rfl)
  have c6 : Fun2 107 (fracV (payR (rateR a) n false (cents V) 0)) (fracV (intR (rateR a) (k + 1) n false (cents V) 0)) (fracV (payR (rateR a) n false (cents V) 0 - intR (rateR a) (k + 1) n false (cents V) 0)) := c_sub fp fio ((prin_sd a0 a1 hV hn hk hkn).fits (by decide) (by decide)) rfl
  have hkk : (((k + 1 : Nat) : Int) - 1) = (k : Int) := by omega
  exact part_e0 (rateR a) (cents V) 0 (growR (rateR a) n) (sumR (rateR a) n false) (payR (rateR a) n false (cents V) 0) 0 (intR (rateR a) (k + 1) n false (cents V) 0) _ (growR (rateR a) k) (sumR (rateR a) k false) (-(cents V * growR (rateR a) k + payR (rateR a) n false (cents V) 0 * sumR (rateR a) k false)) (n : Int) ((k + 1 : Nat) : Int) W (by omega) (by omega) c0 c1 c2 (by rw [hkk]; exact c3) c4 c5 c6 g
end
end Go.Proofs.YtphfefmlappidaaGreatDoor.Num.Fy
