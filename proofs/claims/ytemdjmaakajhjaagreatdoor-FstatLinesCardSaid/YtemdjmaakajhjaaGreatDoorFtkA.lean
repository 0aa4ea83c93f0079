/- Numbers as texts of digits, fractions, values and the functions of fmath: contracts of the program's functions, joined from smaller texts. Conditions stand at each theorem. -/
import Derived.Test.YtemdjmaakajhjaaGreatDoorFtaB
import Derived.Test.YtemdjmaakajhjaaGreatDoorFtbA
import Derived.Test.YtemdjmaakajhjaaGreatDoorFtcA

/- package fstat: a line through pairs: line, SLOPE, INTERCEPT, FORECAST, RSQ over their arguments. Conditions: what read and the small functions give. -/
namespace Go.Proofs.YtemdjmaakajhjaaGreatDoor.Num.Ft
open Go.RowKit Go.Lib Num
attribute [local irreducible] wpOp
set_option linter.unusedVariables false in
/-- what the operations of region 4 yield -/
def line_walkKs4 (mx my sxx syy sxy kq mq oq : Rat) (n c1 c2 : Nat) (A1 A2 : Option Addr) (W w2 w3 w4 : World) : List RK :=
  [.pure (.agg #[.string (numS kq), .string (denS kq)]),
   .pure (.pointer (some ⟨w3.heap.size, 2, none⟩)),
   .pure (.agg #[.string (numS mx), .string (denS mx)]),
   .pure (.agg #[.string (numS kq), .string (denS kq)]),
   .pure (.pointer (some ⟨w3.heap.size, 4, none⟩)),
   .pure (.agg #[.string (numS my), .string (denS my)]),
   .pure (.agg #[.string (numS mq), .string (denS mq)]),
   .pure (.agg #[.string (numS oq), .string (denS oq)]),
   .put 10,
   .put 11,
   .box (some (W.heap.size)) #[.string { data := #[] }, .string { data := #[] }] #[.string (numS kq), .string (denS kq)] 24 8,
   .box (some (W.heap.size + 1)) #[.string { data := #[] }, .string { data := #[] }] #[.string (numS oq), .string (denS oq)] 24 9,
   .box (some (w3.heap.size)) #[.slice A1 n c1, .slice A2 n c2, .string (numS mx), .string (denS mx), .string (numS my), .string (denS my), .string (numS sxx), .string (denS sxx), .string (numS syy), .string (denS syy), .string (numS sxy), .string (denS sxy)] #[.slice A1 n c1, .slice A2 n c2, .string (numS mx), .string (denS mx), .string (numS my), .string (denS my), .string (numS sxx), .string (denS sxx), .string (numS syy), .string (denS syy), .string (numS sxy), .string (denS sxy)] 147 14,
   .box (some (w4.heap.size)) #[.string (numS kq), .string (denS kq)] #[.string (numS kq), .string (denS kq)] 24 14]
set_option linter.unusedSimpArgs false in
set_option linter.unusedVariables false in
set_option maxHeartbeats 4000000 in
set_option maxRecDepth 100000 in
theorem line_walk (L i0 : Nat) (ra sa rb sb : Int) (ga gb la lb Ca Cb n : Nat) (mx my sxx syy sxy kq mq oq : Rat) (b g C : Nat) (W : World) (hread : ∀ W', W.grownBy W' (some b) → Env W' → Calls Tryz.prog 175 #[.agg #[.int .i64 5, .string { data := #[] }, .string { data := #[] }, .string { data := #[] }, .bool false, .int .i64 0, .int .i64 ra, .int .i64 sa, .slice (some ⟨ga, 0, none⟩) la Ca], .agg #[.int .i64 5, .string { data := #[] }, .string { data := #[] }, .string { data := #[] }, .bool false, .int .i64 0, .int .i64 rb, .int .i64 sb, .slice (some ⟨gb, 0, none⟩) lb Cb]] W' fun e w' => (∃ A1 c1 A2 c2, e = .returned (.agg #[.slice A1 n c1, .slice A2 n c2, .string (numS mx), .string (denS mx), .string (numS my), .string (denS my), .string (numS sxx), .string (denS sxx), .string (numS syy), .string (denS syy), .string (numS sxy), .string (denS sxy)])) ∧ Below W'.heap.size W' w')
    (c0 : Fun2 51 (.agg #[.string (numS sxy), .string (denS sxy)]) (.agg #[.string (numS syy), .string (denS syy)]) (.agg #[.string (numS kq), .string (denS kq)]))
    (c1 : Fun2 144 (.agg #[.string (numS kq), .string (denS kq)]) (.agg #[.string (numS my), .string (denS my)]) (.agg #[.string (numS mq), .string (denS mq)]))
    (c2 : Fun2 147 (.agg #[.string (numS mx), .string (denS mx)]) (.agg #[.string (numS mq), .string (denS mq)]) (.agg #[.string (numS oq), .string (denS oq)]))
    (hi : i0 + 2 ≤ L)
    (hL : L ≤ 1000000000)
    (ha : ArgsAt W b (some ⟨g, 0, none⟩) L C i0) (hne : g ≠ b) (hc0 : CellsAt W g (0 + i0 * 9) (.int .i64 5) (.string { data := #[] }) (.string { data := #[] }) (.string { data := #[] }) (.bool false) (.int .i64 0) (.int .i64 ra) (.int .i64 sa) (.slice (some ⟨ga, 0, none⟩) la Ca)) (hc1 : CellsAt W g (0 + (i0 + 1) * 9) (.int .i64 5) (.string { data := #[] }) (.string { data := #[] }) (.string { data := #[] }) (.bool false) (.int .i64 0) (.int .i64 rb) (.int .i64 sb) (.slice (some ⟨gb, 0, none⟩) lb Cb)) (hE : EnvY W) (hP : Past b) :
    Calls Tryz.prog 177 #[.pointer (some ⟨b, 0, none⟩)] W fun e w' => e = .returned (.tuple #[.agg #[.string (numS kq), .string (denS kq)], .agg #[.string (numS oq), .string (denS oq)]]) ∧ W.grownBy w' (some b) := by
  have TA0 := Lib.hid (fun W' ga' gc => value_any b g 0 L C (i0) 5 { data := #[] } { data := #[] } { data := #[] } false 0 ra sa (some ⟨ga, 0, none⟩) la Ca W' ga' (by omega) (by omega) hne gc)
  have TA1 := Lib.hid (fun W' ga' gc => value_any b g 0 L C (i0 + 1) 5 { data := #[] } { data := #[] } { data := #[] } false 0 rb sb (some ⟨gb, 0, none⟩) lb Cb W' ga' (by omega) (by omega) hne gc)
  have QR := Lib.hid hread
  have Qc0 := Lib.hid c0
  have Qc1 := Lib.hid c1
  have Qc2 := Lib.hid c2
  unfold Fun2 at Qc0 Qc1 Qc2
  have HP := Lib.hid hP
  have HE0 := Lib.hid hE
  have NG := Lib.hid hne
  have HBW := Lib.hid (heap_lt ha)
  have hb : Below W.heap.size W ((W.alloc (.cells #[.string { data := #[] }, .string { data := #[] }] 24)).alloc (.cells #[.string { data := #[] }, .string { data := #[] }] 24)) := (((Below.refl _ _).alloc (Nat.le_refl _) _).alloc (by simp only [World.size_alloc]; omega) _)
  have HG := Lib.hid (kept_below (b := b) hb)
  have HE := Lib.hid (hE.below hb)
  have HA := Lib.hid (show ArgsAt ((W.alloc (.cells #[.string { data := #[] }, .string { data := #[] }] 24)).alloc (.cells #[.string { data := #[] }, .string { data := #[] }] 24)) b (some ⟨g, 0, none⟩) L C i0 from keep_block ha hb)
  have HC0 := Lib.hid (CellsAt.below hc0 hb)
  have HC1 := Lib.hid (CellsAt.below hc1 hb)
  have H2 : Hid (((W.alloc (.cells #[.string { data := #[] }, .string { data := #[] }] 24)).alloc (.cells #[.string { data := #[] }, .string { data := #[] }] 24)).heap[W.heap.size]? = some (.cells #[.string { data := #[] }, .string { data := #[] }] 24 (0, 0))) := Lib.hid (by
    have h := heap_alloc_new W (.cells #[.string { data := #[] }, .string { data := #[] }] 24)
    exact new_keep (h))
  have NE2 : Hid (W.heap.size ≠ b) := Lib.hid (by have := HBW.out; omega)
  have H3 : Hid (((W.alloc (.cells #[.string { data := #[] }, .string { data := #[] }] 24)).alloc (.cells #[.string { data := #[] }, .string { data := #[] }] 24)).heap[W.heap.size + 1]? = some (.cells #[.string { data := #[] }, .string { data := #[] }] 24 (0, 0))) := Lib.hid (by
    have h := heap_alloc_new (W.alloc (.cells #[.string { data := #[] }, .string { data := #[] }] 24)) (.cells #[.string { data := #[] }, .string { data := #[] }] 24)
    simp only [World.size_alloc] at h
    exact h)
  have NE3 : Hid (W.heap.size + 1 ≠ b) := Lib.hid (by have := HBW.out; omega)
  obtain ⟨W0, hW0⟩ : ∃ Z, ((W.alloc (.cells #[.string { data := #[] }, .string { data := #[] }] 24)).alloc (.cells #[.string { data := #[] }, .string { data := #[] }] 24)) = Z := ⟨_, rfl⟩
  rw [hW0] at HG HE HA HC0 HC1 H2 H3
  have EW0 := Lib.hid hW0
  clear hW0 hb ha hE hP hne hc0 hc1  hread c0 c1 c2 hi hL
  go_enter Tryz.func177, Tryz.ntmps177
  go_wp2_with fail
  rw [EW0.out]
  refine (TA0.out _ HA.out HC0.out).mono ?_
  rintro e w1 ⟨rfl, ha, hg⟩
  replace HA := Lib.hid ha
  clear HC0
  replace H2 := Lib.hid (kept_block H2.out hg NE2.out)
  replace H3 := Lib.hid (kept_block H3.out hg NE3.out)
  replace HC1 := Lib.hid (HC1.out.kept hg NG.out)
  replace HE := Lib.hid (HE.out.kept hg HP.out)
  replace HG := Lib.hid (kept_trans HG.out hg)
  clear ha hg
  go_wp2_with fail
  refine (TA1.out _ HA.out HC1.out).mono ?_
  rintro e w2 ⟨rfl, ha, hg⟩
  replace HA := Lib.hid ha
  clear HC1
  replace H2 := Lib.hid (kept_block H2.out hg NE2.out)
  replace H3 := Lib.hid (kept_block H3.out hg NE3.out)
  replace HE := Lib.hid (HE.out.kept hg HP.out)
  replace HG := Lib.hid (kept_trans HG.out hg)
  clear ha hg
  have lt_2 := heap_lt H2.out
  have lt_3 := heap_lt H3.out
  have geW := HG.out.size
  have L4_2 : Hid (W.heap.size < w2.heap.size) := Lib.hid (by omega)
  have L4_3 : Hid (W.heap.size + 1 < w2.heap.size) := Lib.hid (by omega)
  have G4 : Hid (W.heap.size ≤ w2.heap.size) := Lib.hid (by omega)
  have NE4 : Hid (w2.heap.size ≠ b) := Lib.hid (by have := HBW.out; omega)
  have hb : Below w2.heap.size w2 (w2.alloc (.cells #[.int .i64 5, .string { data := #[] }, .string { data := #[] }, .string { data := #[] }, .bool false, .int .i64 0, .int .i64 ra, .int .i64 sa, .slice (some ⟨ga, 0, none⟩) la Ca] 27)) := (Below.refl _ _).alloc (Nat.le_refl _) _
  replace H2 := Lib.hid (keep_block H2.out hb)
  replace H3 := Lib.hid (keep_block H3.out hb)
  replace HA := Lib.hid (keep_block HA.out hb)
  replace HE := Lib.hid (HE.out.below hb)
  replace HG := Lib.hid (kept_trans HG.out (kept_below hb))
  have H4 := Lib.hid (heap_alloc_new w2 (.cells #[.int .i64 5, .string { data := #[] }, .string { data := #[] }, .string { data := #[] }, .bool false, .int .i64 0, .int .i64 ra, .int .i64 sa, .slice (some ⟨ga, 0, none⟩) la Ca] 27))
  clear hb
  have L5_2 : Hid (W.heap.size < w2.heap.size + 1) := Lib.hid (by omega)
  have L5_3 : Hid (W.heap.size + 1 < w2.heap.size + 1) := Lib.hid (by omega)
  have L5_4 : Hid (w2.heap.size < w2.heap.size + 1) := Lib.hid (by omega)
  have G5 : Hid (W.heap.size ≤ w2.heap.size + 1) := Lib.hid (by omega)
  have NE5 : Hid (w2.heap.size + 1 ≠ b) := Lib.hid (by have := HBW.out; omega)
  have hb : Below (w2.alloc (.cells #[.int .i64 5, .string { data := #[] }, .string { data := #[] }, .string { data := #[] }, .bool false, .int .i64 0, .int .i64 ra, .int .i64 sa, .slice (some ⟨ga, 0, none⟩) la Ca] 27)).heap.size (w2.alloc (.cells #[.int .i64 5, .string { data := #[] }, .string { data := #[] }, .string { data := #[] }, .bool false, .int .i64 0, .int .i64 ra, .int .i64 sa, .slice (some ⟨ga, 0, none⟩) la Ca] 27)) ((w2.alloc (.cells #[.int .i64 5, .string { data := #[] }, .string { data := #[] }, .string { data := #[] }, .bool false, .int .i64 0, .int .i64 ra, .int .i64 sa, .slice (some ⟨ga, 0, none⟩) la Ca] 27)).alloc (.cells #[.int .i64 5, .string { data := #[] }, .string { data := #[] }, .string { data := #[] }, .bool false, .int .i64 0, .int .i64 rb, .int .i64 sb, .slice (some ⟨gb, 0, none⟩) lb Cb] 27)) := (Below.refl _ _).alloc (Nat.le_refl _) _
  replace H2 := Lib.hid (keep_block H2.out hb)
  replace H3 := Lib.hid (keep_block H3.out hb)
  replace H4 := Lib.hid (keep_block H4.out hb)
  replace HA := Lib.hid (keep_block HA.out hb)
  replace HE := Lib.hid (HE.out.below hb)
  replace HG := Lib.hid (kept_trans HG.out (kept_below hb))
  have H5 : Hid (((w2.alloc (.cells #[.int .i64 5, .string { data := #[] }, .string { data := #[] }, .string { data := #[] }, .bool false, .int .i64 0, .int .i64 ra, .int .i64 sa, .slice (some ⟨ga, 0, none⟩) la Ca] 27)).alloc (.cells #[.int .i64 5, .string { data := #[] }, .string { data := #[] }, .string { data := #[] }, .bool false, .int .i64 0, .int .i64 rb, .int .i64 sb, .slice (some ⟨gb, 0, none⟩) lb Cb] 27)).heap[w2.heap.size + 1]? = some (.cells #[.int .i64 5, .string { data := #[] }, .string { data := #[] }, .string { data := #[] }, .bool false, .int .i64 0, .int .i64 rb, .int .i64 sb, .slice (some ⟨gb, 0, none⟩) lb Cb] 27 (0, 0))) := Lib.hid (by
    have h := heap_alloc_new (w2.alloc (.cells #[.int .i64 5, .string { data := #[] }, .string { data := #[] }, .string { data := #[] }, .bool false, .int .i64 0, .int .i64 ra, .int .i64 sa, .slice (some ⟨ga, 0, none⟩) la Ca] 27)) (.cells #[.int .i64 5, .string { data := #[] }, .string { data := #[] }, .string { data := #[] }, .bool false, .int .i64 0, .int .i64 rb, .int .i64 sb, .slice (some ⟨gb, 0, none⟩) lb Cb] 27)
    simp only [World.size_alloc] at h
    exact h)
  clear hb
  clear geW lt_2 lt_3
  obtain ⟨WL1, hWL1⟩ : ∃ Z, ((w2.alloc (.cells #[.int .i64 5, .string { data := #[] }, .string { data := #[] }, .string { data := #[] }, .bool false, .int .i64 0, .int .i64 ra, .int .i64 sa, .slice (some ⟨ga, 0, none⟩) la Ca] 27)).alloc (.cells #[.int .i64 5, .string { data := #[] }, .string { data := #[] }, .string { data := #[] }, .bool false, .int .i64 0, .int .i64 rb, .int .i64 sb, .slice (some ⟨gb, 0, none⟩) lb Cb] 27)) = Z := ⟨_, rfl⟩
  rw [hWL1] at HE HG H2 H3 H4 H5 HA
  have EWL1 := Lib.hid hWL1
  clear hWL1
  clear HA 
  go_upto_region 2 with fail
  rw [EWL1.out]
  obtain ⟨⟨x4_0, x4_1, x4_2, x4_3, x4_4, x4_5, x4_6, x4_7, x4_8⟩, x4_f0, x4_f1, x4_f2, x4_f3, x4_f4, x4_f5, x4_f6, x4_f7, x4_f8⟩ := nine_at H4.out
  obtain ⟨⟨x5_0, x5_1, x5_2, x5_3, x5_4, x5_5, x5_6, x5_7, x5_8⟩, x5_f0, x5_f1, x5_f2, x5_f3, x5_f4, x5_f5, x5_f6, x5_f7, x5_f8⟩ := nine_at H5.out
  go_wp2_with fail
  refine ((QR.out _ HG.out HE.out)).mono ?_
  clear x4_0 x4_1 x4_2 x4_3 x4_4 x4_5 x4_6 x4_7 x4_8 x4_f0 x4_f1 x4_f2 x4_f3 x4_f4 x4_f5 x4_f6 x4_f7 x4_f8
  clear x5_0 x5_1 x5_2 x5_3 x5_4 x5_5 x5_6 x5_7 x5_8 x5_f0 x5_f1 x5_f2 x5_f3 x5_f4 x5_f5 x5_f6 x5_f7 x5_f8
  rintro e w3 ⟨⟨A1, c1, A2, c2, rfl⟩, hb⟩
  replace H2 := Lib.hid (keep_block H2.out hb)
  replace H3 := Lib.hid (keep_block H3.out hb)
  replace H4 := Lib.hid (keep_block H4.out hb)
  replace H5 := Lib.hid (keep_block H5.out hb)
  replace HE := Lib.hid (HE.out.below hb)
  replace HG := Lib.hid (kept_trans HG.out (kept_below hb))
  clear hb
  have lt_2 := heap_lt H2.out
  have lt_3 := heap_lt H3.out
  have lt_4 := heap_lt H4.out
  have lt_5 := heap_lt H5.out
  have geW := HG.out.size
  have L6_2 : Hid (W.heap.size < w3.heap.size) := Lib.hid (by omega)
  have L6_3 : Hid (W.heap.size + 1 < w3.heap.size) := Lib.hid (by omega)
  have L6_4 : Hid (w2.heap.size < w3.heap.size) := Lib.hid (by omega)
  have L6_5 : Hid (w2.heap.size + 1 < w3.heap.size) := Lib.hid (by omega)
  have G6 : Hid (W.heap.size ≤ w3.heap.size) := Lib.hid (by omega)
  have NE6 : Hid (w3.heap.size ≠ b) := Lib.hid (by have := HBW.out; omega)
  have hb : Below w3.heap.size w3 (w3.alloc (.cells #[.slice A1 n c1, .slice A2 n c2, .string (numS mx), .string (denS mx), .string (numS my), .string (denS my), .string (numS sxx), .string (denS sxx), .string (numS syy), .string (denS syy), .string (numS sxy), .string (denS sxy)] 147)) := (Below.refl _ _).alloc (Nat.le_refl _) _
  replace H2 := Lib.hid (keep_block H2.out hb)
  replace H3 := Lib.hid (keep_block H3.out hb)
  replace H4 := Lib.hid (keep_block H4.out hb)
  replace H5 := Lib.hid (keep_block H5.out hb)
  replace HE := Lib.hid (HE.out.below hb)
  replace HG := Lib.hid (kept_trans HG.out (kept_below hb))
  have H6 := Lib.hid (heap_alloc_new w3 (.cells #[.slice A1 n c1, .slice A2 n c2, .string (numS mx), .string (denS mx), .string (numS my), .string (denS my), .string (numS sxx), .string (denS sxx), .string (numS syy), .string (denS syy), .string (numS sxy), .string (denS sxy)] 147))
  clear hb
  clear geW lt_2 lt_3 lt_4 lt_5
  obtain ⟨WL2, hWL2⟩ : ∃ Z, (w3.alloc (.cells #[.slice A1 n c1, .slice A2 n c2, .string (numS mx), .string (denS mx), .string (numS my), .string (denS my), .string (numS sxx), .string (denS sxx), .string (numS syy), .string (denS syy), .string (numS sxy), .string (denS sxy)] 147)) = Z := ⟨_, rfl⟩
  rw [hWL2] at HE HG H2 H3 H4 H5 H6
  have EWL2 := Lib.hid hWL2
  clear hWL2
  go_upto_region 3 with fail
  rw [EWL2.out]
  obtain ⟨⟨x6_0, x6_1, x6_2, x6_3, x6_4, x6_5, x6_6, x6_7, x6_8, x6_9, x6_10, x6_11⟩, x6_f0, x6_f1, x6_f2, x6_f3, x6_f4, x6_f5, x6_f6, x6_f7, x6_f8, x6_f9, x6_f10, x6_f11⟩ := twelve_at H6.out
  go_wp2_with fail
  refine (Qc0.out _ HE.out).mono ?_
  clear x6_0 x6_1 x6_2 x6_3 x6_4 x6_5 x6_6 x6_7 x6_8 x6_9 x6_10 x6_11 x6_f0 x6_f1 x6_f2 x6_f3 x6_f4 x6_f5 x6_f6 x6_f7 x6_f8 x6_f9 x6_f10 x6_f11
  rintro e w4 ⟨rfl, hb⟩
  replace H2 := Lib.hid (keep_block H2.out hb)
  replace H3 := Lib.hid (keep_block H3.out hb)
  replace H4 := Lib.hid (keep_block H4.out hb)
  replace H5 := Lib.hid (keep_block H5.out hb)
  replace H6 := Lib.hid (keep_block H6.out hb)
  replace HE := Lib.hid (HE.out.below hb)
  replace HG := Lib.hid (kept_trans HG.out (kept_below hb))
  clear hb
  have lt_2 := heap_lt H2.out
  have lt_3 := heap_lt H3.out
  have lt_4 := heap_lt H4.out
  have lt_5 := heap_lt H5.out
  have lt_6 := heap_lt H6.out
  have geW := HG.out.size
  have L7_2 : Hid (W.heap.size < w4.heap.size) := Lib.hid (by omega)
  have L7_3 : Hid (W.heap.size + 1 < w4.heap.size) := Lib.hid (by omega)
  have L7_4 : Hid (w2.heap.size < w4.heap.size) := Lib.hid (by omega)
  have L7_5 : Hid (w2.heap.size + 1 < w4.heap.size) := Lib.hid (by omega)
  have L7_6 : Hid (w3.heap.size < w4.heap.size) := Lib.hid (by omega)
  have G7 : Hid (W.heap.size ≤ w4.heap.size) := Lib.hid (by omega)
  have NE7 : Hid (w4.heap.size ≠ b) := Lib.hid (by have := HBW.out; omega)
  have hb : Below w4.heap.size w4 (w4.alloc (.cells #[.string (numS kq), .string (denS kq)] 24)) := (Below.refl _ _).alloc (Nat.le_refl _) _
  replace H2 := Lib.hid (keep_block H2.out hb)
  replace H3 := Lib.hid (keep_block H3.out hb)
  replace H4 := Lib.hid (keep_block H4.out hb)
  replace H5 := Lib.hid (keep_block H5.out hb)
  replace H6 := Lib.hid (keep_block H6.out hb)
  replace HE := Lib.hid (HE.out.below hb)
  replace HG := Lib.hid (kept_trans HG.out (kept_below hb))
  have H7 := Lib.hid (heap_alloc_new w4 (.cells #[.string (numS kq), .string (denS kq)] 24))
  clear hb
  clear geW lt_2 lt_3 lt_4 lt_5 lt_6
  obtain ⟨WL3, hWL3⟩ : ∃ Z, (w4.alloc (.cells #[.string (numS kq), .string (denS kq)] 24)) = Z := ⟨_, rfl⟩
  rw [hWL3] at HE HG H2 H3 H4 H5 H6 H7
  have EWL3 := Lib.hid hWL3
  clear hWL3
  go_wp2_with fail
  rw [EWL3.out]
  have := L6_2.out
  have := L6_3.out
  have := L7_2.out
  have := L7_3.out
  have := L7_6.out
  have := HG.out.size
  have := G6.out
  have := G7.out
  have hok : okB 10 (line_walkKs4 mx my sxx syy sxy kq mq oq n c1 c2 A1 A2 W w2 w3 w4) = true := by kernel_rfl
  have hna := noAny_of (ks := (line_walkKs4 mx my sxx syy sxy kq mq oq n c1 c2 A1 A2 W w2 w3 w4)) (by kernel_rfl)
  have hla := lasts_of hna
  refine wp_region_facts (row := (some b)) (w := W) 10 (line_walkKs4 mx my sxx syy sxy kq mq oq n c1 c2 A1 A2 W w2 w3 w4) [some 20, some 21, some 22, some 23, some 24, some 25, some 26, some 27, none, none] (by kernel_rfl) (by kernel_rfl) rfl [undef, undef, undef, undef, undef, undef, undef, undef, undef, undef, .pointer (some ⟨W.heap.size, 0, none⟩), .pointer (some ⟨W.heap.size + 1, 0, none⟩), .pointer (some ⟨w3.heap.size, 0, none⟩), .pointer (some ⟨w4.heap.size, 0, none⟩)] ?h00 (Fs.start_olds hla rfl HG.out ⟨⟨_, rfl, fun _ h => Option.some.inj h, by omega, H2.out⟩, fun _ => ⟨fun _ => far_of (by omega), fun _ => far_of (by omega), fun _ => far_of (by omega), trivial⟩, ⟨⟨_, rfl, fun _ h => Option.some.inj h, by omega, H3.out⟩, fun _ => ⟨fun _ => far_of (by omega), fun _ => far_of (by omega), trivial⟩, ⟨⟨_, rfl, fun _ h => Option.some.inj h, by omega, H6.out⟩, fun _ => ⟨fun _ => far_of (by omega), trivial⟩, ⟨⟨_, rfl, fun _ h => Option.some.inj h, by omega, H7.out⟩, fun _ => trivial, trivial⟩⟩⟩⟩) ?hs ?hd
  case h00 => simp only [putO, layL]
  case hs =>
    rintro listed vs Wr hF i hi hun hpre
    obtain ⟨s0, s1, s2, s3, s4, s5, s6, s7, s8, s9, o0, o1, o2, o3, hvs⟩ := exl_of 14 vs (fun l => vs = l) hF.len rfl
    subst hvs
    obtain ⟨eG0, gG0, hO0⟩ := old_of hF (i := 10) rfl (.inl (by decide))
    replace eG0 : o0 = _ := eG0
    subst eG0
    obtain ⟨eG1, gG1, hO1⟩ := old_of hF (i := 11) rfl (.inl (by decide))
    replace eG1 : o1 = _ := eG1
    subst eG1
    obtain ⟨eG2, gG2, hO2⟩ := old_of hF (i := 12) rfl (.inl (by decide))
    replace eG2 : o2 = _ := eG2
    subst eG2
    obtain ⟨eG3, gG3, hO3⟩ := old_of hF (i := 13) rfl (.inl (by decide))
    replace eG3 : o3 = _ := eG3
    subst eG3
    have hge := Nat.zero_le i
    simp only [putO, layL]
    rcases Nat.lt_or_ge i 5 with hlt | hgt
    · replace hi := hlt
      clear hlt
      rcases Nat.lt_or_ge i 2 with hlt | hgt
      · replace hi := hlt
        clear hlt
        rcases Nat.lt_or_ge i 1 with hlt | hgt
        · replace hi := hlt
          clear hlt
          obtain rfl := eqi hi hge
          rw [if_neg (hF.unst (by decide))] at hO3
          have hcc := (two_at (hO3)).1
          have cH70 := hcc.1
          have cH71 := hcc.2
          clear hcc
          refine step_of ⟨some 20, _, _, _, _, _⟩ rfl (fun K' hK => ?_)
          go_simp
          refine hK.out _ _ ⟨_, hF.pure hok hla hpre rfl (Below.refl _ _), ?fr⟩
          case fr => simp only [putO, layL]
        · replace hge : 1 ≤ i := hgt
          clear hgt
          obtain rfl := eqi hi hge
          refine step_of ⟨some 21, _, _, _, _, _⟩ rfl (fun K' hK => ?_)
          go_simp
          refine hK.out _ _ ⟨_, hF.pure hok hla hpre rfl (Below.refl _ _), ?fr⟩
          case fr => simp only [putO, layL]
      · replace hge : 2 ≤ i := hgt
        clear hgt
        rcases Nat.lt_or_ge i 3 with hlt | hgt
        · replace hi := hlt
          clear hlt
          obtain rfl := eqi hi hge
          have p1 := hpre 1 (by kernel_rfl)
          have e1 : s1 = .pointer (some ⟨w3.heap.size, 2, none⟩) := hF.get 1 _ rfl (.inr p1)
          subst e1
          rw [if_neg (hF.unst (by decide))] at hO2
          have hcc := (twelve_at (hO2)).1
          have cH60 := hcc.1
          have cH61 := hcc.2.1
          have cH62 := hcc.2.2.1
          have cH63 := hcc.2.2.2.1
          have cH64 := hcc.2.2.2.2.1
          have cH65 := hcc.2.2.2.2.2.1
          have cH66 := hcc.2.2.2.2.2.2.1
          have cH67 := hcc.2.2.2.2.2.2.2.1
          have cH68 := hcc.2.2.2.2.2.2.2.2.1
          have cH69 := hcc.2.2.2.2.2.2.2.2.2.1
          have cH610 := hcc.2.2.2.2.2.2.2.2.2.2.1
          have cH611 := hcc.2.2.2.2.2.2.2.2.2.2.2
          clear hcc
          refine step_of ⟨some 22, _, _, _, _, _⟩ rfl (fun K' hK => ?_)
          go_simp
          refine hK.out _ _ ⟨_, hF.pure hok hla hpre rfl (Below.refl _ _), ?fr⟩
          case fr => simp only [putO, layL]
        · replace hge : 3 ≤ i := hgt
          clear hgt
          rcases Nat.lt_or_ge i 4 with hlt | hgt
          · replace hi := hlt
            clear hlt
            obtain rfl := eqi hi hge
            rw [if_neg (hF.unst (by decide))] at hO3
            have hcc := (two_at (hO3)).1
            have cH70 := hcc.1
            have cH71 := hcc.2
            clear hcc
            refine step_of ⟨some 23, _, _, _, _, _⟩ rfl (fun K' hK => ?_)
            go_simp
            refine hK.out _ _ ⟨_, hF.pure hok hla hpre rfl (Below.refl _ _), ?fr⟩
            case fr => simp only [putO, layL]
          · replace hge : 4 ≤ i := hgt
            clear hgt
            obtain rfl := eqi hi hge
            refine step_of ⟨some 24, _, _, _, _, _⟩ rfl (fun K' hK => ?_)
            go_simp
            refine hK.out _ _ ⟨_, hF.pure hok hla hpre rfl (Below.refl _ _), ?fr⟩
            case fr => simp only [putO, layL]
    · replace hge : 5 ≤ i := hgt
      clear hgt
      rcases Nat.lt_or_ge i 7 with hlt | hgt
      · replace hi := hlt
        clear hlt
        rcases Nat.lt_or_ge i 6 with hlt | hgt
        · replace hi := hlt
          clear hlt
          obtain rfl := eqi hi hge
          have p4 := hpre 4 (by kernel_rfl)
          have e4 : s4 = .pointer (some ⟨w3.heap.size, 4, none⟩) := hF.get 4 _ rfl (.inr p4)
          subst e4
          rw [if_neg (hF.unst (by decide))] at hO2
          have hcc := (twelve_at (hO2)).1
          have cH60 := hcc.1
          have cH61 := hcc.2.1
          have cH62 := hcc.2.2.1
          have cH63 := hcc.2.2.2.1
          have cH64 := hcc.2.2.2.2.1
          have cH65 := hcc.2.2.2.2.2.1
          have cH66 := hcc.2.2.2.2.2.2.1
          have cH67 := hcc.2.2.2.2.2.2.2.1
          have cH68 := hcc.2.2.2.2.2.2.2.2.1
          have cH69 := hcc.2.2.2.2.2.2.2.2.2.1
          have cH610 := hcc.2.2.2.2.2.2.2.2.2.2.1
          have cH611 := hcc.2.2.2.2.2.2.2.2.2.2.2
          clear hcc
          refine step_of ⟨some 25, _, _, _, _, _⟩ rfl (fun K' hK => ?_)
          go_simp
          refine hK.out _ _ ⟨_, hF.pure hok hla hpre rfl (Below.refl _ _), ?fr⟩
          case fr => simp only [putO, layL]
        · replace hge : 6 ≤ i := hgt
          clear hgt
          obtain rfl := eqi hi hge
          have p3 := hpre 3 (by kernel_rfl)
          have e3 : s3 = .agg #[.string (numS kq), .string (denS kq)] := hF.get 3 _ rfl (.inr p3)
          subst e3
          have p5 := hpre 5 (by kernel_rfl)
          have e5 : s5 = .agg #[.string (numS my), .string (denS my)] := hF.get 5 _ rfl (.inr p5)
          subst e5
          refine step_of ⟨some 26, _, _, _, _, _⟩ rfl (fun K' hK => ?_)
          go_simp
          go_at_call 144
          (with_reducible refine (Qc1.out _ (HE0.out.kept hF.low HP.out)).mono ?_)
          rintro e Wq ⟨rfl, hq⟩
          refine hK.out _ _ ⟨_, hF.pure hok hla hpre rfl hq, ?fr⟩
          case fr => simp only [putO, layL]
      · replace hge : 7 ≤ i := hgt
        clear hgt
        rcases Nat.lt_or_ge i 8 with hlt | hgt
        · replace hi := hlt
          clear hlt
          obtain rfl := eqi hi hge
          have p2 := hpre 2 (by kernel_rfl)
          have e2 : s2 = .agg #[.string (numS mx), .string (denS mx)] := hF.get 2 _ rfl (.inr p2)
          subst e2
          have p6 := hpre 6 (by kernel_rfl)
          have e6 : s6 = .agg #[.string (numS mq), .string (denS mq)] := hF.get 6 _ rfl (.inr p6)
          subst e6
          refine step_of ⟨some 27, _, _, _, _, _⟩ rfl (fun K' hK => ?_)
          go_simp
          go_at_call 147
          (with_reducible refine (Qc2.out _ (HE0.out.kept hF.low HP.out)).mono ?_)
          rintro e Wq ⟨rfl, hq⟩
          refine hK.out _ _ ⟨_, hF.pure hok hla hpre rfl hq, ?fr⟩
          case fr => simp only [putO, layL]
        · replace hge : 8 ≤ i := hgt
          clear hgt
          rcases Nat.lt_or_ge i 9 with hlt | hgt
          · replace hi := hlt
            clear hlt
            obtain rfl := eqi hi hge
            have p0 := hpre 0 (by kernel_rfl)
            have e0 : s0 = .agg #[.string (numS kq), .string (denS kq)] := hF.get 0 _ rfl (.inr p0)
            subst e0
            rw [if_neg (bit_off hun)] at hO0
            have HGB := Lib.hid hO0
            obtain ⟨⟨y0, y1⟩, g0, g1⟩ := two_at HGB.out
            refine step_of ⟨none, _, _, _, _, _⟩ rfl (fun K' hK => ?_)
            go_simp
            refine hK.out _ _ ⟨undef, hF.put hok hna hpre hun rfl undef rfl (.inl (by decide)) rfl (set2_at HGB.out (.string (numS kq)) (.string (denS kq))) (fun k hk => set2_other _ _ (.string (numS kq)) (.string (denS kq)) hk) (put2_below gG0 _ (.string (numS kq)) (.string (denS kq))), ?fr⟩
            case fr => simp only [putO, layL]
          · replace hge : 9 ≤ i := hgt
            clear hgt
            obtain rfl := eqi hi hge
            have p7 := hpre 7 (by kernel_rfl)
            have e7 : s7 = .agg #[.string (numS oq), .string (denS oq)] := hF.get 7 _ rfl (.inr p7)
            subst e7
            rw [if_neg (bit_off hun)] at hO1
            have HGB := Lib.hid hO1
            obtain ⟨⟨y0, y1⟩, g0, g1⟩ := two_at HGB.out
            refine step_of ⟨none, _, _, _, _, _⟩ rfl (fun K' hK => ?_)
            go_simp
            refine hK.out _ _ ⟨undef, hF.put hok hna hpre hun rfl undef rfl (.inl (by decide)) rfl (set2_at HGB.out (.string (numS oq)) (.string (denS oq))) (fun k hk => set2_other _ _ (.string (numS oq)) (.string (denS oq)) hk) (put2_below gG1 _ (.string (numS oq)) (.string (denS oq))), ?fr⟩
            case fr => simp only [putO, layL]
  case hd =>
    rintro listed vs WB hF hall
    obtain ⟨s0, s1, s2, s3, s4, s5, s6, s7, s8, s9, o0, o1, o2, o3, hvs⟩ := exl_of 14 vs (fun l => vs = l) hF.len rfl
    subst hvs
    obtain ⟨eG0, gG0, hO0⟩ := old_of hF (i := 10) rfl (.inl (by decide))
    replace eG0 : o0 = _ := eG0
    subst eG0
    obtain ⟨eG1, gG1, hO1⟩ := old_of hF (i := 11) rfl (.inl (by decide))
    replace eG1 : o1 = _ := eG1
    subst eG1
    obtain ⟨eG2, gG2, hO2⟩ := old_of hF (i := 12) rfl (.inl (by decide))
    replace eG2 : o2 = _ := eG2
    subst eG2
    obtain ⟨eG3, gG3, hO3⟩ := old_of hF (i := 13) rfl (.inl (by decide))
    replace eG3 : o3 = _ := eG3
    subst eG3
    rw [if_pos (hall 8 (by decide))] at hO0
    replace H2 := Lib.hid hO0
    clear hO0
    rw [if_pos (hall 9 (by decide))] at hO1
    replace H3 := Lib.hid hO1
    clear hO1
    rw [if_neg (hF.unst (by decide))] at hO2
    replace H6 := Lib.hid hO2
    clear hO2
    rw [if_neg (hF.unst (by decide))] at hO3
    replace H7 := Lib.hid hO3
    clear hO3
    have HQ := Lib.hid hF.low
    clear hF hall hok hna hla
    simp only [putO, layL]
    replace HG := HQ
    clear HQ
    replace HE := Lib.hid (HE0.out.kept HG.out HP.out)
    clear H4 H5
    obtain ⟨⟨x2_0, x2_1⟩, x2_f0, x2_f1⟩ := two_at H2.out
    obtain ⟨⟨x3_0, x3_1⟩, x3_f0, x3_f1⟩ := two_at H3.out
    go_wp2
    refine bodyPost_ret (v := .tuple #[.agg #[.string (numS kq), .string (denS kq)], .agg #[.string (numS oq), .string (denS oq)]]) (by simp [results, Tryz.results177, go_sem, x2_0, x2_1, x3_0, x3_1]) rfl ⟨rfl, HG.out⟩

set_option linter.unusedSimpArgs false in
set_option linter.unusedVariables false in
set_option maxHeartbeats 4000000 in
set_option maxRecDepth 100000 in
theorem slope_walk (kq oq : Rat) (b g C : Nat) (W : World) (hline : ∀ W', W.grownBy W' (some b) → ArgsAt W' b (some ⟨g, 0, none⟩) 2 C 0 → Env W' → Calls Tryz.prog 177 #[.pointer (some ⟨b, 0, none⟩)] W' fun e w' => e = .returned (.tuple #[.agg #[.string (numS kq), .string (denS kq)], .agg #[.string (numS oq), .string (denS oq)]]) ∧ W'.grownBy w' (some b))
    (ha : ArgsAt W b (some ⟨g, 0, none⟩) 2 C 0) (hne : g ≠ b) (hE : EnvY W) (hP : Past b) :
    Calls Tryz.prog 176 #[.pointer (some ⟨b, 0, none⟩)] W fun e w' => e = .returned (.agg #[.string (numS kq), .string (denS kq)]) ∧ W.grownBy w' (some b) := by
  have TL := Lib.hid hline
  have HP := Lib.hid hP
  have HE0 := Lib.hid hE
  have NG := Lib.hid hne
  have HBW := Lib.hid (heap_lt ha)
  have hb : Below W.heap.size W (W.alloc (.cells #[.string { data := #[] }, .string { data := #[] }] 24)) := ((Below.refl _ _).alloc (Nat.le_refl _) _)
  have HG := Lib.hid (kept_below (b := b) hb)
  have HE := Lib.hid (hE.below hb)
  have HA := Lib.hid (show ArgsAt (W.alloc (.cells #[.string { data := #[] }, .string { data := #[] }] 24)) b (some ⟨g, 0, none⟩) 2 C 0 from keep_block ha hb)
  have H2 : Hid ((W.alloc (.cells #[.string { data := #[] }, .string { data := #[] }] 24)).heap[W.heap.size]? = some (.cells #[.string { data := #[] }, .string { data := #[] }] 24 (0, 0))) := Lib.hid (by
    have h := heap_alloc_new W (.cells #[.string { data := #[] }, .string { data := #[] }] 24)
    exact h)
  have NE2 : Hid (W.heap.size ≠ b) := Lib.hid (by have := HBW.out; omega)
  obtain ⟨W0, hW0⟩ : ∃ Z, (W.alloc (.cells #[.string { data := #[] }, .string { data := #[] }] 24)) = Z := ⟨_, rfl⟩
  rw [hW0] at HG HE HA  H2
  have EW0 := Lib.hid hW0
  clear hW0 hb ha hE hP hne   hline
  go_enter Tryz.func176, Tryz.ntmps176
  go_wp2_with fail
  rw [EW0.out]
  refine (TL.out _ HG.out HA.out HE.out).mono ?_
  rintro e w1 ⟨rfl, hg⟩
  clear HA
  replace H2 := Lib.hid (kept_block H2.out hg NE2.out)
  replace HE := Lib.hid (HE.out.kept hg HP.out)
  replace HG := Lib.hid (kept_trans HG.out hg)
  clear hg
  have lt_2 := heap_lt H2.out
  have geW := HG.out.size
  have L3_2 : Hid (W.heap.size < w1.heap.size) := Lib.hid (by omega)
  have G3 : Hid (W.heap.size ≤ w1.heap.size) := Lib.hid (by omega)
  have NE3 : Hid (w1.heap.size ≠ b) := Lib.hid (by have := HBW.out; omega)
  have hb : Below w1.heap.size w1 (w1.alloc (.cells #[.string (numS kq), .string (denS kq)] 24)) := (Below.refl _ _).alloc (Nat.le_refl _) _
  replace H2 := Lib.hid (keep_block H2.out hb)
  replace HE := Lib.hid (HE.out.below hb)
  replace HG := Lib.hid (kept_trans HG.out (kept_below hb))
  have H3 := Lib.hid (heap_alloc_new w1 (.cells #[.string (numS kq), .string (denS kq)] 24))
  clear hb
  have L4_2 : Hid (W.heap.size < w1.heap.size + 1) := Lib.hid (by omega)
  have L4_3 : Hid (w1.heap.size < w1.heap.size + 1) := Lib.hid (by omega)
  have G4 : Hid (W.heap.size ≤ w1.heap.size + 1) := Lib.hid (by omega)
  have NE4 : Hid (w1.heap.size + 1 ≠ b) := Lib.hid (by have := HBW.out; omega)
  have hb : Below (w1.alloc (.cells #[.string (numS kq), .string (denS kq)] 24)).heap.size (w1.alloc (.cells #[.string (numS kq), .string (denS kq)] 24)) ((w1.alloc (.cells #[.string (numS kq), .string (denS kq)] 24)).alloc (.cells #[.string (numS oq), .string (denS oq)] 24)) := (Below.refl _ _).alloc (Nat.le_refl _) _
  replace H2 := Lib.hid (keep_block H2.out hb)
  replace H3 := Lib.hid (keep_block H3.out hb)
  replace HE := Lib.hid (HE.out.below hb)
  replace HG := Lib.hid (kept_trans HG.out (kept_below hb))
  have H4 : Hid (((w1.alloc (.cells #[.string (numS kq), .string (denS kq)] 24)).alloc (.cells #[.string (numS oq), .string (denS oq)] 24)).heap[w1.heap.size + 1]? = some (.cells #[.string (numS oq), .string (denS oq)] 24 (0, 0))) := Lib.hid (by
    have h := heap_alloc_new (w1.alloc (.cells #[.string (numS kq), .string (denS kq)] 24)) (.cells #[.string (numS oq), .string (denS oq)] 24)
    simp only [World.size_alloc] at h
    exact h)
  clear hb
  clear geW lt_2
  obtain ⟨WL1, hWL1⟩ : ∃ Z, ((w1.alloc (.cells #[.string (numS kq), .string (denS kq)] 24)).alloc (.cells #[.string (numS oq), .string (denS oq)] 24)) = Z := ⟨_, rfl⟩
  rw [hWL1] at HE HG H2 H3 H4
  have EWL1 := Lib.hid hWL1
  clear hWL1
  go_upto_region 2 with fail
  rw [EWL1.out]
  obtain ⟨⟨x3_0, x3_1⟩, x3_f0, x3_f1⟩ := two_at H3.out
  obtain ⟨⟨x2_0, x2_1⟩, x2_f0, x2_f1⟩ := two_at H2.out
  have n2 := set2_at H2.out (.string (numS kq)) (.string (denS kq))
  have hgl : W.grownBy ((WL1.setCell ⟨W.heap.size, 0, none⟩ (.string (numS kq))).setCell ⟨W.heap.size, 1, none⟩ (.string (denS kq))) (some b) := below_only HG.out (put2_below (show W.heap.size ≤ W.heap.size from (by omega)) WL1 (.string (numS kq)) (.string (denS kq)))
  clear HG
  have HG := Lib.hid hgl
  clear hgl
  obtain ⟨⟨r2_0, r2_1⟩, _⟩ := two_at n2
  go_wp2
  refine bodyPost_ret (v := .agg #[.string (numS kq), .string (denS kq)]) (by simp [results, Tryz.results176, go_sem, r2_0, r2_1]) rfl ⟨rfl, HG.out⟩

set_option linter.unusedSimpArgs false in
set_option linter.unusedVariables false in
set_option maxHeartbeats 4000000 in
set_option maxRecDepth 100000 in
theorem icept_walk (kq oq : Rat) (b g C : Nat) (W : World) (hline : ∀ W', W.grownBy W' (some b) → ArgsAt W' b (some ⟨g, 0, none⟩) 2 C 0 → Env W' → Calls Tryz.prog 177 #[.pointer (some ⟨b, 0, none⟩)] W' fun e w' => e = .returned (.tuple #[.agg #[.string (numS kq), .string (denS kq)], .agg #[.string (numS oq), .string (denS oq)]]) ∧ W'.grownBy w' (some b))
    (ha : ArgsAt W b (some ⟨g, 0, none⟩) 2 C 0) (hne : g ≠ b) (hE : EnvY W) (hP : Past b) :
    Calls Tryz.prog 178 #[.pointer (some ⟨b, 0, none⟩)] W fun e w' => e = .returned (.agg #[.string (numS oq), .string (denS oq)]) ∧ W.grownBy w' (some b) := by
  have TL := Lib.hid hline
  have HP := Lib.hid hP
  have HE0 := Lib.hid hE
  have NG := Lib.hid hne
  have HBW := Lib.hid (heap_lt ha)
  have hb : Below W.heap.size W (W.alloc (.cells #[.string { data := #[] }, .string { data := #[] }] 24)) := ((Below.refl _ _).alloc (Nat.le_refl _) _)
  have HG := Lib.hid (kept_below (b := b) hb)
  have HE := Lib.hid (hE.below hb)
  have HA := Lib.hid (show ArgsAt (W.alloc (.cells #[.string { data := #[] }, .string { data := #[] }] 24)) b (some ⟨g, 0, none⟩) 2 C 0 from keep_block ha hb)
  have H2 : Hid ((W.alloc (.cells #[.string { data := #[] }, .string { data := #[] }] 24)).heap[W.heap.size]? = some (.cells #[.string { data := #[] }, .string { data := #[] }] 24 (0, 0))) := Lib.hid (by
    have h := heap_alloc_new W (.cells #[.string { data := #[] }, .string { data := #[] }] 24)
    exact h)
  have NE2 : Hid (W.heap.size ≠ b) := Lib.hid (by have := HBW.out; omega)
  obtain ⟨W0, hW0⟩ : ∃ Z, (W.alloc (.cells #[.string { data := #[] }, .string { data := #[] }] 24)) = Z := ⟨_, rfl⟩
  rw [hW0] at HG HE HA  H2
  have EW0 := Lib.hid hW0
  clear hW0 hb ha hE hP hne   hline
  go_enter Tryz.func178, Tryz.ntmps178
  go_wp2_with fail
  rw [EW0.out]
  refine (TL.out _ HG.out HA.out HE.out).mono ?_
  rintro e w1 ⟨rfl, hg⟩
  clear HA
  replace H2 := Lib.hid (kept_block H2.out hg NE2.out)
  replace HE := Lib.hid (HE.out.kept hg HP.out)
  replace HG := Lib.hid (kept_trans HG.out hg)
  clear hg
  have lt_2 := heap_lt H2.out
  have geW := HG.out.size
  have L3_2 : Hid (W.heap.size < w1.heap.size) := Lib.hid (by omega)
  have G3 : Hid (W.heap.size ≤ w1.heap.size) := Lib.hid (by omega)
  have NE3 : Hid (w1.heap.size ≠ b) := Lib.hid (by have := HBW.out; omega)
  have hb : Below w1.heap.size w1 (w1.alloc (.cells #[.string (numS kq), .string (denS kq)] 24)) := (Below.refl _ _).alloc (Nat.le_refl _) _
  replace H2 := Lib.hid (keep_block H2.out hb)
  replace HE := Lib.hid (HE.out.below hb)
  replace HG := Lib.hid (kept_trans HG.out (kept_below hb))
  have H3 := Lib.hid (heap_alloc_new w1 (.cells #[.string (numS kq), .string (denS kq)] 24))
  clear hb
  have L4_2 : Hid (W.heap.size < w1.heap.size + 1) := Lib.hid (by omega)
  have L4_3 : Hid (w1.heap.size < w1.heap.size + 1) := Lib.hid (by omega)
  have G4 : Hid (W.heap.size ≤ w1.heap.size + 1) := Lib.hid (by omega)
  have NE4 : Hid (w1.heap.size + 1 ≠ b) := Lib.hid (by have := HBW.out; omega)
  have hb : Below (w1.alloc (.cells #[.string (numS kq), .string (denS kq)] 24)).heap.size (w1.alloc (.cells #[.string (numS kq), .string (denS kq)] 24)) ((w1.alloc (.cells #[.string (numS kq), .string (denS kq)] 24)).alloc (.cells #[.string (numS oq), .string (denS oq)] 24)) := (Below.refl _ _).alloc (Nat.le_refl _) _
  replace H2 := Lib.hid (keep_block H2.out hb)
  replace H3 := Lib.hid (keep_block H3.out hb)
  replace HE := Lib.hid (HE.out.below hb)
  replace HG := Lib.hid (kept_trans HG.out (kept_below hb))
  have H4 : Hid (((w1.alloc (.cells #[.string (numS kq), .string (denS kq)] 24)).alloc (.cells #[.string (numS oq), .string (denS oq)] 24)).heap[w1.heap.size + 1]? = some (.cells #[.string (numS oq), .string (denS oq)] 24 (0, 0))) := Lib.hid (by
    have h := heap_alloc_new (w1.alloc (.cells #[.string (numS kq), .string (denS kq)] 24)) (.cells #[.string (numS oq), .string (denS oq)] 24)
    simp only [World.size_alloc] at h
    exact h)
  clear hb
  clear geW lt_2
  obtain ⟨WL1, hWL1⟩ : ∃ Z, ((w1.alloc (.cells #[.string (numS kq), .string (denS kq)] 24)).alloc (.cells #[.string (numS oq), .string (denS oq)] 24)) = Z := ⟨_, rfl⟩
  rw [hWL1] at HE HG H2 H3 H4
  have EWL1 := Lib.hid hWL1
  clear hWL1
  go_upto_region 2 with fail
  rw [EWL1.out]
  obtain ⟨⟨x4_0, x4_1⟩, x4_f0, x4_f1⟩ := two_at H4.out
  obtain ⟨⟨x2_0, x2_1⟩, x2_f0, x2_f1⟩ := two_at H2.out
  have n2 := set2_at H2.out (.string (numS oq)) (.string (denS oq))
  have hgl : W.grownBy ((WL1.setCell ⟨W.heap.size, 0, none⟩ (.string (numS oq))).setCell ⟨W.heap.size, 1, none⟩ (.string (denS oq))) (some b) := below_only HG.out (put2_below (show W.heap.size ≤ W.heap.size from (by omega)) WL1 (.string (numS oq)) (.string (denS oq)))
  clear HG
  have HG := Lib.hid hgl
  clear hgl
  obtain ⟨⟨r2_0, r2_1⟩, _⟩ := two_at n2
  go_wp2
  refine bodyPost_ret (v := .agg #[.string (numS oq), .string (denS oq)]) (by simp [results, Tryz.results178, go_sem, r2_0, r2_1]) rfl ⟨rfl, HG.out⟩

set_option linter.unusedVariables false in
/-- what the operations of region 3 yield -/
def fcast_walkKs3 (z kq oq mq r : Rat) (W w1 w2 : World) : List RK :=
  [.pure (.agg #[.string (numS oq), .string (denS oq)]),
   .pure (.agg #[.string (numS z), .string (denS z)]),
   .pure (.agg #[.string (numS kq), .string (denS kq)]),
   .pure (.agg #[.string (numS mq), .string (denS mq)]),
   .pure (.agg #[.string (numS r), .string (denS r)]),
   .put 6,
   .box (some (W.heap.size)) #[.string { data := #[] }, .string { data := #[] }] #[.string (numS r), .string (denS r)] 24 5,
   .box (some (w1.heap.size)) #[.string (numS z), .string (denS z)] #[.string (numS z), .string (denS z)] 24 10,
   .box (some (w2.heap.size)) #[.string (numS kq), .string (denS kq)] #[.string (numS kq), .string (denS kq)] 24 10,
   .box (some (w2.heap.size + 1)) #[.string (numS oq), .string (denS oq)] #[.string (numS oq), .string (denS oq)] 24 10]
set_option linter.unusedSimpArgs false in
set_option linter.unusedVariables false in
set_option maxHeartbeats 4000000 in
set_option maxRecDepth 100000 in
theorem fcast_walk (z kq oq mq r : Rat) (b g C : Nat) (W : World) (hq : fits z = true)
    (hline : ∀ W', W.grownBy W' (some b) → ArgsAt W' b (some ⟨g, 0, none⟩) 3 C 1 → Env W' → Calls Tryz.prog 177 #[.pointer (some ⟨b, 0, none⟩)] W' fun e w' => e = .returned (.tuple #[.agg #[.string (numS kq), .string (denS kq)], .agg #[.string (numS oq), .string (denS oq)]]) ∧ W'.grownBy w' (some b))
    (c0 : Fun2 144 (.agg #[.string (numS z), .string (denS z)]) (.agg #[.string (numS kq), .string (denS kq)]) (.agg #[.string (numS mq), .string (denS mq)]))
    (c1 : Fun2 140 (.agg #[.string (numS oq), .string (denS oq)]) (.agg #[.string (numS mq), .string (denS mq)]) (.agg #[.string (numS r), .string (denS r)]))
    (ha : ArgsAt W b (some ⟨g, 0, none⟩) 3 C 0) (hne : g ≠ b) (hc0 : NumCells W g (0 + 0 * 9) z) (hE : EnvY W) (hP : Past b) :
    Calls Tryz.prog 179 #[.pointer (some ⟨b, 0, none⟩)] W fun e w' => e = .returned (.agg #[.string (numS r), .string (denS r)]) ∧ W.grownBy w' (some b) := by
  have TA0 := Lib.hid (fun W' ga gc ge => argNum_any b g 0 3 C 0 z W' ga (by decide) (by decide) hne gc hq ge hP)
  rw [fracV_is z] at TA0
  have TL := Lib.hid hline
  have Qc0 := Lib.hid c0
  have Qc1 := Lib.hid c1
  unfold Fun2 at Qc0 Qc1
  have HP := Lib.hid hP
  have HE0 := Lib.hid hE
  have NG := Lib.hid hne
  have HBW := Lib.hid (heap_lt ha)
  have hb : Below W.heap.size W (W.alloc (.cells #[.string { data := #[] }, .string { data := #[] }] 24)) := ((Below.refl _ _).alloc (Nat.le_refl _) _)
  have HG := Lib.hid (kept_below (b := b) hb)
  have HE := Lib.hid (hE.below hb)
  have HA := Lib.hid (show ArgsAt (W.alloc (.cells #[.string { data := #[] }, .string { data := #[] }] 24)) b (some ⟨g, 0, none⟩) 3 C 0 from keep_block ha hb)
  have HC0 := Lib.hid (NumCells.below hc0 hb)
  have H2 : Hid ((W.alloc (.cells #[.string { data := #[] }, .string { data := #[] }] 24)).heap[W.heap.size]? = some (.cells #[.string { data := #[] }, .string { data := #[] }] 24 (0, 0))) := Lib.hid (by
    have h := heap_alloc_new W (.cells #[.string { data := #[] }, .string { data := #[] }] 24)
    exact h)
  have NE2 : Hid (W.heap.size ≠ b) := Lib.hid (by have := HBW.out; omega)
  obtain ⟨W0, hW0⟩ : ∃ Z, (W.alloc (.cells #[.string { data := #[] }, .string { data := #[] }] 24)) = Z := ⟨_, rfl⟩
  rw [hW0] at HG HE HA HC0 H2
  have EW0 := Lib.hid hW0
  clear hW0 hb ha hE hP hne hc0  hq hline c0 c1
  go_enter Tryz.func179, Tryz.ntmps179
  go_wp2_with fail
  rw [EW0.out]
  refine (TA0.out _ HA.out HC0.out HE.out).mono ?_
  rintro e w1 ⟨rfl, ha, hg⟩
  replace HA := Lib.hid ha
  clear HC0
  replace H2 := Lib.hid (kept_block H2.out hg NE2.out)
  replace HE := Lib.hid (HE.out.kept hg HP.out)
  replace HG := Lib.hid (kept_trans HG.out hg)
  clear ha hg
  have lt_2 := heap_lt H2.out
  have geW := HG.out.size
  have L3_2 : Hid (W.heap.size < w1.heap.size) := Lib.hid (by omega)
  have G3 : Hid (W.heap.size ≤ w1.heap.size) := Lib.hid (by omega)
  have NE3 : Hid (w1.heap.size ≠ b) := Lib.hid (by have := HBW.out; omega)
  have hb : Below w1.heap.size w1 (w1.alloc (.cells #[.string (numS z), .string (denS z)] 24)) := (Below.refl _ _).alloc (Nat.le_refl _) _
  replace H2 := Lib.hid (keep_block H2.out hb)
  replace HA := Lib.hid (keep_block HA.out hb)
  replace HE := Lib.hid (HE.out.below hb)
  replace HG := Lib.hid (kept_trans HG.out (kept_below hb))
  have H3 := Lib.hid (heap_alloc_new w1 (.cells #[.string (numS z), .string (denS z)] 24))
  clear hb
  clear geW lt_2
  obtain ⟨WL1, hWL1⟩ : ∃ Z, (w1.alloc (.cells #[.string (numS z), .string (denS z)] 24)) = Z := ⟨_, rfl⟩
  rw [hWL1] at HE HG H2 H3 HA
  have EWL1 := Lib.hid hWL1
  clear hWL1
  go_upto_region 2 with fail
  rw [EWL1.out]
  go_wp2_with fail
  refine (TL.out _ HG.out HA.out HE.out).mono ?_
  rintro e w2 ⟨rfl, hg⟩
  clear HA
  replace H2 := Lib.hid (kept_block H2.out hg NE2.out)
  replace H3 := Lib.hid (kept_block H3.out hg NE3.out)
  replace HE := Lib.hid (HE.out.kept hg HP.out)
  replace HG := Lib.hid (kept_trans HG.out hg)
  clear hg
  have lt_2 := heap_lt H2.out
  have lt_3 := heap_lt H3.out
  have geW := HG.out.size
  have L4_2 : Hid (W.heap.size < w2.heap.size) := Lib.hid (by omega)
  have L4_3 : Hid (w1.heap.size < w2.heap.size) := Lib.hid (by omega)
  have G4 : Hid (W.heap.size ≤ w2.heap.size) := Lib.hid (by omega)
  have NE4 : Hid (w2.heap.size ≠ b) := Lib.hid (by have := HBW.out; omega)
  have hb : Below w2.heap.size w2 (w2.alloc (.cells #[.string (numS kq), .string (denS kq)] 24)) := (Below.refl _ _).alloc (Nat.le_refl _) _
  replace H2 := Lib.hid (keep_block H2.out hb)
  replace H3 := Lib.hid (keep_block H3.out hb)
  replace HE := Lib.hid (HE.out.below hb)
  replace HG := Lib.hid (kept_trans HG.out (kept_below hb))
  have H4 := Lib.hid (heap_alloc_new w2 (.cells #[.string (numS kq), .string (denS kq)] 24))
  clear hb
  have L5_2 : Hid (W.heap.size < w2.heap.size + 1) := Lib.hid (by omega)
  have L5_3 : Hid (w1.heap.size < w2.heap.size + 1) := Lib.hid (by omega)
  have L5_4 : Hid (w2.heap.size < w2.heap.size + 1) := Lib.hid (by omega)
  have G5 : Hid (W.heap.size ≤ w2.heap.size + 1) := Lib.hid (by omega)
  have NE5 : Hid (w2.heap.size + 1 ≠ b) := Lib.hid (by have := HBW.out; omega)
  have hb : Below (w2.alloc (.cells #[.string (numS kq), .string (denS kq)] 24)).heap.size (w2.alloc (.cells #[.string (numS kq), .string (denS kq)] 24)) ((w2.alloc (.cells #[.string (numS kq), .string (denS kq)] 24)).alloc (.cells #[.string (numS oq), .string (denS oq)] 24)) := (Below.refl _ _).alloc (Nat.le_refl _) _
  replace H2 := Lib.hid (keep_block H2.out hb)
  replace H3 := Lib.hid (keep_block H3.out hb)
  replace H4 := Lib.hid (keep_block H4.out hb)
  replace HE := Lib.hid (HE.out.below hb)
  replace HG := Lib.hid (kept_trans HG.out (kept_below hb))
  have H5 : Hid (((w2.alloc (.cells #[.string (numS kq), .string (denS kq)] 24)).alloc (.cells #[.string (numS oq), .string (denS oq)] 24)).heap[w2.heap.size + 1]? = some (.cells #[.string (numS oq), .string (denS oq)] 24 (0, 0))) := Lib.hid (by
    have h := heap_alloc_new (w2.alloc (.cells #[.string (numS kq), .string (denS kq)] 24)) (.cells #[.string (numS oq), .string (denS oq)] 24)
    simp only [World.size_alloc] at h
    exact h)
  clear hb
  clear geW lt_2 lt_3
  obtain ⟨WL2, hWL2⟩ : ∃ Z, ((w2.alloc (.cells #[.string (numS kq), .string (denS kq)] 24)).alloc (.cells #[.string (numS oq), .string (denS oq)] 24)) = Z := ⟨_, rfl⟩
  rw [hWL2] at HE HG H2 H3 H4 H5
  have EWL2 := Lib.hid hWL2
  clear hWL2
  go_upto_region 3 with fail
  rw [EWL2.out]
  go_wp2_with fail
  have := L3_2.out
  have := L4_2.out
  have := L4_3.out
  have := L5_2.out
  have := L5_3.out
  have := L5_4.out
  have := HG.out.size
  have := G3.out
  have := G4.out
  have := G5.out
  have hok : okB 6 (fcast_walkKs3 z kq oq mq r W w1 w2) = true := by kernel_rfl
  have hna := noAny_of (ks := (fcast_walkKs3 z kq oq mq r W w1 w2)) (by kernel_rfl)
  have hla := lasts_of hna
  refine wp_region_facts (row := (some b)) (w := W) 6 (fcast_walkKs3 z kq oq mq r W w1 w2) [some 13, some 14, some 15, some 16, some 17, none] (by kernel_rfl) (by kernel_rfl) rfl [undef, undef, undef, undef, undef, undef, .pointer (some ⟨W.heap.size, 0, none⟩), .pointer (some ⟨w1.heap.size, 0, none⟩), .pointer (some ⟨w2.heap.size, 0, none⟩), .pointer (some ⟨w2.heap.size + 1, 0, none⟩)] ?h00 (Fs.start_olds hla rfl HG.out ⟨⟨_, rfl, fun _ h => Option.some.inj h, by omega, H2.out⟩, fun _ => ⟨fun _ => far_of (by omega), fun _ => far_of (by omega), fun _ => far_of (by omega), trivial⟩, ⟨⟨_, rfl, fun _ h => Option.some.inj h, by omega, H3.out⟩, fun _ => ⟨fun _ => far_of (by omega), fun _ => far_of (by omega), trivial⟩, ⟨⟨_, rfl, fun _ h => Option.some.inj h, by omega, H4.out⟩, fun _ => ⟨fun _ => far_of (by omega), trivial⟩, ⟨⟨_, rfl, fun _ h => Option.some.inj h, by omega, H5.out⟩, fun _ => trivial, trivial⟩⟩⟩⟩) ?hs ?hd
  case h00 => simp only [putO, layL]
  case hs =>
    rintro listed vs Wr hF i hi hun hpre
    obtain ⟨s0, s1, s2, s3, s4, s5, o0, o1, o2, o3, hvs⟩ := exl_of 10 vs (fun l => vs = l) hF.len rfl
    subst hvs
    obtain ⟨eG0, gG0, hO0⟩ := old_of hF (i := 6) rfl (.inl (by decide))
    replace eG0 : o0 = _ := eG0
    subst eG0
    obtain ⟨eG1, gG1, hO1⟩ := old_of hF (i := 7) rfl (.inl (by decide))
    replace eG1 : o1 = _ := eG1
    subst eG1
    obtain ⟨eG2, gG2, hO2⟩ := old_of hF (i := 8) rfl (.inl (by decide))
    replace eG2 : o2 = _ := eG2
    subst eG2
    obtain ⟨eG3, gG3, hO3⟩ := old_of hF (i := 9) rfl (.inl (by decide))
    replace eG3 : o3 = _ := eG3
    subst eG3
    have hge := Nat.zero_le i
    simp only [putO, layL]
    rcases Nat.lt_or_ge i 3 with hlt | hgt
    · replace hi := hlt
      clear hlt
      rcases Nat.lt_or_ge i 1 with hlt | hgt
      · replace hi := hlt
        clear hlt
        obtain rfl := eqi hi hge
        rw [if_neg (hF.unst (by decide))] at hO3
        have hcc := (two_at (hO3)).1
        have cH50 := hcc.1
        have cH51 := hcc.2
        clear hcc
        refine step_of ⟨some 13, _, _, _, _, _⟩ rfl (fun K' hK => ?_)
        go_simp
        refine hK.out _ _ ⟨_, hF.pure hok hla hpre rfl (Below.refl _ _), ?fr⟩
        case fr => simp only [putO, layL]
      · replace hge : 1 ≤ i := hgt
        clear hgt
        rcases Nat.lt_or_ge i 2 with hlt | hgt
        · replace hi := hlt
          clear hlt
          obtain rfl := eqi hi hge
          rw [if_neg (hF.unst (by decide))] at hO1
          have hcc := (two_at (hO1)).1
          have cH30 := hcc.1
          have cH31 := hcc.2
          clear hcc
          refine step_of ⟨some 14, _, _, _, _, _⟩ rfl (fun K' hK => ?_)
          go_simp
          refine hK.out _ _ ⟨_, hF.pure hok hla hpre rfl (Below.refl _ _), ?fr⟩
          case fr => simp only [putO, layL]
        · replace hge : 2 ≤ i := hgt
          clear hgt
          obtain rfl := eqi hi hge
          rw [if_neg (hF.unst (by decide))] at hO2
          have hcc := (two_at (hO2)).1
          have cH40 := hcc.1
          have cH41 := hcc.2
          clear hcc
          refine step_of ⟨some 15, _, _, _, _, _⟩ rfl (fun K' hK => ?_)
          go_simp
          refine hK.out _ _ ⟨_, hF.pure hok hla hpre rfl (Below.refl _ _), ?fr⟩
          case fr => simp only [putO, layL]
    · replace hge : 3 ≤ i := hgt
      clear hgt
      rcases Nat.lt_or_ge i 4 with hlt | hgt
      · replace hi := hlt
        clear hlt
        obtain rfl := eqi hi hge
        have p1 := hpre 1 (by kernel_rfl)
        have e1 : s1 = .agg #[.string (numS z), .string (denS z)] := hF.get 1 _ rfl (.inr p1)
        subst e1
        have p2 := hpre 2 (by kernel_rfl)
        have e2 : s2 = .agg #[.string (numS kq), .string (denS kq)] := hF.get 2 _ rfl (.inr p2)
        subst e2
        refine step_of ⟨some 16, _, _, _, _, _⟩ rfl (fun K' hK => ?_)
        go_simp
        go_at_call 144
        (with_reducible refine (Qc0.out _ (HE0.out.kept hF.low HP.out)).mono ?_)
        rintro e Wq ⟨rfl, hq⟩
        refine hK.out _ _ ⟨_, hF.pure hok hla hpre rfl hq, ?fr⟩
        case fr => simp only [putO, layL]
      · replace hge : 4 ≤ i := hgt
        clear hgt
        rcases Nat.lt_or_ge i 5 with hlt | hgt
        · replace hi := hlt
          clear hlt
          obtain rfl := eqi hi hge
          have p0 := hpre 0 (by kernel_rfl)
          have e0 : s0 = .agg #[.string (numS oq), .string (denS oq)] := hF.get 0 _ rfl (.inr p0)
          subst e0
          have p3 := hpre 3 (by kernel_rfl)
          have e3 : s3 = .agg #[.string (numS mq), .string (denS mq)] := hF.get 3 _ rfl (.inr p3)
          subst e3
          refine step_of ⟨some 17, _, _, _, _, _⟩ rfl (fun K' hK => ?_)
          go_simp
          go_at_call 140
          (with_reducible refine (Qc1.out _ (HE0.out.kept hF.low HP.out)).mono ?_)
          rintro e Wq ⟨rfl, hq⟩
          refine hK.out _ _ ⟨_, hF.pure hok hla hpre rfl hq, ?fr⟩
          case fr => simp only [putO, layL]
        · replace hge : 5 ≤ i := hgt
          clear hgt
          obtain rfl := eqi hi hge
          have p4 := hpre 4 (by kernel_rfl)
          have e4 : s4 = .agg #[.string (numS r), .string (denS r)] := hF.get 4 _ rfl (.inr p4)
          subst e4
          rw [if_neg (bit_off hun)] at hO0
          have HGB := Lib.hid hO0
          obtain ⟨⟨y0, y1⟩, g0, g1⟩ := two_at HGB.out
          refine step_of ⟨none, _, _, _, _, _⟩ rfl (fun K' hK => ?_)
          go_simp
          refine hK.out _ _ ⟨undef, hF.put hok hna hpre hun rfl undef rfl (.inl (by decide)) rfl (set2_at HGB.out (.string (numS r)) (.string (denS r))) (fun k hk => set2_other _ _ (.string (numS r)) (.string (denS r)) hk) (put2_below gG0 _ (.string (numS r)) (.string (denS r))), ?fr⟩
          case fr => simp only [putO, layL]
  case hd =>
    rintro listed vs WB hF hall
    obtain ⟨s0, s1, s2, s3, s4, s5, o0, o1, o2, o3, hvs⟩ := exl_of 10 vs (fun l => vs = l) hF.len rfl
    subst hvs
    obtain ⟨eG0, gG0, hO0⟩ := old_of hF (i := 6) rfl (.inl (by decide))
    replace eG0 : o0 = _ := eG0
    subst eG0
    obtain ⟨eG1, gG1, hO1⟩ := old_of hF (i := 7) rfl (.inl (by decide))
    replace eG1 : o1 = _ := eG1
    subst eG1
    obtain ⟨eG2, gG2, hO2⟩ := old_of hF (i := 8) rfl (.inl (by decide))
    replace eG2 : o2 = _ := eG2
    subst eG2
    obtain ⟨eG3, gG3, hO3⟩ := old_of hF (i := 9) rfl (.inl (by decide))
    replace eG3 : o3 = _ := eG3
    subst eG3
    rw [if_pos (hall 5 (by decide))] at hO0
    replace H2 := Lib.hid hO0
    clear hO0
    rw [if_neg (hF.unst (by decide))] at hO1
    replace H3 := Lib.hid hO1
    clear hO1
    rw [if_neg (hF.unst (by decide))] at hO2
    replace H4 := Lib.hid hO2
    clear hO2
    rw [if_neg (hF.unst (by decide))] at hO3
    replace H5 := Lib.hid hO3
    clear hO3
    have HQ := Lib.hid hF.low
    clear hF hall hok hna hla
    simp only [putO, layL]
    replace HG := HQ
    clear HQ
    replace HE := Lib.hid (HE0.out.kept HG.out HP.out)
    obtain ⟨⟨x2_0, x2_1⟩, x2_f0, x2_f1⟩ := two_at H2.out
    go_wp2
    refine bodyPost_ret (v := .agg #[.string (numS r), .string (denS r)]) (by simp [results, Tryz.results179, go_sem, x2_0, x2_1]) rfl ⟨rfl, HG.out⟩

set_option linter.unusedVariables false in
/-- what the operations of region 2 yield -/
def rsq_walkKs2 (mx my sxx syy sxy kq mq oq : Rat) (n c1 c2 : Nat) (A1 A2 : Option Addr) (W w3 : World) : List RK :=
  [.pure (.pointer (some ⟨w3.heap.size, 10, none⟩)),
   .pure (.agg #[.string (numS sxy), .string (denS sxy)]),
   .pure (.pointer (some ⟨w3.heap.size, 10, none⟩)),
   .pure (.agg #[.string (numS sxy), .string (denS sxy)]),
   .pure (.agg #[.string (numS kq), .string (denS kq)]),
   .pure (.pointer (some ⟨w3.heap.size, 6, none⟩)),
   .pure (.agg #[.string (numS sxx), .string (denS sxx)]),
   .pure (.pointer (some ⟨w3.heap.size, 8, none⟩)),
   .pure (.agg #[.string (numS syy), .string (denS syy)]),
   .pure (.agg #[.string (numS mq), .string (denS mq)]),
   .pure (.agg #[.string (numS oq), .string (denS oq)]),
   .put 12,
   .box (some (W.heap.size)) #[.string { data := #[] }, .string { data := #[] }] #[.string (numS oq), .string (denS oq)] 24 11,
   .box (some (w3.heap.size)) #[.slice A1 n c1, .slice A2 n c2, .string (numS mx), .string (denS mx), .string (numS my), .string (denS my), .string (numS sxx), .string (denS sxx), .string (numS syy), .string (denS syy), .string (numS sxy), .string (denS sxy)] #[.slice A1 n c1, .slice A2 n c2, .string (numS mx), .string (denS mx), .string (numS my), .string (denS my), .string (numS sxx), .string (denS sxx), .string (numS syy), .string (denS syy), .string (numS sxy), .string (denS sxy)] 147 14]
set_option linter.unusedSimpArgs false in
set_option linter.unusedVariables false in
set_option maxHeartbeats 4000000 in
set_option maxRecDepth 100000 in
theorem rsq_walk (ra sa rb sb : Int) (ga gb la lb Ca Cb n : Nat) (mx my sxx syy sxy kq mq oq : Rat) (b g C : Nat) (W : World) (hread : ∀ W', W.grownBy W' (some b) → Env W' → Calls Tryz.prog 175 #[.agg #[.int .i64 5, .string { data := #[] }, .string { data := #[] }, .string { data := #[] }, .bool false, .int .i64 0, .int .i64 ra, .int .i64 sa, .slice (some ⟨ga, 0, none⟩) la Ca], .agg #[.int .i64 5, .string { data := #[] }, .string { data := #[] }, .string { data := #[] }, .bool false, .int .i64 0, .int .i64 rb, .int .i64 sb, .slice (some ⟨gb, 0, none⟩) lb Cb]] W' fun e w' => (∃ A1 c1 A2 c2, e = .returned (.agg #[.slice A1 n c1, .slice A2 n c2, .string (numS mx), .string (denS mx), .string (numS my), .string (denS my), .string (numS sxx), .string (denS sxx), .string (numS syy), .string (denS syy), .string (numS sxy), .string (denS sxy)])) ∧ Below W'.heap.size W' w')
    (c0 : Fun2 144 (.agg #[.string (numS sxy), .string (denS sxy)]) (.agg #[.string (numS sxy), .string (denS sxy)]) (.agg #[.string (numS kq), .string (denS kq)]))
    (c1 : Fun2 144 (.agg #[.string (numS sxx), .string (denS sxx)]) (.agg #[.string (numS syy), .string (denS syy)]) (.agg #[.string (numS mq), .string (denS mq)]))
    (c2 : Fun2 51 (.agg #[.string (numS kq), .string (denS kq)]) (.agg #[.string (numS mq), .string (denS mq)]) (.agg #[.string (numS oq), .string (denS oq)]))
    (ha : ArgsAt W b (some ⟨g, 0, none⟩) 2 C 0) (hne : g ≠ b) (hc0 : CellsAt W g (0 + 0 * 9) (.int .i64 5) (.string { data := #[] }) (.string { data := #[] }) (.string { data := #[] }) (.bool false) (.int .i64 0) (.int .i64 ra) (.int .i64 sa) (.slice (some ⟨ga, 0, none⟩) la Ca)) (hc1 : CellsAt W g (0 + 1 * 9) (.int .i64 5) (.string { data := #[] }) (.string { data := #[] }) (.string { data := #[] }) (.bool false) (.int .i64 0) (.int .i64 rb) (.int .i64 sb) (.slice (some ⟨gb, 0, none⟩) lb Cb)) (hE : EnvY W) (hP : Past b) :
    Calls Tryz.prog 180 #[.pointer (some ⟨b, 0, none⟩)] W fun e w' => e = .returned (.agg #[.string (numS oq), .string (denS oq)]) ∧ W.grownBy w' (some b) := by
  have TA0 := Lib.hid (fun W' ga' gc => value_any b g 0 2 C (0) 5 { data := #[] } { data := #[] } { data := #[] } false 0 ra sa (some ⟨ga, 0, none⟩) la Ca W' ga' (by omega) (by omega) hne gc)
  have TA1 := Lib.hid (fun W' ga' gc => value_any b g 0 2 C (0 + 1) 5 { data := #[] } { data := #[] } { data := #[] } false 0 rb sb (some ⟨gb, 0, none⟩) lb Cb W' ga' (by omega) (by omega) hne gc)
  have QR := Lib.hid hread
  have Qc0 := Lib.hid c0
  have Qc1 := Lib.hid c1
  have Qc2 := Lib.hid c2
  unfold Fun2 at Qc0 Qc1 Qc2
  have HP := Lib.hid hP
  have HE0 := Lib.hid hE
  have NG := Lib.hid hne
  have HBW := Lib.hid (heap_lt ha)
  have hb : Below W.heap.size W (W.alloc (.cells #[.string { data := #[] }, .string { data := #[] }] 24)) := ((Below.refl _ _).alloc (Nat.le_refl _) _)
  have HG := Lib.hid (kept_below (b := b) hb)
  have HE := Lib.hid (hE.below hb)
  have HA := Lib.hid (show ArgsAt (W.alloc (.cells #[.string { data := #[] }, .string { data := #[] }] 24)) b (some ⟨g, 0, none⟩) 2 C 0 from keep_block ha hb)
  have HC0 := Lib.hid (CellsAt.below hc0 hb)
  have HC1 := Lib.hid (CellsAt.below hc1 hb)
  have H2 : Hid ((W.alloc (.cells #[.string { data := #[] }, .string { data := #[] }] 24)).heap[W.heap.size]? = some (.cells #[.string { data := #[] }, .string { data := #[] }] 24 (0, 0))) := Lib.hid (by
    have h := heap_alloc_new W (.cells #[.string { data := #[] }, .string { data := #[] }] 24)
    exact h)
  have NE2 : Hid (W.heap.size ≠ b) := Lib.hid (by have := HBW.out; omega)
  obtain ⟨W0, hW0⟩ : ∃ Z, (W.alloc (.cells #[.string { data := #[] }, .string { data := #[] }] 24)) = Z := ⟨_, rfl⟩
  rw [hW0] at HG HE HA HC0 HC1 H2
  have EW0 := Lib.hid hW0
  clear hW0 hb ha hE hP hne hc0 hc1  hread c0 c1 c2
  go_enter Tryz.func180, Tryz.ntmps180
  go_wp2_with fail
  rw [EW0.out]
  refine (TA0.out _ HA.out HC0.out).mono ?_
  rintro e w1 ⟨rfl, ha, hg⟩
  replace HA := Lib.hid ha
  clear HC0
  replace H2 := Lib.hid (kept_block H2.out hg NE2.out)
  replace HC1 := Lib.hid (HC1.out.kept hg NG.out)
  replace HE := Lib.hid (HE.out.kept hg HP.out)
  replace HG := Lib.hid (kept_trans HG.out hg)
  clear ha hg
  go_wp2_with fail
  refine (TA1.out _ HA.out HC1.out).mono ?_
  rintro e w2 ⟨rfl, ha, hg⟩
  replace HA := Lib.hid ha
  clear HC1
  replace H2 := Lib.hid (kept_block H2.out hg NE2.out)
  replace HE := Lib.hid (HE.out.kept hg HP.out)
  replace HG := Lib.hid (kept_trans HG.out hg)
  clear ha hg
  go_wp2_with fail
  refine ((QR.out _ HG.out HE.out)).mono ?_
  rintro e w3 ⟨⟨A1, c1, A2, c2, rfl⟩, hb⟩
  replace H2 := Lib.hid (keep_block H2.out hb)
  replace HA := Lib.hid (keep_block HA.out hb)
  replace HE := Lib.hid (HE.out.below hb)
  replace HG := Lib.hid (kept_trans HG.out (kept_below hb))
  clear hb
  have lt_2 := heap_lt H2.out
  have geW := HG.out.size
  have L3_2 : Hid (W.heap.size < w3.heap.size) := Lib.hid (by omega)
  have G3 : Hid (W.heap.size ≤ w3.heap.size) := Lib.hid (by omega)
  have NE3 : Hid (w3.heap.size ≠ b) := Lib.hid (by have := HBW.out; omega)
  have hb : Below w3.heap.size w3 (w3.alloc (.cells #[.slice A1 n c1, .slice A2 n c2, .string (numS mx), .string (denS mx), .string (numS my), .string (denS my), .string (numS sxx), .string (denS sxx), .string (numS syy), .string (denS syy), .string (numS sxy), .string (denS sxy)] 147)) := (Below.refl _ _).alloc (Nat.le_refl _) _
  replace H2 := Lib.hid (keep_block H2.out hb)
  replace HA := Lib.hid (keep_block HA.out hb)
  replace HE := Lib.hid (HE.out.below hb)
  replace HG := Lib.hid (kept_trans HG.out (kept_below hb))
  have H3 := Lib.hid (heap_alloc_new w3 (.cells #[.slice A1 n c1, .slice A2 n c2, .string (numS mx), .string (denS mx), .string (numS my), .string (denS my), .string (numS sxx), .string (denS sxx), .string (numS syy), .string (denS syy), .string (numS sxy), .string (denS sxy)] 147))
  clear hb
  clear geW lt_2
  obtain ⟨WL1, hWL1⟩ : ∃ Z, (w3.alloc (.cells #[.slice A1 n c1, .slice A2 n c2, .string (numS mx), .string (denS mx), .string (numS my), .string (denS my), .string (numS sxx), .string (denS sxx), .string (numS syy), .string (denS syy), .string (numS sxy), .string (denS sxy)] 147)) = Z := ⟨_, rfl⟩
  rw [hWL1] at HE HG H2 H3 HA
  have EWL1 := Lib.hid hWL1
  clear hWL1
  clear HA 
  go_upto_region 2 with fail
  rw [EWL1.out]
  go_wp2_with fail
  have := L3_2.out
  have := HG.out.size
  have := G3.out
  have hok : okB 12 (rsq_walkKs2 mx my sxx syy sxy kq mq oq n c1 c2 A1 A2 W w3) = true := by kernel_rfl
  have hna := noAny_of (ks := (rsq_walkKs2 mx my sxx syy sxy kq mq oq n c1 c2 A1 A2 W w3)) (by kernel_rfl)
  have hla := lasts_of hna
  refine wp_region_facts (row := (some b)) (w := W) 12 (rsq_walkKs2 mx my sxx syy sxy kq mq oq n c1 c2 A1 A2 W w3) [some 9, some 10, some 11, some 12, some 13, some 14, some 15, some 16, some 17, some 18, some 19, none] (by kernel_rfl) (by kernel_rfl) rfl [undef, undef, undef, undef, undef, undef, undef, undef, undef, undef, undef, undef, .pointer (some ⟨W.heap.size, 0, none⟩), .pointer (some ⟨w3.heap.size, 0, none⟩)] ?h00 (Fs.start_olds hla rfl HG.out ⟨⟨_, rfl, fun _ h => Option.some.inj h, by omega, H2.out⟩, fun _ => ⟨fun _ => far_of (by omega), trivial⟩, ⟨⟨_, rfl, fun _ h => Option.some.inj h, by omega, H3.out⟩, fun _ => trivial, trivial⟩⟩) ?hs ?hd
  case h00 => simp only [putO, layL]
  case hs =>
    rintro listed vs Wr hF i hi hun hpre
    obtain ⟨s0, s1, s2, s3, s4, s5, s6, s7, s8, s9, s10, s11, o0, o1, hvs⟩ := exl_of 14 vs (fun l => vs = l) hF.len rfl
    subst hvs
    obtain ⟨eG0, gG0, hO0⟩ := old_of hF (i := 12) rfl (.inl (by decide))
    replace eG0 : o0 = _ := eG0
    subst eG0
    obtain ⟨eG1, gG1, hO1⟩ := old_of hF (i := 13) rfl (.inl (by decide))
    replace eG1 : o1 = _ := eG1
    subst eG1
    have hge := Nat.zero_le i
    simp only [putO, layL]
    rcases Nat.lt_or_ge i 6 with hlt | hgt
    · replace hi := hlt
      clear hlt
      rcases Nat.lt_or_ge i 3 with hlt | hgt
      · replace hi := hlt
        clear hlt
        rcases Nat.lt_or_ge i 1 with hlt | hgt
        · replace hi := hlt
          clear hlt
          obtain rfl := eqi hi hge
          refine step_of ⟨some 9, _, _, _, _, _⟩ rfl (fun K' hK => ?_)
          go_simp
          refine hK.out _ _ ⟨_, hF.pure hok hla hpre rfl (Below.refl _ _), ?fr⟩
          case fr => simp only [putO, layL]
        · replace hge : 1 ≤ i := hgt
          clear hgt
          rcases Nat.lt_or_ge i 2 with hlt | hgt
          · replace hi := hlt
            clear hlt
            obtain rfl := eqi hi hge
            have p0 := hpre 0 (by kernel_rfl)
            have e0 : s0 = .pointer (some ⟨w3.heap.size, 10, none⟩) := hF.get 0 _ rfl (.inr p0)
            subst e0
            rw [if_neg (hF.unst (by decide))] at hO1
            have hcc := (twelve_at (hO1)).1
            have cH30 := hcc.1
            have cH31 := hcc.2.1
            have cH32 := hcc.2.2.1
            have cH33 := hcc.2.2.2.1
            have cH34 := hcc.2.2.2.2.1
            have cH35 := hcc.2.2.2.2.2.1
            have cH36 := hcc.2.2.2.2.2.2.1
            have cH37 := hcc.2.2.2.2.2.2.2.1
            have cH38 := hcc.2.2.2.2.2.2.2.2.1
            have cH39 := hcc.2.2.2.2.2.2.2.2.2.1
            have cH310 := hcc.2.2.2.2.2.2.2.2.2.2.1
            have cH311 := hcc.2.2.2.2.2.2.2.2.2.2.2
            clear hcc
            refine step_of ⟨some 10, _, _, _, _, _⟩ rfl (fun K' hK => ?_)
            go_simp
            refine hK.out _ _ ⟨_, hF.pure hok hla hpre rfl (Below.refl _ _), ?fr⟩
            case fr => simp only [putO, layL]
          · replace hge : 2 ≤ i := hgt
            clear hgt
            obtain rfl := eqi hi hge
            refine step_of ⟨some 11, _, _, _, _, _⟩ rfl (fun K' hK => ?_)
            go_simp
            refine hK.out _ _ ⟨_, hF.pure hok hla hpre rfl (Below.refl _ _), ?fr⟩
            case fr => simp only [putO, layL]
      · replace hge : 3 ≤ i := hgt
        clear hgt
        rcases Nat.lt_or_ge i 4 with hlt | hgt
        · replace hi := hlt
          clear hlt
          obtain rfl := eqi hi hge
          have p2 := hpre 2 (by kernel_rfl)
          have e2 : s2 = .pointer (some ⟨w3.heap.size, 10, none⟩) := hF.get 2 _ rfl (.inr p2)
          subst e2
          rw [if_neg (hF.unst (by decide))] at hO1
          have hcc := (twelve_at (hO1)).1
          have cH30 := hcc.1
          have cH31 := hcc.2.1
          have cH32 := hcc.2.2.1
          have cH33 := hcc.2.2.2.1
          have cH34 := hcc.2.2.2.2.1
          have cH35 := hcc.2.2.2.2.2.1
          have cH36 := hcc.2.2.2.2.2.2.1
          have cH37 := hcc.2.2.2.2.2.2.2.1
          have cH38 := hcc.2.2.2.2.2.2.2.2.1
          have cH39 := hcc.2.2.2.2.2.2.2.2.2.1
          have cH310 := hcc.2.2.2.2.2.2.2.2.2.2.1
          have cH311 := hcc.2.2.2.2.2.2.2.2.2.2.2
          clear hcc
          refine step_of ⟨some 12, _, _, _, _, _⟩ rfl (fun K' hK => ?_)
          go_simp
          refine hK.out _ _ ⟨_, hF.pure hok hla hpre rfl (Below.refl _ _), ?fr⟩
          case fr => simp only [putO, layL]
        · replace hge : 4 ≤ i := hgt
          clear hgt
          rcases Nat.lt_or_ge i 5 with hlt | hgt
          · replace hi := hlt
            clear hlt
            obtain rfl := eqi hi hge
            have p1 := hpre 1 (by kernel_rfl)
            have e1 : s1 = .agg #[.string (numS sxy), .string (denS sxy)] := hF.get 1 _ rfl (.inr p1)
            subst e1
            have p3 := hpre 3 (by kernel_rfl)
            have e3 : s3 = .agg #[.string (numS sxy), .string (denS sxy)] := hF.get 3 _ rfl (.inr p3)
            subst e3
            refine step_of ⟨some 13, _, _, _, _, _⟩ rfl (fun K' hK => ?_)
            go_simp
            go_at_call 144
            (with_reducible refine (Qc0.out _ (HE0.out.kept hF.low HP.out)).mono ?_)
            rintro e Wq ⟨rfl, hq⟩
            refine hK.out _ _ ⟨_, hF.pure hok hla hpre rfl hq, ?fr⟩
            case fr => simp only [putO, layL]
          · replace hge : 5 ≤ i := hgt
            clear hgt
            obtain rfl := eqi hi hge
            refine step_of ⟨some 14, _, _, _, _, _⟩ rfl (fun K' hK => ?_)
            go_simp
            refine hK.out _ _ ⟨_, hF.pure hok hla hpre rfl (Below.refl _ _), ?fr⟩
            case fr => simp only [putO, layL]
    · replace hge : 6 ≤ i := hgt
      clear hgt
      rcases Nat.lt_or_ge i 9 with hlt | hgt
      · replace hi := hlt
        clear hlt
        rcases Nat.lt_or_ge i 7 with hlt | hgt
        · replace hi := hlt
          clear hlt
          obtain rfl := eqi hi hge
          have p5 := hpre 5 (by kernel_rfl)
          have e5 : s5 = .pointer (some ⟨w3.heap.size, 6, none⟩) := hF.get 5 _ rfl (.inr p5)
          subst e5
          rw [if_neg (hF.unst (by decide))] at hO1
          have hcc := (twelve_at (hO1)).1
          have cH30 := hcc.1
          have cH31 := hcc.2.1
          have cH32 := hcc.2.2.1
          have cH33 := hcc.2.2.2.1
          have cH34 := hcc.2.2.2.2.1
          have cH35 := hcc.2.2.2.2.2.1
          have cH36 := hcc.2.2.2.2.2.2.1
          have cH37 := hcc.2.2.2.2.2.2.2.1
          have cH38 := hcc.2.2.2.2.2.2.2.2.1
          have cH39 := hcc.2.2.2.2.2.2.2.2.2.1
          have cH310 := hcc.2.2.2.2.2.2.2.2.2.2.1
          have cH311 := hcc.2.2.2.2.2.2.2.2.2.2.2
          clear hcc
          refine step_of ⟨some 15, _, _, _, _, _⟩ rfl (fun K' hK => ?_)
          go_simp
          refine hK.out _ _ ⟨_, hF.pure hok hla hpre rfl (Below.refl _ _), ?fr⟩
          case fr => simp only [putO, layL]
        · replace hge : 7 ≤ i := hgt
          clear hgt
          rcases Nat.lt_or_ge i 8 with hlt | hgt
          · replace hi := hlt
            clear hlt
            obtain rfl := eqi hi hge
            refine step_of ⟨some 16, _, _, _, _, _⟩ rfl (fun K' hK => ?_)
            go_simp
            refine hK.out _ _ ⟨_, hF.pure hok hla hpre rfl (Below.refl _ _), ?fr⟩
            case fr => simp only [putO, layL]
          · replace hge : 8 ≤ i := hgt
            clear hgt
            obtain rfl := eqi hi hge
            have p7 := hpre 7 (by kernel_rfl)
            have e7 : s7 = .pointer (some ⟨w3.heap.size, 8, none⟩) := hF.get 7 _ rfl (.inr p7)
            subst e7
            rw [if_neg (hF.unst (by decide))] at hO1
            have hcc := (twelve_at (hO1)).1
            have cH30 := hcc.1
            have cH31 := hcc.2.1
            have cH32 := hcc.2.2.1
            have cH33 := hcc.2.2.2.1
            have cH34 := hcc.2.2.2.2.1
            have cH35 := hcc.2.2.2.2.2.1
            have cH36 := hcc.2.2.2.2.2.2.1
            have cH37 := hcc.2.2.2.2.2.2.2.1
            have cH38 := hcc.2.2.2.2.2.2.2.2.1
            have cH39 := hcc.2.2.2.2.2.2.2.2.2.1
            have cH310 := hcc.2.2.2.2.2.2.2.2.2.2.1
            have cH311 := hcc.2.2.2.2.2.2.2.2.2.2.2
            clear hcc
            refine step_of ⟨some 17, _, _, _, _, _⟩ rfl (fun K' hK => ?_)
            go_simp
            refine hK.out _ _ ⟨_, hF.pure hok hla hpre rfl (Below.refl _ _), ?fr⟩
            case fr => simp only [putO, layL]
      · replace hge : 9 ≤ i := hgt
        clear hgt
        rcases Nat.lt_or_ge i 10 with hlt | hgt
        · replace hi := hlt
          clear hlt
          obtain rfl := eqi hi hge
          have p6 := hpre 6 (by kernel_rfl)
          have e6 : s6 = .agg #[.string (numS sxx), .string (denS sxx)] := hF.get 6 _ rfl (.inr p6)
          subst e6
          have p8 := hpre 8 (by kernel_rfl)
          have e8 : s8 = .agg #[.string (numS syy), .string (denS syy)] := hF.get 8 _ rfl (.inr p8)
          subst e8
          refine step_of ⟨some 18, _, _, _, _, _⟩ rfl (fun K' hK => ?_)
          go_simp
          go_at_call 144
          (with_reducible refine (Qc1.out _ (HE0.out.kept hF.low HP.out)).mono ?_)
          rintro e Wq ⟨rfl, hq⟩
          refine hK.out _ _ ⟨_, hF.pure hok hla hpre rfl hq, ?fr⟩
          case fr => simp only [putO, layL]
        · replace hge : 10 ≤ i := hgt
          clear hgt
          rcases Nat.lt_or_ge i 11 with hlt | hgt
          · replace hi := hlt
            clear hlt
            obtain rfl := eqi hi hge
            have p4 := hpre 4 (by kernel_rfl)
            have e4 : s4 = .agg #[.string (numS kq), .string (denS kq)] := hF.get 4 _ rfl (.inr p4)
            subst e4
            have p9 := hpre 9 (by kernel_rfl)
            have e9 : s9 = .agg #[.string (numS mq), .string (denS mq)] := hF.get 9 _ rfl (.inr p9)
            subst e9
            refine step_of ⟨some 19, _, _, _, _, _⟩ rfl (fun K' hK => ?_)
            go_simp
            go_at_call 51
            (with_reducible refine (Qc2.out _ (HE0.out.kept hF.low HP.out)).mono ?_)
            rintro e Wq ⟨rfl, hq⟩
            refine hK.out _ _ ⟨_, hF.pure hok hla hpre rfl hq, ?fr⟩
            case fr => simp only [putO, layL]
          · replace hge : 11 ≤ i := hgt
            clear hgt
            obtain rfl := eqi hi hge
            have p10 := hpre 10 (by kernel_rfl)
            have e10 : s10 = .agg #[.string (numS oq), .string (denS oq)] := hF.get 10 _ rfl (.inr p10)
            subst e10
            rw [if_neg (bit_off hun)] at hO0
            have HGB := Lib.hid hO0
            obtain ⟨⟨y0, y1⟩, g0, g1⟩ := two_at HGB.out
            refine step_of ⟨none, _, _, _, _, _⟩ rfl (fun K' hK => ?_)
            go_simp
            refine hK.out _ _ ⟨undef, hF.put hok hna hpre hun rfl undef rfl (.inl (by decide)) rfl (set2_at HGB.out (.string (numS oq)) (.string (denS oq))) (fun k hk => set2_other _ _ (.string (numS oq)) (.string (denS oq)) hk) (put2_below gG0 _ (.string (numS oq)) (.string (denS oq))), ?fr⟩
            case fr => simp only [putO, layL]
  case hd =>
    rintro listed vs WB hF hall
    obtain ⟨s0, s1, s2, s3, s4, s5, s6, s7, s8, s9, s10, s11, o0, o1, hvs⟩ := exl_of 14 vs (fun l => vs = l) hF.len rfl
    subst hvs
    obtain ⟨eG0, gG0, hO0⟩ := old_of hF (i := 12) rfl (.inl (by decide))
    replace eG0 : o0 = _ := eG0
    subst eG0
    obtain ⟨eG1, gG1, hO1⟩ := old_of hF (i := 13) rfl (.inl (by decide))
    replace eG1 : o1 = _ := eG1
    subst eG1
    rw [if_pos (hall 11 (by decide))] at hO0
    replace H2 := Lib.hid hO0
    clear hO0
    rw [if_neg (hF.unst (by decide))] at hO1
    replace H3 := Lib.hid hO1
    clear hO1
    have HQ := Lib.hid hF.low
    clear hF hall hok hna hla
    simp only [putO, layL]
    replace HG := HQ
    clear HQ
    replace HE := Lib.hid (HE0.out.kept HG.out HP.out)
    obtain ⟨⟨x2_0, x2_1⟩, x2_f0, x2_f1⟩ := two_at H2.out
    go_wp2
    refine bodyPost_ret (v := .agg #[.string (numS oq), .string (denS oq)]) (by simp [results, Tryz.results180, go_sem, x2_0, x2_1]) rfl ⟨rfl, HG.out⟩

set_option linter.unusedVariables false in
/-- what the operations of region 2 yield -/
def rsq_stopKs2 (mx my sxx syy sxy kq mq : Rat) (n c1 c2 : Nat) (A1 A2 : Option Addr) (W w3 : World) : List RK :=
  [.pure (.pointer (some ⟨w3.heap.size, 10, none⟩)),
   .pure (.agg #[.string (numS sxy), .string (denS sxy)]),
   .pure (.pointer (some ⟨w3.heap.size, 10, none⟩)),
   .pure (.agg #[.string (numS sxy), .string (denS sxy)]),
   .pure (.agg #[.string (numS kq), .string (denS kq)]),
   .pure (.pointer (some ⟨w3.heap.size, 6, none⟩)),
   .pure (.agg #[.string (numS sxx), .string (denS sxx)]),
   .pure (.pointer (some ⟨w3.heap.size, 8, none⟩)),
   .pure (.agg #[.string (numS syy), .string (denS syy)]),
   .pure (.agg #[.string (numS mq), .string (denS mq)]),
   .put 0,
   .put 0,
   .box (some (W.heap.size)) #[.string { data := #[] }, .string { data := #[] }] #[.string { data := #[] }, .string { data := #[] }] 24 14,
   .box (some (w3.heap.size)) #[.slice A1 n c1, .slice A2 n c2, .string (numS mx), .string (denS mx), .string (numS my), .string (denS my), .string (numS sxx), .string (denS sxx), .string (numS syy), .string (denS syy), .string (numS sxy), .string (denS sxy)] #[.slice A1 n c1, .slice A2 n c2, .string (numS mx), .string (denS mx), .string (numS my), .string (denS my), .string (numS sxx), .string (denS sxx), .string (numS syy), .string (denS syy), .string (numS sxy), .string (denS sxy)] 147 14]
set_option linter.unusedSimpArgs false in
set_option linter.unusedVariables false in
set_option maxHeartbeats 4000000 in
set_option maxRecDepth 100000 in
theorem rsq_stop (ra sa rb sb : Int) (ga gb la lb Ca Cb n : Nat) (mx my sxx syy sxy kq mq : Rat) (b g C : Nat) (W : World) (hread : ∀ W', W.grownBy W' (some b) → Env W' → Calls Tryz.prog 175 #[.agg #[.int .i64 5, .string { data := #[] }, .string { data := #[] }, .string { data := #[] }, .bool false, .int .i64 0, .int .i64 ra, .int .i64 sa, .slice (some ⟨ga, 0, none⟩) la Ca], .agg #[.int .i64 5, .string { data := #[] }, .string { data := #[] }, .string { data := #[] }, .bool false, .int .i64 0, .int .i64 rb, .int .i64 sb, .slice (some ⟨gb, 0, none⟩) lb Cb]] W' fun e w' => (∃ A1 c1 A2 c2, e = .returned (.agg #[.slice A1 n c1, .slice A2 n c2, .string (numS mx), .string (denS mx), .string (numS my), .string (denS my), .string (numS sxx), .string (denS sxx), .string (numS syy), .string (denS syy), .string (numS sxy), .string (denS sxy)])) ∧ Below W'.heap.size W' w')
    (c0 : Fun2 144 (.agg #[.string (numS sxy), .string (denS sxy)]) (.agg #[.string (numS sxy), .string (denS sxy)]) (.agg #[.string (numS kq), .string (denS kq)]))
    (c1 : Fun2 144 (.agg #[.string (numS sxx), .string (denS sxx)]) (.agg #[.string (numS syy), .string (denS syy)]) (.agg #[.string (numS mq), .string (denS mq)]))
    (c2 : ∀ W, Calls Tryz.prog 51 #[.agg #[.string (numS kq), .string (denS kq)], .agg #[.string (numS mq), .string (denS mq)]] W fun e w' => e = stopped 1 ∧ Below W.heap.size W w')
    (ha : ArgsAt W b (some ⟨g, 0, none⟩) 2 C 0) (hne : g ≠ b) (hc0 : CellsAt W g (0 + 0 * 9) (.int .i64 5) (.string { data := #[] }) (.string { data := #[] }) (.string { data := #[] }) (.bool false) (.int .i64 0) (.int .i64 ra) (.int .i64 sa) (.slice (some ⟨ga, 0, none⟩) la Ca)) (hc1 : CellsAt W g (0 + 1 * 9) (.int .i64 5) (.string { data := #[] }) (.string { data := #[] }) (.string { data := #[] }) (.bool false) (.int .i64 0) (.int .i64 rb) (.int .i64 sb) (.slice (some ⟨gb, 0, none⟩) lb Cb)) (hE : EnvY W) (hP : Past b) :
    Calls Tryz.prog 180 #[.pointer (some ⟨b, 0, none⟩)] W fun e w' => e = stopped 1 ∧ W.grownBy w' (some b) := by
  have TA0 := Lib.hid (fun W' ga' gc => value_any b g 0 2 C (0) 5 { data := #[] } { data := #[] } { data := #[] } false 0 ra sa (some ⟨ga, 0, none⟩) la Ca W' ga' (by omega) (by omega) hne gc)
  have TA1 := Lib.hid (fun W' ga' gc => value_any b g 0 2 C (0 + 1) 5 { data := #[] } { data := #[] } { data := #[] } false 0 rb sb (some ⟨gb, 0, none⟩) lb Cb W' ga' (by omega) (by omega) hne gc)
  have QR := Lib.hid hread
  have Qc0 := Lib.hid c0
  have Qc1 := Lib.hid c1
  have Qc2 := Lib.hid c2
  unfold Fun2 at Qc0 Qc1
  have HP := Lib.hid hP
  have HE0 := Lib.hid hE
  have NG := Lib.hid hne
  have HBW := Lib.hid (heap_lt ha)
  have hb : Below W.heap.size W (W.alloc (.cells #[.string { data := #[] }, .string { data := #[] }] 24)) := ((Below.refl _ _).alloc (Nat.le_refl _) _)
  have HG := Lib.hid (kept_below (b := b) hb)
  have HE := Lib.hid (hE.below hb)
  have HA := Lib.hid (show ArgsAt (W.alloc (.cells #[.string { data := #[] }, .string { data := #[] }] 24)) b (some ⟨g, 0, none⟩) 2 C 0 from keep_block ha hb)
  have HC0 := Lib.hid (CellsAt.below hc0 hb)
  have HC1 := Lib.hid (CellsAt.below hc1 hb)
  have H2 : Hid ((W.alloc (.cells #[.string { data := #[] }, .string { data := #[] }] 24)).heap[W.heap.size]? = some (.cells #[.string { data := #[] }, .string { data := #[] }] 24 (0, 0))) := Lib.hid (by
    have h := heap_alloc_new W (.cells #[.string { data := #[] }, .string { data := #[] }] 24)
    exact h)
  have NE2 : Hid (W.heap.size ≠ b) := Lib.hid (by have := HBW.out; omega)
  obtain ⟨W0, hW0⟩ : ∃ Z, (W.alloc (.cells #[.string { data := #[] }, .string { data := #[] }] 24)) = Z := ⟨_, rfl⟩
  rw [hW0] at HG HE HA HC0 HC1 H2
  have EW0 := Lib.hid hW0
  clear hW0 hb ha hE hP hne hc0 hc1  hread c0 c1 c2
  go_enter Tryz.func180, Tryz.ntmps180
  go_wp2_with fail
  rw [EW0.out]
  refine (TA0.out _ HA.out HC0.out).mono ?_
  rintro e w1 ⟨rfl, ha, hg⟩
  replace HA := Lib.hid ha
  clear HC0
  replace H2 := Lib.hid (kept_block H2.out hg NE2.out)
  replace HC1 := Lib.hid (HC1.out.kept hg NG.out)
  replace HE := Lib.hid (HE.out.kept hg HP.out)
  replace HG := Lib.hid (kept_trans HG.out hg)
  clear ha hg
  go_wp2_with fail
  refine (TA1.out _ HA.out HC1.out).mono ?_
  rintro e w2 ⟨rfl, ha, hg⟩
  replace HA := Lib.hid ha
  clear HC1
  replace H2 := Lib.hid (kept_block H2.out hg NE2.out)
  replace HE := Lib.hid (HE.out.kept hg HP.out)
  replace HG := Lib.hid (kept_trans HG.out hg)
  clear ha hg
  go_wp2_with fail
  refine ((QR.out _ HG.out HE.out)).mono ?_
  rintro e w3 ⟨⟨A1, c1, A2, c2, rfl⟩, hb⟩
  replace H2 := Lib.hid (keep_block H2.out hb)
  replace HA := Lib.hid (keep_block HA.out hb)
  replace HE := Lib.hid (HE.out.below hb)
  replace HG := Lib.hid (kept_trans HG.out (kept_below hb))
  clear hb
  have lt_2 := heap_lt H2.out
  have geW := HG.out.size
  have L3_2 : Hid (W.heap.size < w3.heap.size) := Lib.hid (by omega)
  have G3 : Hid (W.heap.size ≤ w3.heap.size) := Lib.hid (by omega)
  have NE3 : Hid (w3.heap.size ≠ b) := Lib.hid (by have := HBW.out; omega)
  have hb : Below w3.heap.size w3 (w3.alloc (.cells #[.slice A1 n c1, .slice A2 n c2, .string (numS mx), .string (denS mx), .string (numS my), .string (denS my), .string (numS sxx), .string (denS sxx), .string (numS syy), .string (denS syy), .string (numS sxy), .string (denS sxy)] 147)) := (Below.refl _ _).alloc (Nat.le_refl _) _
  replace H2 := Lib.hid (keep_block H2.out hb)
  replace HA := Lib.hid (keep_block HA.out hb)
  replace HE := Lib.hid (HE.out.below hb)
  replace HG := Lib.hid (kept_trans HG.out (kept_below hb))
  have H3 := Lib.hid (heap_alloc_new w3 (.cells #[.slice A1 n c1, .slice A2 n c2, .string (numS mx), .string (denS mx), .string (numS my), .string (denS my), .string (numS sxx), .string (denS sxx), .string (numS syy), .string (denS syy), .string (numS sxy), .string (denS sxy)] 147))
  clear hb
  clear geW lt_2
  obtain ⟨WL1, hWL1⟩ : ∃ Z, (w3.alloc (.cells #[.slice A1 n c1, .slice A2 n c2, .string (numS mx), .string (denS mx), .string (numS my), .string (denS my), .string (numS sxx), .string (denS sxx), .string (numS syy), .string (denS syy), .string (numS sxy), .string (denS sxy)] 147)) = Z := ⟨_, rfl⟩
  rw [hWL1] at HE HG H2 H3 HA
  have EWL1 := Lib.hid hWL1
  clear hWL1
  clear HA 
  go_upto_region 2 with fail
  rw [EWL1.out]
  go_wp2_with fail
  have := L3_2.out
  have := HG.out.size
  have := G3.out
  have hok : okB 12 (rsq_stopKs2 mx my sxx syy sxy kq mq n c1 c2 A1 A2 W w3) = true := by kernel_rfl
  have hna := noAny_of (ks := (rsq_stopKs2 mx my sxx syy sxy kq mq n c1 c2 A1 A2 W w3)) (by kernel_rfl)
  have hla := lasts_of hna
  refine wp_region_facts_tail_r (row := (some b)) (w := W) 6 10 2 12 [10, 11] (rsq_stopKs2 mx my sxx syy sxy kq mq n c1 c2 A1 A2 W w3) [some 9, some 10, some 11, some 12, some 13, some 14, some 15, some 16, some 17, some 18, some 19, none] (by kernel_rfl) (by kernel_rfl) (by kernel_rfl) rfl rfl (by decide) rfl [undef, undef, undef, undef, undef, undef, undef, undef, undef, undef, undef, undef, .pointer (some ⟨W.heap.size, 0, none⟩), .pointer (some ⟨w3.heap.size, 0, none⟩)] ?h00 (Fs.start_olds hla rfl HG.out ⟨⟨_, rfl, fun _ h => Option.some.inj h, by omega, H2.out⟩, fun _ => ⟨fun _ => far_of (by omega), trivial⟩, ⟨⟨_, rfl, fun _ h => Option.some.inj h, by omega, H3.out⟩, fun _ => trivial, trivial⟩⟩) ?hs ?hd
  case h00 => simp only [putO, layL]
  case hs =>
    rintro listed vs Wr hF i hi hun hpre
    obtain ⟨s0, s1, s2, s3, s4, s5, s6, s7, s8, s9, s10, s11, o0, o1, hvs⟩ := exl_of 14 vs (fun l => vs = l) hF.len rfl
    subst hvs
    obtain ⟨eG0, gG0, hO0⟩ := old_of hF (i := 12) rfl (.inl (by decide))
    replace eG0 : o0 = _ := eG0
    subst eG0
    obtain ⟨eG1, gG1, hO1⟩ := old_of hF (i := 13) rfl (.inl (by decide))
    replace eG1 : o1 = _ := eG1
    subst eG1
    have hge := Nat.zero_le i
    simp only [putO, layL]
    rcases Nat.lt_or_ge i 5 with hlt | hgt
    · replace hi := hlt
      clear hlt
      rcases Nat.lt_or_ge i 2 with hlt | hgt
      · replace hi := hlt
        clear hlt
        rcases Nat.lt_or_ge i 1 with hlt | hgt
        · replace hi := hlt
          clear hlt
          obtain rfl := eqi hi hge
          refine step_of ⟨some 9, _, _, _, _, _⟩ rfl (fun K' hK => ?_)
          go_simp
          refine hK.out _ _ ⟨_, hF.pure hok hla hpre rfl (Below.refl _ _), ?fr⟩
          case fr => simp only [putO, layL]
        · replace hge : 1 ≤ i := hgt
          clear hgt
          obtain rfl := eqi hi hge
          have p0 := hpre 0 (by kernel_rfl)
          have e0 : s0 = .pointer (some ⟨w3.heap.size, 10, none⟩) := hF.get 0 _ rfl (.inr p0)
          subst e0
          rw [if_neg (hF.unst (by decide))] at hO1
          have hcc := (twelve_at (hO1)).1
          have cH30 := hcc.1
          have cH31 := hcc.2.1
          have cH32 := hcc.2.2.1
          have cH33 := hcc.2.2.2.1
          have cH34 := hcc.2.2.2.2.1
          have cH35 := hcc.2.2.2.2.2.1
          have cH36 := hcc.2.2.2.2.2.2.1
          have cH37 := hcc.2.2.2.2.2.2.2.1
          have cH38 := hcc.2.2.2.2.2.2.2.2.1
          have cH39 := hcc.2.2.2.2.2.2.2.2.2.1
          have cH310 := hcc.2.2.2.2.2.2.2.2.2.2.1
          have cH311 := hcc.2.2.2.2.2.2.2.2.2.2.2
          clear hcc
          refine step_of ⟨some 10, _, _, _, _, _⟩ rfl (fun K' hK => ?_)
          go_simp
          refine hK.out _ _ ⟨_, hF.pure hok hla hpre rfl (Below.refl _ _), ?fr⟩
          case fr => simp only [putO, layL]
      · replace hge : 2 ≤ i := hgt
        clear hgt
        rcases Nat.lt_or_ge i 3 with hlt | hgt
        · replace hi := hlt
          clear hlt
          obtain rfl := eqi hi hge
          refine step_of ⟨some 11, _, _, _, _, _⟩ rfl (fun K' hK => ?_)
          go_simp
          refine hK.out _ _ ⟨_, hF.pure hok hla hpre rfl (Below.refl _ _), ?fr⟩
          case fr => simp only [putO, layL]
        · replace hge : 3 ≤ i := hgt
          clear hgt
          rcases Nat.lt_or_ge i 4 with hlt | hgt
          · replace hi := hlt
            clear hlt
            obtain rfl := eqi hi hge
            have p2 := hpre 2 (by kernel_rfl)
            have e2 : s2 = .pointer (some ⟨w3.heap.size, 10, none⟩) := hF.get 2 _ rfl (.inr p2)
            subst e2
            rw [if_neg (hF.unst (by decide))] at hO1
            have hcc := (twelve_at (hO1)).1
            have cH30 := hcc.1
            have cH31 := hcc.2.1
            have cH32 := hcc.2.2.1
            have cH33 := hcc.2.2.2.1
            have cH34 := hcc.2.2.2.2.1
            have cH35 := hcc.2.2.2.2.2.1
            have cH36 := hcc.2.2.2.2.2.2.1
            have cH37 := hcc.2.2.2.2.2.2.2.1
            have cH38 := hcc.2.2.2.2.2.2.2.2.1
            have cH39 := hcc.2.2.2.2.2.2.2.2.2.1
            have cH310 := hcc.2.2.2.2.2.2.2.2.2.2.1
            have cH311 := hcc.2.2.2.2.2.2.2.2.2.2.2
            clear hcc
            refine step_of ⟨some 12, _, _, _, _, _⟩ rfl (fun K' hK => ?_)
            go_simp
            refine hK.out _ _ ⟨_, hF.pure hok hla hpre rfl (Below.refl _ _), ?fr⟩
            case fr => simp only [putO, layL]
          · replace hge : 4 ≤ i := hgt
            clear hgt
            obtain rfl := eqi hi hge
            have p1 := hpre 1 (by kernel_rfl)
            have e1 : s1 = .agg #[.string (numS sxy), .string (denS sxy)] := hF.get 1 _ rfl (.inr p1)
            subst e1
            have p3 := hpre 3 (by kernel_rfl)
            have e3 : s3 = .agg #[.string (numS sxy), .string (denS sxy)] := hF.get 3 _ rfl (.inr p3)
            subst e3
            refine step_of ⟨some 13, _, _, _, _, _⟩ rfl (fun K' hK => ?_)
            go_simp
            go_at_call 144
            (with_reducible refine (Qc0.out _ (HE0.out.kept hF.low HP.out)).mono ?_)
            rintro e Wq ⟨rfl, hq⟩
            refine hK.out _ _ ⟨_, hF.pure hok hla hpre rfl hq, ?fr⟩
            case fr => simp only [putO, layL]
    · replace hge : 5 ≤ i := hgt
      clear hgt
      rcases Nat.lt_or_ge i 7 with hlt | hgt
      · replace hi := hlt
        clear hlt
        rcases Nat.lt_or_ge i 6 with hlt | hgt
        · replace hi := hlt
          clear hlt
          obtain rfl := eqi hi hge
          refine step_of ⟨some 14, _, _, _, _, _⟩ rfl (fun K' hK => ?_)
          go_simp
          refine hK.out _ _ ⟨_, hF.pure hok hla hpre rfl (Below.refl _ _), ?fr⟩
          case fr => simp only [putO, layL]
        · replace hge : 6 ≤ i := hgt
          clear hgt
          obtain rfl := eqi hi hge
          have p5 := hpre 5 (by kernel_rfl)
          have e5 : s5 = .pointer (some ⟨w3.heap.size, 6, none⟩) := hF.get 5 _ rfl (.inr p5)
          subst e5
          rw [if_neg (hF.unst (by decide))] at hO1
          have hcc := (twelve_at (hO1)).1
          have cH30 := hcc.1
          have cH31 := hcc.2.1
          have cH32 := hcc.2.2.1
          have cH33 := hcc.2.2.2.1
          have cH34 := hcc.2.2.2.2.1
          have cH35 := hcc.2.2.2.2.2.1
          have cH36 := hcc.2.2.2.2.2.2.1
          have cH37 := hcc.2.2.2.2.2.2.2.1
          have cH38 := hcc.2.2.2.2.2.2.2.2.1
          have cH39 := hcc.2.2.2.2.2.2.2.2.2.1
          have cH310 := hcc.2.2.2.2.2.2.2.2.2.2.1
          have cH311 := hcc.2.2.2.2.2.2.2.2.2.2.2
          clear hcc
          refine step_of ⟨some 15, _, _, _, _, _⟩ rfl (fun K' hK => ?_)
          go_simp
          refine hK.out _ _ ⟨_, hF.pure hok hla hpre rfl (Below.refl _ _), ?fr⟩
          case fr => simp only [putO, layL]
      · replace hge : 7 ≤ i := hgt
        clear hgt
        rcases Nat.lt_or_ge i 8 with hlt | hgt
        · replace hi := hlt
          clear hlt
          obtain rfl := eqi hi hge
          refine step_of ⟨some 16, _, _, _, _, _⟩ rfl (fun K' hK => ?_)
          go_simp
          refine hK.out _ _ ⟨_, hF.pure hok hla hpre rfl (Below.refl _ _), ?fr⟩
          case fr => simp only [putO, layL]
        · replace hge : 8 ≤ i := hgt
          clear hgt
          rcases Nat.lt_or_ge i 9 with hlt | hgt
          · replace hi := hlt
            clear hlt
            obtain rfl := eqi hi hge
            have p7 := hpre 7 (by kernel_rfl)
            have e7 : s7 = .pointer (some ⟨w3.heap.size, 8, none⟩) := hF.get 7 _ rfl (.inr p7)
            subst e7
            rw [if_neg (hF.unst (by decide))] at hO1
            have hcc := (twelve_at (hO1)).1
            have cH30 := hcc.1
            have cH31 := hcc.2.1
            have cH32 := hcc.2.2.1
            have cH33 := hcc.2.2.2.1
            have cH34 := hcc.2.2.2.2.1
            have cH35 := hcc.2.2.2.2.2.1
            have cH36 := hcc.2.2.2.2.2.2.1
            have cH37 := hcc.2.2.2.2.2.2.2.1
            have cH38 := hcc.2.2.2.2.2.2.2.2.1
            have cH39 := hcc.2.2.2.2.2.2.2.2.2.1
            have cH310 := hcc.2.2.2.2.2.2.2.2.2.2.1
            have cH311 := hcc.2.2.2.2.2.2.2.2.2.2.2
            clear hcc
            refine step_of ⟨some 17, _, _, _, _, _⟩ rfl (fun K' hK => ?_)
            go_simp
            refine hK.out _ _ ⟨_, hF.pure hok hla hpre rfl (Below.refl _ _), ?fr⟩
            case fr => simp only [putO, layL]
          · replace hge : 9 ≤ i := hgt
            clear hgt
            obtain rfl := eqi hi hge
            have p6 := hpre 6 (by kernel_rfl)
            have e6 : s6 = .agg #[.string (numS sxx), .string (denS sxx)] := hF.get 6 _ rfl (.inr p6)
            subst e6
            have p8 := hpre 8 (by kernel_rfl)
            have e8 : s8 = .agg #[.string (numS syy), .string (denS syy)] := hF.get 8 _ rfl (.inr p8)
            subst e8
            refine step_of ⟨some 18, _, _, _, _, _⟩ rfl (fun K' hK => ?_)
            go_simp
            go_at_call 144
            (with_reducible refine (Qc1.out _ (HE0.out.kept hF.low HP.out)).mono ?_)
            rintro e Wq ⟨rfl, hq⟩
            refine hK.out _ _ ⟨_, hF.pure hok hla hpre rfl hq, ?fr⟩
            case fr => simp only [putO, layL]
  case hd =>
    rintro listed vs WB hF hall
    obtain ⟨s0, s1, s2, s3, s4, s5, s6, s7, s8, s9, s10, s11, o0, o1, hvs⟩ := exl_of 14 vs (fun l => vs = l) hF.len rfl
    subst hvs
    obtain ⟨eG0, gG0, hO0⟩ := old_of hF (i := 12) rfl (.inl (by decide))
    replace eG0 : o0 = _ := eG0
    subst eG0
    obtain ⟨eG1, gG1, hO1⟩ := old_of hF (i := 13) rfl (.inl (by decide))
    replace eG1 : o1 = _ := eG1
    subst eG1
    have e4 : s4 = .agg #[.string (numS kq), .string (denS kq)] := hF.get 4 _ rfl (.inr (hall 4 (by decide)))
    subst e4
    have e9 : s9 = .agg #[.string (numS mq), .string (denS mq)] := hF.get 9 _ rfl (.inr (hall 9 (by decide)))
    subst e9
    rw [if_neg (hF.unst (by decide))] at hO0
    replace H2 := Lib.hid hO0
    clear hO0
    rw [if_neg (hF.unst (by decide))] at hO1
    replace H3 := Lib.hid hO1
    clear hO1
    have HQ := Lib.hid hF.low
    clear hF hall hok hna hla
    simp only [putO, layL]
    replace HG := HQ
    clear HQ
    replace HE := Lib.hid (HE0.out.kept HG.out HP.out)
    refine rest_one 10 ⟨some 19, _, _, _, _, _⟩ rfl (by kernel_rfl) rfl (fun K' hK => ?_)
    go_simp
    go_at_call 51
    (with_reducible refine (Qc2.out _).mono ?_)
    rintro e Wq ⟨rfl, hq⟩
    have HGQ := Lib.hid (kept_trans HG.out (kept_below hq))
    clear hq
    unfold stopped
    go_wp2
    exact ⟨rfl, rfl, HGQ.out⟩

end Go.Proofs.YtemdjmaakajhjaaGreatDoor.Num.Ft
