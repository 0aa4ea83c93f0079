/- Numbers as texts of digits, fractions, values and the functions of fmath: contracts of the program's functions, joined from smaller texts. Conditions stand at each theorem. -/
import Derived.Test.YtemdjmaakajhjaaGreatDoorFtcB
import Derived.Test.YtemdjmaakajhjaaGreatDoorFtrC
import Derived.Test.YtemdjmaakajhjaaGreatDoorFtkA
import Derived.Test.YtemdjmaakajhjaaGreatDoorFtbA
import Derived.Test.YtemdjmaakajhjaaGreatDoorNumF
import Derived.Test.YtemdjmaakajhjaaGreatDoorFtaC

/- package fstat: a function that stops: division by zero, the law's stat at a row that stops. Conditions: the tables lie as they are laid. -/
namespace Go.Proofs.YtemdjmaakajhjaaGreatDoor.Num.Ft
open Go.RowKit Go.Lib Go.MapKept Num

set_option maxHeartbeats 4000000 in
set_option maxRecDepth 100000 in
theorem s_div_zero (p : Rat) (w : World) (hp : fits p = true) : Calls Tryz.prog 51 #[fracV p, fracV 0] w fun e w' => e = stopped 1 ∧ Below w.heap.size w w' := by
  have T1 := Lib.hid (fun W => div_zero p W hp)
  have T2 := Lib.hid (fun W => must_div W)
  rw [noFrac_is] at T1 T2
  rw [fracV_is p, fracV_is 0] at T1 ⊢
  obtain ⟨_, _, hr', hb⟩ := three_new w (.cells #[.string (numS p), .string (denS p)] 24) (.cells #[.string (numS 0), .string (denS 0)] 24) (.cells #[.string { data := #[] }, .string { data := #[] }] 24)
  have HR := Lib.hid hr'
  have HL := Lib.hid hb
  clear hr' hb hp
  go_enter Tryz.func51, Tryz.ntmps51
  go_wp2_with fail
  refine (T1.out _).mono ?_
  rintro e W1 ⟨rfl, hb⟩
  replace HR := Lib.hid (keep_block HR.out hb)
  replace HL := Lib.hid (HL.out.trans (hb.mono HL.out.size))
  clear hb
  go_wp2_with fail
  refine (T2.out _).mono ?_
  rintro e W2 ⟨rfl, hb⟩
  replace HR := Lib.hid (keep_block HR.out hb)
  replace HL := Lib.hid (HL.out.trans (hb.mono HL.out.size))
  clear hb
  unfold stopped
  go_wp2
  exact ⟨rfl, rfl, HL.out⟩

set_option linter.unusedSimpArgs false in
set_option linter.unusedVariables false in
set_option maxHeartbeats 4000000 in
set_option maxRecDepth 100000 in
theorem entryn2_stop (r : Row) (g cap e : Nat) (vs : List Val) (c : Int) (w : World) (hr : r.num = false) (hfn : FnAt w e r) (eF : ∀ args w, (callFunc r.fn args).run Tryz.prog w = .ok (.enter r.fn args) w) (hE : Env w) (hv : ValsAt w g 0 vs)
    (hF : ∀ W b, Below w.heap.size w W → Env W → Past b → w.heap.size ≤ b → b < W.heap.size → ArgsAt W b (some ⟨g, 0, none⟩) vs.length cap 0 → ValsAt W g 0 vs → g ≠ b → Calls Tryz.prog r.fn #[.pointer (some ⟨b, 0, none⟩)] W fun e w' => e = stopped c ∧ W.grownBy w' (some b)) (hv0 : 0 < vs.length) :
    Calls Tryz.prog 133 #[.slice (some ⟨g, 0, none⟩) vs.length cap, .pointer (some ⟨e, 0, none⟩)] w fun e w' => e = stopped c ∧ Below w.heap.size w w' := by
  unfold FnAt at hfn
  rw [if_neg (by rw [hr]; decide)] at hfn
  have he := hfn
  obtain ⟨hR, hB, hb⟩ := two_new w (.cells #[.int .i64 0, .string { data := #[] }, .string { data := #[] }, .string { data := #[] }, .bool false, .int .i64 0, .int .i64 0, .int .i64 0, .slice none 0 0] 27) (.cells #[.slice (some ⟨g, 0, none⟩) vs.length cap, .int .i64 0] 99)
  have HL := Lib.hid hb
  have HX := Lib.hid (cell_below he ((Below.refl w.heap.size w).alloc (Nat.le_refl _) (.cells #[.int .i64 0, .string { data := #[] }, .string { data := #[] }, .string { data := #[] }, .bool false, .int .i64 0, .int .i64 0, .int .i64 0, .slice none 0 0] 27)))
  have hgl : g < w.heap.size := cell_lt (hv.at 0 hv0).1
  have TN := Lib.hid ((fun W h => hF W (w.heap.size + 1) (hb.trans (h.mono hb.size)) ((hE.below hb).below h) (hE.past (Nat.le_succ _)) (Nat.le_succ _) (by have := h.size; simp at this; omega) (keep_block hB h) ((hv.below hb).below h) (by omega)) _ (Below.refl _ _))
  clear hR hB hb he hF hE hv hgl
  obtain x0 := HX.out
  go_enter Tryz.func133, Tryz.ntmps133
  go_wp2_with fail
  refine TN.out.mono ?_
  rintro e W1 ⟨rfl, hg⟩
  have HG := Lib.hid (below_map HL.out (Nat.le_succ _) hg)
  clear hg
  unfold stopped
  go_wp2
  exact ⟨rfl, rfl, HG.out⟩
/-- the law's stat at a row of arrays that stops -/
theorem stat_v_stop (i : Nat) (r : Row) (hi : i < allRows.length) (hr : allRows[i] = r) (hraw : isRaw r.fn = false) (hkd : r.kinds = { data := #[97] }) (hfr : ∀ j (hj : j < i), (allRows[i].name == (allRows[j]'(by omega)).name) = false) (hnum : r.num = false) (eF : ∀ args w, (callFunc r.fn args).run Tryz.prog w = .ok (.enter r.fn args) w) (vs : List Val) (qss : List (List Rat)) (ab ao C : Nat) (c : Int) (w : World) (h0 : 0 < vs.length) (h9 : vs.length ≤ 300) (hc1 : r.least ≤ vs.length) (hc2 : (vs.length : Int) ≤ r.most) (hv : ValsAt w ab ao vs) (hA : Args2 w vs qss) (hE : Env w) (hqs : ∀ qs ∈ qss, ∀ q ∈ qs, fits q = true) (h1 : 1 ≤ c) (h2 : c ≤ 8)
    (hF : ∀ W b g cap, Below w.heap.size w W → w.heap.size ≤ b → Env W → Past b → ArgsAt W b (some ⟨g, 0, none⟩) vs.length cap 0 → ValsAt W g 0 vs → g ≠ b → Calls Tryz.prog r.fn #[.pointer (some ⟨b, 0, none⟩)] W fun e w' => e = stopped c ∧ W.grownBy w' (some b)) :
    Calls Tryz.prog 9 #[.string r.name, .slice (some ⟨ab, ao, none⟩) vs.length C] w fun e w' => e = .returned (faultVal c) ∧ Below w.heap.size w w' :=
  math_of r.name (.slice (some ⟨ab, ao, none⟩) vs.length C) (faultVal' c) w ⟨_, _, _, rfl⟩ (fun W b hb hT =>
    run_a_stop i r hi hr hraw hkd hfr vs b ab ao C c W h0 h9 hc1 hc2 (hv.below hb) (hE.below hb) hT h1 h2
      (fun v hv' W' h => by
        obtain ⟨j, hj, rfl⟩ := List.mem_iff_getElem.1 hv'
        have hj' : j < qss.length := by rw [hA.1]; exact hj
        exact ((hA.below (hb.trans (h.mono hb.size))).2 j hj hj').check (hqs _ (List.getElem_mem hj')) ((hE.below hb).below h))
      (fun W' e g cap hb' hE' hfn hva => entryn2_stop r g cap e vs c W' hnum hfn eF hE' hva (fun W'' b' hb'' hE'' hP hbl _ ha hva' hne =>
        hF W'' b' g cap (hb.trans ((hb'.trans (hb''.mono hb'.size)).mono hb.size)) (Nat.le_trans hb.size (Nat.le_trans hb'.size hbl)) hE'' hP ha hva' hne) h0))
end Go.Proofs.YtemdjmaakajhjaaGreatDoor.Num.Ft

/- package fstat: SLOPE, INTERCEPT, RSQ of points of a line, as the law's stat calls them. Conditions: at most 30 points (Row12), two of which differ; the tables lie as they are laid. -/
namespace Go.Proofs.YtemdjmaakajhjaaGreatDoor.Num.Ft
open Go.RowKit Go.Lib Go.MapKept Num

theorem slope_sm {K : Int} (hK : K.natAbs ≤ 1000000) : Sm (slopeR K) 1000000 100 := ⟨K, 100, by decide, rfl, hK, by decide⟩
theorem slope_fits {K : Int} (hK : K.natAbs ≤ 1000000) : fits (slopeR K) = true := (slope_sm hK).fits (by decide +kernel) (by decide +kernel)
theorem sq_one {k s : Rat} (hk : k ≠ 0) (hs : s ≠ 0) : k * s * (k * s) / (k * k * s * s) = 1 := by
  have h1 : k * k ≠ 0 := fun e => by rcases Rat.mul_eq_zero.1 e with h | h <;> exact hk h
  have h2 : k * k * s ≠ 0 := fun e => by rcases Rat.mul_eq_zero.1 e with h | h; exact h1 h; exact hs h
  have h3 : k * k * s * s ≠ 0 := fun e => by rcases Rat.mul_eq_zero.1 e with h | h; exact h2 h; exact hs h
  rw [show k * s * (k * s) = k * k * s * s by grind]
  rw [Rat.div_def, Rat.mul_inv_cancel _ h3]
section
variable {xs : List Int} (h : Row12 1 6 xs) (K B : Int) (hK : K.natAbs ≤ 1000000) (hB : B.natAbs ≤ 1000000)
include h
theorem mean_sm : Sm (meanR (over 1 xs)) 30000000000000 30000000 := by
  rw [mean_over 1 xs (by decide) h.pos]
  exact ⟨_, _, h.cn, rfl, h.sumI, h.cn9⟩
include hK in
theorem line_mean_fits : fits (slopeR K * meanR (over 1 xs)) = true := ((slope_sm hK).mul (mean_sm h)).fits (by decide +kernel) (by decide +kernel)
theorem line_slope (hs : crossR (over 1 xs) (over 1 xs) ≠ 0) : crossR (over 100 (lineI K B xs)) (over 1 xs) / crossR (over 1 xs) (over 1 xs) = slopeR K := by
  rw [cross_line K B h.pos]
  grind
include hK hB
/-- read at the points -/
theorem read_line (ra sa rb sb : Int) (gp gq Cp Cq : Nat) (W : World) (hvp : ValsAt W gp 0 (numVals (over 100 (lineI K B xs)))) (hvq : ValsAt W gq 0 (numVals (over 1 xs))) (hE : EnvY W) :
    Calls Tryz.prog 175 #[(arrVal' ra sa gp (over 100 (lineI K B xs)).length Cp).agg, (arrVal' rb sb gq (over 1 xs).length Cq).agg] W fun e w' => (∃ A1 c1 A2 c2, e = .returned (.agg #[.slice A1 (over 100 (lineI K B xs)).length c1, .slice A2 (over 100 (lineI K B xs)).length c2, .string (numS (meanR (over 100 (lineI K B xs)))), .string (denS (meanR (over 100 (lineI K B xs)))), .string (numS (meanR (over 1 xs))), .string (denS (meanR (over 1 xs))), .string (numS (crossR (over 100 (lineI K B xs)) (over 100 (lineI K B xs)))), .string (denS (crossR (over 100 (lineI K B xs)) (over 100 (lineI K B xs)))), .string (numS (crossR (over 1 xs) (over 1 xs))), .string (denS (crossR (over 1 xs) (over 1 xs))), .string (numS (crossR (over 100 (lineI K B xs)) (over 1 xs))), .string (denS (crossR (over 100 (lineI K B xs)) (over 1 xs)))])) ∧ Below W.heap.size W w' :=
  read_num (line_row h K B hK hB) h (by unfold lineI; rw [List.length_map]) ra sa rb sb gp gq Cp Cq W hvp hvq hE
/-- the line through the points: slope and intercept -/
theorem line_num (hs : crossR (over 1 xs) (over 1 xs) ≠ 0) (L i0 : Nat) (ra sa rb sb : Int) (gp gq Cp Cq b g C : Nat) (W : World) (hi : i0 + 2 ≤ L) (hL : L ≤ 1000000000) (ha : ArgsAt W b (some ⟨g, 0, none⟩) L C i0) (hne : g ≠ b) (hc0 : CellsAt W g (0 + i0 * 9) (.int .i64 5) (.string { data := #[] }) (.string { data := #[] }) (.string { data := #[] }) (.bool false) (.int .i64 0) (.int .i64 ra) (.int .i64 sa) (.slice (some ⟨gp, 0, none⟩) (over 100 (lineI K B xs)).length Cp)) (hc1 : CellsAt W g (0 + (i0 + 1) * 9) (.int .i64 5) (.string { data := #[] }) (.string { data := #[] }) (.string { data := #[] }) (.bool false) (.int .i64 0) (.int .i64 rb) (.int .i64 sb) (.slice (some ⟨gq, 0, none⟩) (over 1 xs).length Cq))
    (hvp : ValsAt W gp 0 (numVals (over 100 (lineI K B xs)))) (hvq : ValsAt W gq 0 (numVals (over 1 xs))) (hpb : gp ≠ b) (hqb : gq ≠ b) (hE : EnvY W) (hP : Past b) :
    Calls Tryz.prog 177 #[.pointer (some ⟨b, 0, none⟩)] W fun e w' => e = .returned (.tuple #[.agg #[.string (numS (slopeR K)), .string (denS (slopeR K))], .agg #[.string (numS (slopeR B)), .string (denS (slopeR B))]]) ∧ W.grownBy w' (some b) := by
  have k := line_row h K B hK hB
  have hp0 := items_lt hvp k.len_pos
  have hq0 := items_lt hvq h.len_pos
  exact line_walk L i0 ra sa rb sb gp gq _ _ Cp Cq (over 100 (lineI K B xs)).length _ _ _ _ _ (slopeR K) (slopeR K * meanR (over 1 xs)) (slopeR B) b g C W
    (fun W' hg hE' => read_line h K B hK hB ra sa rb sb gp gq Cp Cq W' (vals_kept hvp hg hpb hp0) (vals_kept hvq hg hqb hq0) hE')
    (c_div (cross_fits k h) (cross_fits h h) hs (slope_fits hK) (line_slope h K B hs))
    (c_mul (slope_fits hK) h.mean (line_mean_fits h K hK) rfl)
    (c_sub k.mean (line_mean_fits h K hK) (slope_fits hB) (mean_line K B h.pos))
    hi hL ha hne hc0 hc1 hE hP
/-- the law's stat at SLOPE of the points -/
theorem s_SLOPE (hs : crossR (over 1 xs) (over 1 xs) ≠ 0) (n ab C gp gq Cp Cq : Nat) (w : World) (hn : xs.length = n) (hv : ValsAt w ab 0 [arrVal' (n : Int) 1 gp n Cp, arrVal' (n : Int) 1 gq n Cq]) (hvp : ValsAt w gp 0 (numVals (over 100 (lineI K B xs)))) (hvq : ValsAt w gq 0 (numVals (over 1 xs))) (hE : Env w) :
    Calls Tryz.prog 9 #[.string { data := #[83, 76, 79, 80, 69] }, .slice (some ⟨ab, 0, none⟩) 2 C] w fun e w' => e = .returned (numVal (slopeR K)) ∧ Below w.heap.size w w' := by
  have k := line_row h K B hK hB
  have hlp : (over 100 (lineI K B xs)).length = n := by rw [over_len]; unfold lineI; rw [List.length_map]; exact hn
  have hlq : (over 1 xs).length = n := by rw [over_len]; exact hn
  have h30 := h.len
  have hpos := h.pos
  have hp0 := items_lt hvp k.len_pos
  have hq0 := items_lt hvq h.len_pos
  have hAp : AArg w (arrVal' (n : Int) 1 gp n Cp) (over 100 (lineI K B xs)) := .inr ⟨(n : Int), 1, gp, Cp, by rw [hlp], by omega, by omega, by omega, by omega, by omega, by omega, by omega, hvp⟩
  have hAq : AArg w (arrVal' (n : Int) 1 gq n Cq) (over 1 xs) := .inr ⟨(n : Int), 1, gq, Cq, by rw [hlq], by omega, by omega, by omega, by omega, by omega, by omega, by omega, hvq⟩
  exact stat_v 28 ⟨{ data := #[83, 76, 79, 80, 69] }, 2, 2, { data := #[97] }, false, 176⟩ (by decide) rfl (by kernel_rfl) rfl (fr_of 28 (by decide) (by kernel_rfl)) rfl (enters_of Tryz.func176 (by kernel_rfl) rfl) [arrVal' (n : Int) 1 gp n Cp, arrVal' (n : Int) 1 gq n Cq] [over 100 (lineI K B xs), over 1 xs] ab 0 C (slopeR K) w (show 0 < 2 from by decide) (show 2 ≤ 300 from by decide) (show (2 : Int) ≤ 2 from by decide) (show (2 : Int) ≤ 2 from by decide) hv (args2_two hAp hAq) hE (by intro qs hq; simp only [List.mem_cons, List.not_mem_nil, or_false] at hq; rcases hq with rfl | rfl; exact k.each; exact h.each) (slope_fits hK)
    (by
      intro W b g cap hb hge hE' hP ha hva hne
      have hc0 := hva.at 0 (show 0 < 2 from by decide)
      have hc1 := hva.at 1 (show 1 < 2 from by decide)
      have hb0 : gp ≠ b := by omega
      have hb1 : gq ≠ b := by omega
      exact slope_walk (slopeR K) (slopeR B) b g cap W (fun W' hg hA' hE'' => by
          have T := line_num h K B hK hB hs 2 0 (n : Int) 1 (n : Int) 1 gp gq Cp Cq b g cap W' (by decide) (by decide) hA' hne (hlp ▸ hc0.kept hg hne) (hlq ▸ hc1.kept hg hne) (vals_kept (hvp.below hb) hg hb0 (Nat.lt_of_lt_of_le hp0 hb.size)) (vals_kept (hvq.below hb) hg hb1 (Nat.lt_of_lt_of_le hq0 hb.size)) hb0 hb1 hE'' hP
          exact T) ha hne hE' hP)
/-- the law's stat at INTERCEPT of the points -/
theorem s_INTERCEPT (hs : crossR (over 1 xs) (over 1 xs) ≠ 0) (n ab C gp gq Cp Cq : Nat) (w : World) (hn : xs.length = n) (hv : ValsAt w ab 0 [arrVal' (n : Int) 1 gp n Cp, arrVal' (n : Int) 1 gq n Cq]) (hvp : ValsAt w gp 0 (numVals (over 100 (lineI K B xs)))) (hvq : ValsAt w gq 0 (numVals (over 1 xs))) (hE : Env w) :
    Calls Tryz.prog 9 #[.string { data := #[73, 78, 84, 69, 82, 67, 69, 80, 84] }, .slice (some ⟨ab, 0, none⟩) 2 C] w fun e w' => e = .returned (numVal (slopeR B)) ∧ Below w.heap.size w w' := by
  have k := line_row h K B hK hB
  have hlp : (over 100 (lineI K B xs)).length = n := by rw [over_len]; unfold lineI; rw [List.length_map]; exact hn
  have hlq : (over 1 xs).length = n := by rw [over_len]; exact hn
  have h30 := h.len
  have hpos := h.pos
  have hp0 := items_lt hvp k.len_pos
  have hq0 := items_lt hvq h.len_pos
  have hAp : AArg w (arrVal' (n : Int) 1 gp n Cp) (over 100 (lineI K B xs)) := .inr ⟨(n : Int), 1, gp, Cp, by rw [hlp], by omega, by omega, by omega, by omega, by omega, by omega, by omega, hvp⟩
  have hAq : AArg w (arrVal' (n : Int) 1 gq n Cq) (over 1 xs) := .inr ⟨(n : Int), 1, gq, Cq, by rw [hlq], by omega, by omega, by omega, by omega, by omega, by omega, by omega, hvq⟩
  exact stat_v 29 ⟨{ data := #[73, 78, 84, 69, 82, 67, 69, 80, 84] }, 2, 2, { data := #[97] }, false, 178⟩ (by decide) rfl (by kernel_rfl) rfl (fr_of 29 (by decide) (by kernel_rfl)) rfl (enters_of Tryz.func178 (by kernel_rfl) rfl) [arrVal' (n : Int) 1 gp n Cp, arrVal' (n : Int) 1 gq n Cq] [over 100 (lineI K B xs), over 1 xs] ab 0 C (slopeR B) w (show 0 < 2 from by decide) (show 2 ≤ 300 from by decide) (show (2 : Int) ≤ 2 from by decide) (show (2 : Int) ≤ 2 from by decide) hv (args2_two hAp hAq) hE (by intro qs hq; simp only [List.mem_cons, List.not_mem_nil, or_false] at hq; rcases hq with rfl | rfl; exact k.each; exact h.each) (slope_fits hB)
    (by
      intro W b g cap hb hge hE' hP ha hva hne
      have hc0 := hva.at 0 (show 0 < 2 from by decide)
      have hc1 := hva.at 1 (show 1 < 2 from by decide)
      have hb0 : gp ≠ b := by omega
      have hb1 : gq ≠ b := by omega
      exact icept_walk (slopeR K) (slopeR B) b g cap W (fun W' hg hA' hE'' => by
          have T := line_num h K B hK hB hs 2 0 (n : Int) 1 (n : Int) 1 gp gq Cp Cq b g cap W' (by decide) (by decide) hA' hne (hlp ▸ hc0.kept hg hne) (hlq ▸ hc1.kept hg hne) (vals_kept (hvp.below hb) hg hb0 (Nat.lt_of_lt_of_le hp0 hb.size)) (vals_kept (hvq.below hb) hg hb1 (Nat.lt_of_lt_of_le hq0 hb.size)) hb0 hb1 hE'' hP
          exact T) ha hne hE' hP)
theorem s_RSQ (hk : slopeR K ≠ 0) (hs : crossR (over 1 xs) (over 1 xs) ≠ 0) (n ab C gp gq Cp Cq : Nat) (w : World) (hn : xs.length = n) (hv : ValsAt w ab 0 [arrVal' (n : Int) 1 gp n Cp, arrVal' (n : Int) 1 gq n Cq]) (hvp : ValsAt w gp 0 (numVals (over 100 (lineI K B xs)))) (hvq : ValsAt w gq 0 (numVals (over 1 xs))) (hE : Env w) :
    Calls Tryz.prog 9 #[.string { data := #[82, 83, 81] }, .slice (some ⟨ab, 0, none⟩) 2 C] w fun e w' => e = .returned (numVal 1) ∧ Below w.heap.size w w' := by
  have k := line_row h K B hK hB
  have hlp : (over 100 (lineI K B xs)).length = n := by rw [over_len]; unfold lineI; rw [List.length_map]; exact hn
  have hlq : (over 1 xs).length = n := by rw [over_len]; exact hn
  have h30 := h.len
  have hpos := h.pos
  have hp0 := items_lt hvp k.len_pos
  have hq0 := items_lt hvq h.len_pos
  have hAp : AArg w (arrVal' (n : Int) 1 gp n Cp) (over 100 (lineI K B xs)) := .inr ⟨(n : Int), 1, gp, Cp, by rw [hlp], by omega, by omega, by omega, by omega, by omega, by omega, by omega, hvp⟩
  have hAq : AArg w (arrVal' (n : Int) 1 gq n Cq) (over 1 xs) := .inr ⟨(n : Int), 1, gq, Cq, by rw [hlq], by omega, by omega, by omega, by omega, by omega, by omega, by omega, hvq⟩
  have fa : fits (crossR (over 100 (lineI K B xs)) (over 1 xs) * crossR (over 100 (lineI K B xs)) (over 1 xs)) = true := ((cross_sm k h).mul (cross_sm k h)).fits (by decide +kernel) (by decide +kernel)
  have fb : fits (crossR (over 100 (lineI K B xs)) (over 100 (lineI K B xs)) * crossR (over 1 xs) (over 1 xs)) = true := ((cross_sm k k).mul (cross_sm h h)).fits (by decide +kernel) (by decide +kernel)
  have e1 : crossR (over 100 (lineI K B xs)) (over 1 xs) * crossR (over 100 (lineI K B xs)) (over 1 xs) / (crossR (over 100 (lineI K B xs)) (over 100 (lineI K B xs)) * crossR (over 1 xs) (over 1 xs)) = 1 := by
    rw [cross_line K B h.pos, cross_line2 K B h.pos]
    exact sq_one hk hs
  have e0 : crossR (over 100 (lineI K B xs)) (over 100 (lineI K B xs)) * crossR (over 1 xs) (over 1 xs) ≠ 0 := fun e => by
    rw [e, show ∀ a : Rat, a / 0 = 0 by intro a; grind] at e1
    exact absurd e1 (by decide)
  exact stat_v 31 ⟨{ data := #[82, 83, 81] }, 2, 2, { data := #[97] }, false, 180⟩ (by decide) rfl (by kernel_rfl) rfl (fr_of 31 (by decide) (by kernel_rfl)) rfl (enters_of Tryz.func180 (by kernel_rfl) rfl) [arrVal' (n : Int) 1 gp n Cp, arrVal' (n : Int) 1 gq n Cq] [over 100 (lineI K B xs), over 1 xs] ab 0 C 1 w (show 0 < 2 from by decide) (show 2 ≤ 300 from by decide) (show (2 : Int) ≤ 2 from by decide) (show (2 : Int) ≤ 2 from by decide) hv (args2_two hAp hAq) hE (by intro qs hq; simp only [List.mem_cons, List.not_mem_nil, or_false] at hq; rcases hq with rfl | rfl; exact k.each; exact h.each) (by decide +kernel)
    (by
      intro W b g cap hb hge hE' hP ha hva hne
      have hc0 := hva.at 0 (show 0 < 2 from by decide)
      have hc1 := hva.at 1 (show 1 < 2 from by decide)
      have hb0 : gp ≠ b := by omega
      have hb1 : gq ≠ b := by omega
      exact rsq_walk (n : Int) 1 (n : Int) 1 gp gq _ _ Cp Cq n _ _ _ _ _ _ _ 1 b g cap W
        (fun W' hg hE'' => by
          have T := read_line h K B hK hB (n : Int) 1 (n : Int) 1 gp gq Cp Cq W' (vals_kept (hvp.below hb) hg hb0 (Nat.lt_of_lt_of_le hp0 hb.size)) (vals_kept (hvq.below hb) hg hb1 (Nat.lt_of_lt_of_le hq0 hb.size)) hE''
          rw [hlp, hlq] at T
          exact T)
        (c_mul (cross_fits k h) (cross_fits k h) fa rfl) (c_mul (cross_fits k k) (cross_fits h h) fb rfl)
        (c_div fa fb e0 (by decide +kernel) e1) ha hne hc0 hc1 hE' hP)
theorem s_RSQ_flat (hk : slopeR K = 0) (n ab C gp gq Cp Cq : Nat) (w : World) (hn : xs.length = n) (hv : ValsAt w ab 0 [arrVal' (n : Int) 1 gp n Cp, arrVal' (n : Int) 1 gq n Cq]) (hvp : ValsAt w gp 0 (numVals (over 100 (lineI K B xs)))) (hvq : ValsAt w gq 0 (numVals (over 1 xs))) (hE : Env w) :
    Calls Tryz.prog 9 #[.string { data := #[82, 83, 81] }, .slice (some ⟨ab, 0, none⟩) 2 C] w fun e w' => e = .returned (faultVal 1) ∧ Below w.heap.size w w' := by
  have k := line_row h K B hK hB
  have hlp : (over 100 (lineI K B xs)).length = n := by rw [over_len]; unfold lineI; rw [List.length_map]; exact hn
  have hlq : (over 1 xs).length = n := by rw [over_len]; exact hn
  have h30 := h.len
  have hpos := h.pos
  have hp0 := items_lt hvp k.len_pos
  have hq0 := items_lt hvq h.len_pos
  have hAp : AArg w (arrVal' (n : Int) 1 gp n Cp) (over 100 (lineI K B xs)) := .inr ⟨(n : Int), 1, gp, Cp, by rw [hlp], by omega, by omega, by omega, by omega, by omega, by omega, by omega, hvp⟩
  have hAq : AArg w (arrVal' (n : Int) 1 gq n Cq) (over 1 xs) := .inr ⟨(n : Int), 1, gq, Cq, by rw [hlq], by omega, by omega, by omega, by omega, by omega, by omega, by omega, hvq⟩
  have fa : fits (crossR (over 100 (lineI K B xs)) (over 1 xs) * crossR (over 100 (lineI K B xs)) (over 1 xs)) = true := ((cross_sm k h).mul (cross_sm k h)).fits (by decide +kernel) (by decide +kernel)
  have fb : fits (crossR (over 100 (lineI K B xs)) (over 100 (lineI K B xs)) * crossR (over 1 xs) (over 1 xs)) = true := ((cross_sm k k).mul (cross_sm h h)).fits (by decide +kernel) (by decide +kernel)
  have e0 : crossR (over 100 (lineI K B xs)) (over 100 (lineI K B xs)) * crossR (over 1 xs) (over 1 xs) = 0 := by
    rw [cross_line2 K B h.pos, hk]; grind
  exact stat_v_stop 31 ⟨{ data := #[82, 83, 81] }, 2, 2, { data := #[97] }, false, 180⟩ (by decide) rfl (by kernel_rfl) rfl (fr_of 31 (by decide) (by kernel_rfl)) rfl (enters_of Tryz.func180 (by kernel_rfl) rfl) [arrVal' (n : Int) 1 gp n Cp, arrVal' (n : Int) 1 gq n Cq] [over 100 (lineI K B xs), over 1 xs] ab 0 C 1 w (show 0 < 2 from by decide) (show 2 ≤ 300 from by decide) (show (2 : Int) ≤ 2 from by decide) (show (2 : Int) ≤ 2 from by decide) hv (args2_two hAp hAq) hE (by intro qs hq; simp only [List.mem_cons, List.not_mem_nil, or_false] at hq; rcases hq with rfl | rfl; exact k.each; exact h.each) (by decide) (by decide)
    (by
      intro W b g cap hb hge hE' hP ha hva hne
      have hc0 := hva.at 0 (show 0 < 2 from by decide)
      have hc1 := hva.at 1 (show 1 < 2 from by decide)
      have hb0 : gp ≠ b := by omega
      have hb1 : gq ≠ b := by omega
      exact rsq_stop (n : Int) 1 (n : Int) 1 gp gq _ _ Cp Cq n _ _ _ _ _ _ _ b g cap W
        (fun W' hg hE'' => by
          have T := read_line h K B hK hB (n : Int) 1 (n : Int) 1 gp gq Cp Cq W' (vals_kept (hvp.below hb) hg hb0 (Nat.lt_of_lt_of_le hp0 hb.size)) (vals_kept (hvq.below hb) hg hb1 (Nat.lt_of_lt_of_le hq0 hb.size)) hE''
          rw [hlp, hlq] at T
          exact T)
        (c_mul (cross_fits k h) (cross_fits k h) fa rfl) (c_mul (cross_fits k k) (cross_fits h h) fb rfl)
        (fun W => by
          have T := s_div_zero (crossR (over 100 (lineI K B xs)) (over 1 xs) * crossR (over 100 (lineI K B xs)) (over 1 xs)) W fa
          rw [← e0] at T
          exact T) ha hne hc0 hc1 hE' hP)
end
end Go.Proofs.YtemdjmaakajhjaaGreatDoor.Num.Ft

/- package value: Lift at the kinds 'sa' where no argument is lifted. Conditions: the tables lie as they are laid. -/
namespace Go.Proofs.YtemdjmaakajhjaaGreatDoor.Num
open Go.RowKit Go.Lib

set_option maxHeartbeats 1000000 in
theorem letter_sa0 (i : Nat) (hi : i = 0) (w : World) : Calls Tryz.prog 131 #[.string { data := #[115, 97] }, .int .i64 (i : Int)] w fun e w' => e = .returned (.int .u8 115) ∧ w' = w := by
  have hm : min (i : Int) 1 = 0 := by omega
  go_enter Tryz.func131, Tryz.ntmps131
  go_wp2
  go_ret
  exact ⟨by first | rfl | simp, rfl⟩

set_option maxHeartbeats 1000000 in
theorem letter_sa1 (i : Nat) (h0 : 1 ≤ i) (hi : i ≤ 1000000) (w : World) : Calls Tryz.prog 131 #[.string { data := #[115, 97] }, .int .i64 (i : Int)] w fun e w' => e = .returned (.int .u8 97) ∧ w' = w := by
  have hm : min (i : Int) 1 = 1 := by omega
  go_enter Tryz.func131, Tryz.ntmps131
  go_wp2
  go_ret
  exact ⟨by first | rfl | simp, rfl⟩

set_option maxHeartbeats 8000000 in
set_option maxRecDepth 100000 in
theorem lift_sa (vs : List Val) (ab ao C pb : Nat) (q : Val) (w : World) (h0 : 0 < vs.length) (h9 : vs.length ≤ 300) (hno0 : ∀ (h : 0 < vs.length), (vs[0].k == 5) = false) (hv : ValsAt w ab ao vs) (hE : Env w) (hq : q.A = none ∧ q.L = 0 ∧ q.C = 0)
    (hC : ∀ v ∈ vs, ∀ W, Below w.heap.size w W → Calls Tryz.prog 39 #[v.agg] W fun e w' => e = .returned (.int .i64 0) ∧ Below W.heap.size W w')
    (hO : ∀ W, Env W → Calls Tryz.prog 39 #[q.agg] W fun e w' => e = .returned (.int .i64 0) ∧ Below W.heap.size W w')
    (hF : ∀ W g cap, Below w.heap.size w W → ValsAt W g 0 vs → Calls Tryz.prog 41 #[.slice (some ⟨g, 0, none⟩) vs.length cap, .pointer (some ⟨pb, 0, none⟩)] W fun e w' => e = .returned q.agg ∧ Below W.heap.size W w') :
    Calls Tryz.prog 40 #[.string { data := #[115, 97] }, .slice (some ⟨ab, ao, none⟩) vs.length C, .func (.func 41) #[] #[.pointer (some ⟨pb, 0, none⟩)]] w fun e w' => e = .returned (.tuple #[q.agg, .int .i64 0]) ∧ Below w.heap.size w w' := by
  obtain ⟨qk, qn, qd, qt, qon, qc, qr, qs, qA, qL, qC⟩ := q
  obtain ⟨rfl, rfl, rfl⟩ := hq
  have hb : Below w.heap.size w (w.alloc (.cells #[.int .i64 0, .string { data := #[] }, .string { data := #[] }, .string { data := #[] }, .bool false, .int .i64 0, .int .i64 0, .int .i64 0, .slice none 0 0] 27)) := (Below.refl _ _).alloc (Nat.le_refl _) _
  have HR := Lib.hid (heap_alloc_new w (.cells #[.int .i64 0, .string { data := #[] }, .string { data := #[] }, .string { data := #[] }, .bool false, .int .i64 0, .int .i64 0, .int .i64 0, .slice none 0 0] 27))
  have HV := Lib.hid (hv.below hb)
  have HE := Lib.hid (hE.below hb)
  have HL := Lib.hid hb
  have HC := Lib.hid hC
  have HO := Lib.hid (fun W g => valid_of qk qn qd qt qon qc qr qs none 0 0 W hO g)
  have HF := Lib.hid hF
  obtain ⟨L, hL⟩ : ∃ L, vs.length = L := ⟨_, rfl⟩
  have HLL := Lib.hid hL
  rw [hL] at h0 h9 HF ⊢
  have htr := fun W => Any.strings_Trim_laid Tryz.lays160 (by kernel_rfl) { data := #[115, 97] } { data := #[115, 97] } W (by decide) (by decide) (ascii_of_all (by decide))
  rw [show Lib.trimS ({ data := #[115, 97] } : ByteArray).data.toList ({ data := #[115, 97] } : ByteArray).data.toList = [] from by decide] at htr
  have HTR := Lib.hid htr
  have hem : ({ data := #[] } : ByteArray).toList.isEmpty = true := by rw [Lib.toList_data]; rfl
  obtain ⟨B, hB⟩ : ∃ B, w.heap.size = B := ⟨_, rfl⟩
  have HB := Lib.hid hB
  clear hb hv hE hC hO hF hL htr hB
  go_enter Tryz.func40, Tryz.ntmps40
  go_wp2_with fail
  refine (HTR.out _).mono ?_
  rintro e w1 ⟨rfl, hb⟩
  replace HR := Lib.hid (keep_block HR.out hb)
  replace HV := Lib.hid (HV.out.below hb)
  replace HE := Lib.hid (HE.out.below hb)
  replace HL := Lib.hid (HL.out.trans (hb.mono HL.out.size))
  clear hb
  have LI := Lib.hid (show LiftI w ab ao vs w1 from ⟨HR.out, HV.out, HE.out, HL.out⟩)
  clear HR HV HE HL
  go_wp2_with fail
  go_loopg [29] L (fun g v29 wx => ∃ i : Nat, v29 = .int .i64 (i : Int) ∧ i ≤ L ∧ g = L - i ∧ LiftI w ab ao vs wx)
  case atStart => exact ⟨0, rfl, Nat.zero_le _, rfl, LI.out⟩
  case round =>
    obtain ⟨i, rfl, hi, rfl, hli⟩ := hrel
    have HLI := Lib.hid hli
    clear hli LI
    by_cases hlt : i < L
    · have hd : decide ((i : Int) < (L : Int)) = true := decide_eq_true (by omega)
      have hd2 : decide (i < L) = true := decide_eq_true hlt
      have hii : i < vs.length := by rw [HLL.out]; exact hlt
      obtain ⟨c0, c1, c2, c3, c4, c5, c6, c7, c8⟩ := HLI.out.2.1.at i hii
      have hi0 : (0 : Int) ≤ (i : Int) := by omega
      have hi1 : (i : Int) < (L : Int) := by omega
      have TC := Lib.hid (HC.out vs[i] (List.getElem_mem hii))
      have HA := Lib.hid (HLI.out.2.2.2.trans ((Below.refl wr.heap.size wr).alloc (Nat.le_refl _) (.cells #[.int .i64 vs[i].k, .string vs[i].n, .string vs[i].d, .string vs[i].t, .bool vs[i].on, .int .i64 vs[i].c, .int .i64 vs[i].r, .int .i64 vs[i].s, .slice vs[i].A vs[i].L vs[i].C] 27) |>.mono HLI.out.2.2.2.size))
      go_wp2_with fail
      refine (TC.out _ HA.out).mono ?_
      rintro e w2 ⟨rfl, hb⟩
      have HLI2 := Lib.hid ((HLI.out.step ((Below.refl wr.heap.size wr).alloc (Nat.le_refl _) (.cells #[.int .i64 vs[i].k, .string vs[i].n, .string vs[i].d, .string vs[i].t, .bool vs[i].on, .int .i64 vs[i].c, .int .i64 vs[i].r, .int .i64 vs[i].s, .slice vs[i].A vs[i].L vs[i].C] 27))).step hb)
      clear hb c0 c1 c2 c3 c4 c5 c6 c7 c8
      go_wp2
      go_roundg (L - (i + 1))
      case measure => omega
      case rel => exact ⟨i + 1, by go_num, by omega, by omega, HLI2.out⟩
    · have hd : decide ((i : Int) < (L : Int)) = false := decide_eq_false (by omega)
      have hd2 : decide (i < L) = false := decide_eq_false hlt
      clear hlt
      go_wp2_with fail
      go_loopg [11, 12, 42] L (fun g v11 v12 v42 wx => ∃ i : Nat, v11 = .int .i64 0 ∧ v12 = .int .i64 0 ∧ v42 = .int .i64 (i : Int) ∧ i ≤ L ∧ g = L - i ∧ LiftI w ab ao vs wx)
      case atStart => exact ⟨0, rfl, rfl, rfl, Nat.zero_le _, rfl, HLI.out⟩
      case round =>
        clear HLI hd hd2 hi
        obtain ⟨i, rfl, rfl, rfl, hi, rfl, hli⟩ := hrel
        have HLI := Lib.hid hli
        clear hli
        by_cases hlt : i < L
        · have hd : decide ((i : Int) < (L : Int)) = true := decide_eq_true (by omega)
          have hd2 : decide (i < L) = true := decide_eq_true hlt
          have hii : i < vs.length := by rw [HLL.out]; exact hlt
          obtain ⟨c0, c1, c2, c3, c4, c5, c6, c7, c8⟩ := HLI.out.2.1.at i hii
          have hi0 : (0 : Int) ≤ (i : Int) := by omega
          have hi1 : (i : Int) < (L : Int) := by omega
          by_cases h0 : i = 0
          · skip
            have hkf : (vs[i].k == 5) = false := by subst h0; exact hno0 hii
            have hI := Lib.hid h0
            clear h0
            go_wp2_with fail
            refine (letter_sa0 i hI.out _).mono ?_
            rintro e w2 ⟨rfl, rfl⟩
            have HLI2 := Lib.hid (HLI.out.step ((Below.refl wr.heap.size wr).alloc (Nat.le_refl _) (.cells #[.int .i64 vs[i].k, .string vs[i].n, .string vs[i].d, .string vs[i].t, .bool vs[i].on, .int .i64 vs[i].c, .int .i64 vs[i].r, .int .i64 vs[i].s, .slice vs[i].A vs[i].L vs[i].C] 27)))
            go_wp2
            go_roundg (L - (i + 1))
            case measure => omega
            case rel => exact ⟨i + 1, rfl, rfl, by go_num, by omega, by omega, HLI2.out⟩
          · skip
            have hgt : 1 ≤ i := by omega
            skip
            go_wp2_with fail
            refine (letter_sa1 i hgt (by omega) _).mono ?_
            rintro e w2 ⟨rfl, rfl⟩
            have HLI2 := Lib.hid (HLI.out.step ((Below.refl wr.heap.size wr).alloc (Nat.le_refl _) (.cells #[.int .i64 vs[i].k, .string vs[i].n, .string vs[i].d, .string vs[i].t, .bool vs[i].on, .int .i64 vs[i].c, .int .i64 vs[i].r, .int .i64 vs[i].s, .slice vs[i].A vs[i].L vs[i].C] 27)))
            go_wp2
            go_roundg (L - (i + 1))
            case measure => omega
            case rel => exact ⟨i + 1, rfl, rfl, by go_num, by omega, by omega, HLI2.out⟩
        · have hd : decide ((i : Int) < (L : Int)) = false := decide_eq_false (by omega)
          have hd2 : decide (i < L) = false := decide_eq_false hlt
          clear hlt
          obtain ⟨i0, hi0', hz0, hz1, hz2⟩ := info_val
          have hfl : (flat vs).length = L * 9 := by rw [flat_len, HLL.out]
          have hvals := HLI.out.2.1
          have hml : 0 + L ≤ maxLen := by unfold maxLen; omega
          clear hi
          go_wp2_with (at_builtin; refine wpList_append_own _ rfl _ _ 25 rfl w.heap.size 27 i0 _ 9 112 Tryz.underlying25 hi0' hz0 hz1 hz2 rfl (by decide) (.slice none 0 0) 0 [] rfl (World.ownsRow_nil _ _ _ _) ⟨ab, ao, none⟩ L C (flat vs) rfl hfl hvals (flat_one vs) hml (by omega) HLI.out.2.2.2.size ?_)
          intro v5 w5 hown5 hgrow5 _
          obtain ⟨g, cap, rfl, hg, hcap, hva⟩ := vals_of_owns hown5 HLL.out h0
          have HLI5 := Lib.hid (HLI.out.step (below_none hgrow5))
          have HVA := Lib.hid hva
          clear hown5 hgrow5 hg hcap hva hvals hfl hml hi0' hz0 hz1 hz2
          go_wp2_with fail
          refine (HF.out _ g cap HLI5.out.2.2.2 HVA.out).mono ?_
          rintro e w6 ⟨rfl, hb⟩
          have HLI6 := Lib.hid (HLI5.out.step hb)
          clear hb
          unfold Val.agg
          simp only []
          go_wp2_with fail
          refine (HO.out _ HLI6.out.2.2.1).mono ?_
          rintro e w7 ⟨rfl, hb⟩
          have HLI7 := Lib.hid (HLI6.out.step hb)
          clear hb
          have HLI8 := Lib.hid (HLI7.out.step ((Below.refl w7.heap.size w7).alloc (Nat.le_refl _) (.cells #[.int .i64 qk, .string qn, .string qd, .string qt, .bool qon, .int .i64 qc, .int .i64 qr, .int .i64 qs, .slice none 0 0] 27)))
          obtain ⟨⟨a0, a1, a2, a3, a4, a5, a6, a7, a8⟩, b0, b1, b2, b3, b4, b5, b6, b7, b8⟩ := nine_at HLI7.out.1
          obtain ⟨⟨r0, r1, r2, r3, r4, r5, r6, r7, r8⟩, g0, g1, g2, g3, g4, g5, g6, g7, g8⟩ := nine_at HLI8.out.1
          have hlt7 := heap_lt HLI7.out.1
          have HF1 := Lib.hid (set9_at HLI7.out.1 (.int .i64 qk) (.string qn) (.string qd) (.string qt) (.bool qon) (.int .i64 qc) (.int .i64 qr) (.int .i64 qs) (.slice none 0 0))
          have HF2 := Lib.hid ((Below.heap_alloc _ (.cells #[.int .i64 qk, .string qn, .string qd, .string qt, .bool qon, .int .i64 qc, .int .i64 qr, .int .i64 qs, .slice none 0 0] 27) _ (heap_lt HF1.out)).trans HF1.out)
          have HB2 := Lib.hid (nine_end (x0 := (.int .i64 qk)) (x1 := (.string qn)) (x2 := (.string qd)) (x3 := (.string qt)) (x4 := (.bool qon)) (x5 := (.int .i64 qc)) (x6 := (.int .i64 qr)) (x7 := (.int .i64 qs)) (x8 := (.slice none 0 0)) HLI7.out.1 HLI7.out.2.2.2 (Nat.le_refl _)).1
          have HZ2 := Lib.hid (HB2.out.alloc HB2.out.size (.cells #[.int .i64 qk, .string qn, .string qd, .string qt, .bool qon, .int .i64 qc, .int .i64 qr, .int .i64 qs, .slice none 0 0] 27))
          obtain ⟨⟨e0, e1, e2, e3, e4, e5, e6, e7, e8⟩, _⟩ := nine_at HF2.out
          go_wp2
          refine bodyPost_ret (v := .tuple #[.agg #[.int .i64 qk, .string qn, .string qd, .string qt, .bool qon, .int .i64 qc, .int .i64 qr, .int .i64 qs, .slice none 0 0], .int .i64 0]) (by simp [results, Tryz.results40, go_sem, e0, e1, e2, e3, e4, e5, e6, e7, e8]) rfl ⟨rfl, HZ2.out⟩
end Go.Proofs.YtemdjmaakajhjaaGreatDoor.Num

/- package value: Run at a row of fstat's table with the kinds 'sa'. Conditions: the tables lie as they are laid. -/
namespace Go.Proofs.YtemdjmaakajhjaaGreatDoor.Num.Ft
open Go.RowKit Go.Lib Go.MapKept Num
attribute [local go_sem] run_store_func

set_option maxHeartbeats 8000000 in
set_option maxRecDepth 100000 in
theorem run_sa_val (i : Nat) (r : Row) (hi : i < allRows.length) (hr : allRows[i] = r) (hraw : isRaw r.fn = false) (hkd : r.kinds = { data := #[115, 97] }) (hfr : ∀ j (hj : j < i), (allRows[i].name == (allRows[j]'(by omega)).name) = false) (vs : List Val) (b ab ao C : Nat) (q : Val) (w : World) (h0 : 0 < vs.length) (h9 : vs.length ≤ 300) (hc1 : r.least ≤ vs.length) (hc2 : (vs.length : Int) ≤ r.most) (hno0 : ∀ (h : 0 < vs.length), (vs[0].k == 5) = false) (hv : ValsAt w ab ao vs) (hE : Env w) (hT : TableAt w b allRows) (hq : q.A = none ∧ q.L = 0 ∧ q.C = 0 ∧ q.r = 0 ∧ q.s = 0)
    (hO : ∀ W, Env W → Calls Tryz.prog 39 #[q.agg] W fun e w' => e = .returned (.int .i64 0) ∧ Below W.heap.size W w') 
    (hC : ∀ v ∈ vs, ∀ W, Below w.heap.size w W → Calls Tryz.prog 39 #[v.agg] W fun e w' => e = .returned (.int .i64 0) ∧ Below W.heap.size W w')
    (hK : ∀ W e g cap, Below w.heap.size w W → Env W → FnAt W e r → ValsAt W g 0 vs → Calls Tryz.prog 133 #[.slice (some ⟨g, 0, none⟩) vs.length cap, .pointer (some ⟨e, 0, none⟩)] W fun e w' => e = .returned q.agg ∧ Below W.heap.size W w') :
    Calls Tryz.prog 27 #[.map (some b), .string r.name, .slice (some ⟨ab, ao, none⟩) vs.length C] w fun e w' => e = .returned (.tuple #[(q).agg, .int .i64 0]) ∧ Below w.heap.size w w' := by
  have hb : Below w.heap.size w (w.alloc (.cells #[.int .i64 0, .string { data := #[] }, .string { data := #[] }, .string { data := #[] }, .bool false, .int .i64 0, .int .i64 0, .int .i64 0, .slice none 0 0] 27)) := (Below.refl _ _).alloc (Nat.le_refl _) _
  have HR := Lib.hid (heap_alloc_new w (.cells #[.int .i64 0, .string { data := #[] }, .string { data := #[] }, .string { data := #[] }, .bool false, .int .i64 0, .int .i64 0, .int .i64 0, .slice none 0 0] 27))
  obtain ⟨v, hrf, hrun⟩ := (hT.below hb).look i hi hfr Tryz.underlying57 Tryz.underlying9
  rw [hr] at hrf hrun
  obtain ⟨e0, rfl, hfn⟩ := rowFn_at hrf hraw
  obtain ⟨name, least, most, kinds, num, F⟩ := r
  simp only at hkd hc1 hc2
  subst hkd
  simp only at hrun ⊢
  have HV := Lib.hid (hv.below hb)
  have HE := Lib.hid (hE.below hb)
  have HL := Lib.hid hb
  have HFN := Lib.hid hfn
  have d1 : decide ((vs.length : Int) < least) = false := decide_eq_false (by omega)
  have d2 : decide (most < (vs.length : Int)) = false := decide_eq_false (by omega)
  have hmf : ∀ (fn : Fn) (first cap : Array Value) (w : World), (Instr.makeFunc fn first cap).run Tryz.prog w = .ok (.func fn first cap) w := fun _ _ _ _ => rfl
  have hb : Below (w.alloc (.cells #[.int .i64 0, .string { data := #[] }, .string { data := #[] }, .string { data := #[] }, .bool false, .int .i64 0, .int .i64 0, .int .i64 0, .slice none 0 0] 27)).heap.size (w.alloc (.cells #[.int .i64 0, .string { data := #[] }, .string { data := #[] }, .string { data := #[] }, .bool false, .int .i64 0, .int .i64 0, .int .i64 0, .slice none 0 0] 27)) ((w.alloc (.cells #[.int .i64 0, .string { data := #[] }, .string { data := #[] }, .string { data := #[] }, .bool false, .int .i64 0, .int .i64 0, .int .i64 0, .slice none 0 0] 27)).alloc (.cells #[.int .i64 least, .int .i64 most, .string { data := #[115, 97] }, .func (.func 133) #[] #[.pointer (some ⟨e0, 0, none⟩)]] 76)) := (Below.refl _ _).alloc (Nat.le_refl _) _
  have HX := Lib.hid (Lib.cell_of_heap (heap_alloc_new (w.alloc (.cells #[.int .i64 0, .string { data := #[] }, .string { data := #[] }, .string { data := #[] }, .bool false, .int .i64 0, .int .i64 0, .int .i64 0, .slice none 0 0] 27)) (.cells #[.int .i64 least, .int .i64 most, .string { data := #[115, 97] }, .func (.func 133) #[] #[.pointer (some ⟨e0, 0, none⟩)]] 76)) 3)
  replace HR := Lib.hid (keep_block HR.out hb)
  replace HV := Lib.hid (HV.out.below hb)
  replace HE := Lib.hid (HE.out.below hb)
  replace HL := Lib.hid (HL.out.trans (hb.mono HL.out.size))
  replace HFN := Lib.hid (HFN.out.below hb)
  have hpos : (w.alloc (.cells #[.int .i64 0, .string { data := #[] }, .string { data := #[] }, .string { data := #[] }, .bool false, .int .i64 0, .int .i64 0, .int .i64 0, .slice none 0 0] 27)).heap.size = w.heap.size + 1 := by simp
  rw [hpos] at HX
  have TL := Lib.hid (lift_sa vs ab ao C (w.heap.size + 1) (q) ((w.alloc (.cells #[.int .i64 0, .string { data := #[] }, .string { data := #[] }, .string { data := #[] }, .bool false, .int .i64 0, .int .i64 0, .int .i64 0, .slice none 0 0] 27)).alloc (.cells #[.int .i64 least, .int .i64 most, .string { data := #[115, 97] }, .func (.func 133) #[] #[.pointer (some ⟨e0, 0, none⟩)]] 76)) h0 h9 hno0 HV.out HE.out ⟨hq.1, hq.2.1, hq.2.2.1⟩
    (fun v hv W h => hC v hv W (HL.out.trans (h.mono HL.out.size))) (hO)
    (fun W g cap hbw hva => by
      have h := run1_value (w.heap.size + 1) 0 e0 (.slice (some ⟨g, 0, none⟩) vs.length cap) q.k q.n q.d q.t q.on q.c q.A q.L q.C W ⟨_, _, _, rfl⟩ (cell_below HX.out hbw) (HE.out.below hbw) (fun W' hb' => by
        have h2 := hK W' e0 g cap (HL.out.trans ((hbw.trans (hb'.mono hbw.size)).mono HL.out.size)) (HE.out.below (hbw.trans (hb'.mono hbw.size))) (HFN.out.below (hbw.trans (hb'.mono hbw.size))) (hva.below hb')
        unfold Val.agg at h2
        rw [hq.2.2.2.1, hq.2.2.2.2] at h2
        exact h2)
      unfold Val.agg
      rw [hq.2.2.2.1, hq.2.2.2.2]
      exact h))
  obtain ⟨qq, hqq⟩ : ∃ z, (q) = z := ⟨_, rfl⟩
  rw [hqq] at TL ⊢
  clear hqq hb hv hE hT hC hK hrf hfn hpos hfr hr hi h0 h9 hc1 hc2
  go_enter Tryz.func27, Tryz.ntmps27
  unfold Val.agg at TL ⊢
  go_wp2_with fail
  refine TL.out.mono ?_
  rintro e w2 ⟨rfl, hb2⟩
  replace HR := Lib.hid (keep_block HR.out hb2)
  replace HL := Lib.hid (HL.out.trans (hb2.mono HL.out.size))
  clear hb2
  obtain ⟨⟨r0, r1, r2, r3, r4, r5, r6, r7, r8⟩, g0, g1, g2, g3, g4, g5, g6, g7, g8⟩ := nine_at HR.out
  obtain ⟨nb, z0, z1, z2, z3, z4, z5, z6, z7, z8⟩ := nine_end (x0 := (.int .i64 qq.k)) (x1 := (.string qq.n)) (x2 := (.string qq.d)) (x3 := (.string qq.t)) (x4 := (.bool qq.on)) (x5 := (.int .i64 qq.c)) (x6 := (.int .i64 qq.r)) (x7 := (.int .i64 qq.s)) (x8 := (.slice qq.A qq.L qq.C)) HR.out HL.out (Nat.le_refl _)
  go_wp2
  refine bodyPost_ret (v := .tuple #[.agg #[.int .i64 qq.k, .string qq.n, .string qq.d, .string qq.t, .bool qq.on, .int .i64 qq.c, .int .i64 qq.r, .int .i64 qq.s, .slice qq.A qq.L qq.C], .int .i64 0]) (by simp [results, Tryz.results27, go_sem, z0, z1, z2, z3, z4, z5, z6, z7, z8]) rfl ⟨rfl, nb⟩

end Go.Proofs.YtemdjmaakajhjaaGreatDoor.Num.Ft

/- package fstat: FORECAST at points of a line, as the law's stat calls it. Conditions: at most 30 points (Row12), two of which differ; the tables lie as they are laid. -/
namespace Go.Proofs.YtemdjmaakajhjaaGreatDoor.Num.Ft
open Go.RowKit Go.Lib Go.MapKept Num

/-- the law's stat at a row whose first argument is a single value -/
theorem stat_sa (i : Nat) (r : Row) (hi : i < allRows.length) (hr : allRows[i] = r) (hraw : isRaw r.fn = false) (hkd : r.kinds = { data := #[115, 97] }) (hfr : ∀ j (hj : j < i), (allRows[i].name == (allRows[j]'(by omega)).name) = false) (hnum : r.num = false) (eF : ∀ args w, (callFunc r.fn args).run Tryz.prog w = .ok (.enter r.fn args) w) (vs : List Val) (ab ao C : Nat) (q : Rat) (w : World) (h0 : 0 < vs.length) (h9 : vs.length ≤ 300) (hc1 : r.least ≤ vs.length) (hc2 : (vs.length : Int) ≤ r.most) (hno0 : ∀ (h : 0 < vs.length), (vs[0].k == 5) = false) (hv : ValsAt w ab ao vs) (hE : Env w) (hq : fits q = true)
    (hC : ∀ v ∈ vs, ∀ W, Below w.heap.size w W → Env W → Calls Tryz.prog 39 #[v.agg] W fun e w' => e = .returned (.int .i64 0) ∧ Below W.heap.size W w')
    (hF : ∀ W b g cap, Below w.heap.size w W → w.heap.size ≤ b → Env W → Past b → ArgsAt W b (some ⟨g, 0, none⟩) vs.length cap 0 → ValsAt W g 0 vs → g ≠ b → Calls Tryz.prog r.fn #[.pointer (some ⟨b, 0, none⟩)] W fun e w' => e = .returned (fracV q) ∧ W.grownBy w' (some b)) :
    Calls Tryz.prog 9 #[.string r.name, .slice (some ⟨ab, ao, none⟩) vs.length C] w fun e w' => e = .returned (numVal q) ∧ Below w.heap.size w w' :=
  math_of r.name (.slice (some ⟨ab, ao, none⟩) vs.length C) (numVal' q) w ⟨_, _, _, rfl⟩ (fun W b hb hT =>
    run_sa_val i r hi hr hraw hkd hfr vs b ab ao C (numVal' q) W h0 h9 hc1 hc2 hno0 (hv.below hb) (hE.below hb) hT ⟨rfl, rfl, rfl, rfl, rfl⟩ (fun W g => check_num q W hq g)
      (fun v hv' W' h => hC v hv' W' (hb.trans (h.mono hb.size)) ((hE.below hb).below h))
      (fun W' e g cap hb' hE' hfn hva => entryn2_val r g cap e vs q W' hnum hfn eF hE' hva hq (fun W'' b' hb'' hE'' hP hbl _ ha hva' hne =>
        hF W'' b' g cap (hb.trans ((hb'.trans (hb''.mono hb'.size)).mono hb.size)) (Nat.le_trans hb.size (Nat.le_trans hb'.size hbl)) hE'' hP ha hva' hne) h0))
section
variable {xs : List Int} (h : Row12 1 6 xs) (K B : Int) (hK : K.natAbs ≤ 1000000) (hB : B.natAbs ≤ 1000000)
include hK in
theorem ten_sm : Sm (((10 : Int) : Rat) * slopeR K) (10 * 1000000) (1 * 100) := (Sm.int 10 (by decide)).mul (slope_sm hK)
include hK in
theorem ten_fits : fits (((10 : Int) : Rat) * slopeR K) = true := (ten_sm K hK).fits (by decide +kernel) (by decide +kernel)
include hK hB in
theorem cast_fits : fits (slopeR B + ((10 : Int) : Rat) * slopeR K) = true := ((slope_sm hB).add (ten_sm K hK)).fits (by decide +kernel) (by decide +kernel)
include h hK hB
/-- the law's stat at FORECAST of 10 and the points -/
theorem s_FORECAST (hs : crossR (over 1 xs) (over 1 xs) ≠ 0) (n ab C gp gq Cp Cq : Nat) (w : World) (hn : xs.length = n) (hv : ValsAt w ab 0 [numVal' ((10 : Int) : Rat), arrVal' (n : Int) 1 gp n Cp, arrVal' (n : Int) 1 gq n Cq]) (hvp : ValsAt w gp 0 (numVals (over 100 (lineI K B xs)))) (hvq : ValsAt w gq 0 (numVals (over 1 xs))) (hE : Env w) :
    Calls Tryz.prog 9 #[.string { data := #[70, 79, 82, 69, 67, 65, 83, 84] }, .slice (some ⟨ab, 0, none⟩) 3 C] w fun e w' => e = .returned (numVal (slopeR B + ((10 : Int) : Rat) * slopeR K)) ∧ Below w.heap.size w w' := by
  have k := line_row h K B hK hB
  have hlp : (over 100 (lineI K B xs)).length = n := by rw [over_len]; unfold lineI; rw [List.length_map]; exact hn
  have hlq : (over 1 xs).length = n := by rw [over_len]; exact hn
  have h30 := h.len
  have hpos := h.pos
  have hp0 := items_lt hvp k.len_pos
  have hq0 := items_lt hvq h.len_pos
  have hAp : AArg w (arrVal' (n : Int) 1 gp n Cp) (over 100 (lineI K B xs)) := .inr ⟨(n : Int), 1, gp, Cp, by rw [hlp], by omega, by omega, by omega, by omega, by omega, by omega, by omega, hvp⟩
  have hAq : AArg w (arrVal' (n : Int) 1 gq n Cq) (over 1 xs) := .inr ⟨(n : Int), 1, gq, Cq, by rw [hlq], by omega, by omega, by omega, by omega, by omega, by omega, by omega, hvq⟩
  have f10 : fits ((10 : Int) : Rat) = true := fits_int 10 (by decide)
  exact stat_sa 30 ⟨{ data := #[70, 79, 82, 69, 67, 65, 83, 84] }, 3, 3, { data := #[115, 97] }, false, 179⟩ (by decide) rfl (by kernel_rfl) rfl (fr_of 30 (by decide) (by kernel_rfl)) rfl (enters_of Tryz.func179 (by kernel_rfl) rfl) [numVal' ((10 : Int) : Rat), arrVal' (n : Int) 1 gp n Cp, arrVal' (n : Int) 1 gq n Cq] ab 0 C (slopeR B + ((10 : Int) : Rat) * slopeR K) w (show 0 < 3 from by decide) (show 3 ≤ 300 from by decide) (show (3 : Int) ≤ 3 from by decide) (show (3 : Int) ≤ 3 from by decide) (fun _ => rfl) hv hE (cast_fits K B hK hB)
    (by
      intro v hv' W hb hE'
      simp only [List.mem_cons, List.not_mem_nil, or_false] at hv'
      rcases hv' with rfl | rfl | rfl
      · exact check_num _ W f10 hE'
      · exact (hAp.below hb).check k.each hE'
      · exact (hAq.below hb).check h.each hE')
    (by
      intro W b g cap hb hge hE' hP ha hva hne
      have hc0 := hva.at 0 (show 0 < 3 from by decide)
      have hc1 := hva.at 1 (show 1 < 3 from by decide)
      have hc2 := hva.at 2 (show 2 < 3 from by decide)
      have hb0 : gp ≠ b := by omega
      have hb1 : gq ≠ b := by omega
      exact fcast_walk ((10 : Int) : Rat) (slopeR K) (slopeR B) (((10 : Int) : Rat) * slopeR K) (slopeR B + ((10 : Int) : Rat) * slopeR K) b g cap W f10
        (fun W' hg hA' hE'' => by
          have T := line_num h K B hK hB hs 3 1 (n : Int) 1 (n : Int) 1 gp gq Cp Cq b g cap W' (by decide) (by decide) hA' hne (hlp ▸ hc1.kept hg hne) (hlq ▸ hc2.kept hg hne) (vals_kept (hvp.below hb) hg hb0 (Nat.lt_of_lt_of_le hp0 hb.size)) (vals_kept (hvq.below hb) hg hb1 (Nat.lt_of_lt_of_le hq0 hb.size)) hb0 hb1 hE'' hP
          exact T)
        (c_mul f10 (slope_fits hK) (ten_fits K hK) rfl) (c_add (slope_fits hB) (ten_fits K hK) (cast_fits K B hK hB) rfl) ha hne hc0 hE' hP)
end
end Go.Proofs.YtemdjmaakajhjaaGreatDoor.Num.Ft
