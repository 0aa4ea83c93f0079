/- Numbers as texts of digits, fractions, values and the functions of fmath: contracts of the program's functions, joined from smaller texts. Conditions stand at each theorem. -/
import Derived.Test.YtcgglmoeneiokaaGreatDoorRndA
import Derived.Test.YtcgglmoeneiokaaGreatDoorRndB

/- package fmath: ABS, INT, ROUND, ROUNDUP, ROUNDDOWN, TRUNC, CEILING, FLOOR over their arguments. Conditions: nothing is too long; the tables lie as they are laid. -/
namespace Go.Proofs.YtcgglmoeneiokaaGreatDoor.Num
open Go.RowKit Go.Lib

theorem numText_up {q : Rat} (h : 0 ≤ q) : (numS q).toList = Lib.decDigits (up q) := by
  rw [Lib.toList_data]
  show numText q = _
  unfold numText
  rw [if_neg]
  rw [Bool.not_eq_true]
  cases hn : neg q
  · rfl
  · exact absurd ((neg_iff q).1 hn) (Rat.not_lt.2 h)
theorem num_floor_ne (y : Rat) (h0 : 0 ≤ y) (hne : ¬ ((y.floor : Int) : Rat) = y) : ¬ (numS ((y.floor : Int) : Rat)).toList = (numS y).toList := by
  rw [numText_up h0, numText_up (floor_nonneg h0)]
  intro h
  have h1 := congrArg decVal h
  rw [decVal_decDigits, decVal_decDigits, up_int] at h1
  have hn : neg y = false := by
    cases hh : neg y
    · rfl
    · exact absurd ((neg_iff y).1 hh) (Rat.not_lt.2 h0)
  have hf := ratOf_floor y
  rw [hn] at hf
  simp only [Bool.false_eq_true, if_false] at hf
  rw [hf] at h1
  rw [Int.natAbs_natCast] at h1
  have h2 : up y / y.den = up y := h1
  by_cases hu : up y = 0
  · have : y = 0 := (up_zero y).1 hu
    subst this
    exact hne (by rfl)
  · have hd : y.den = 1 := by
      have h3 : 0 < y.den := Nat.pos_of_ne_zero y.den_nz
      by_cases h4 : y.den = 1
      · exact h4
      · exfalso
        have : up y / y.den < up y := Nat.div_lt_self (by omega) (by omega)
        omega
    apply hne
    rw [hf, hd, Nat.div_one]
    have e := ratOf_self y
    rw [hn, hd] at e
    conv => rhs; rw [← e]
    unfold ratOf
    rw [Rat.mkRat_one]
    rfl

set_option linter.unusedSimpArgs false in
set_option linter.unusedVariables false in
set_option maxHeartbeats 4000000 in
set_option maxRecDepth 100000 in
theorem fn_abs (q : Rat) (b g C : Nat) (W : World) (hq0 : fits q = true) (ha : ArgsAt W b (some ⟨g, 0, none⟩) 1 C 0) (hne : g ≠ b) (hc0 : NumCells W g (0 + 0 * 9) q) (hE : Env W) (hP : Past b) :
    Calls Tryz.prog 65 #[.pointer (some ⟨b, 0, none⟩)] W fun e w' => e = .returned (fracV (absR q)) ∧ W.grownBy w' (some b) := by
  have TN0 := Lib.hid (fun W' ga gc ge => argNum_any b g 0 1 C 0 q W' ga (by decide) (by decide) hne gc hq0 ge hP)
  rw [fracV_is q] at TN0
  have T1 := Lib.hid (fun W g => fm_abs q W hq0 g)
  obtain ⟨rr, hrr⟩ : ∃ z, absR q = z := ⟨_, rfl⟩
  rw [hrr] at T1 ⊢
  rw [fracV_is q, fracV_is rr] at T1
  rw [fracV_is rr]
  have HP := Lib.hid hP
  have HE0 := Lib.hid hE
  have NG := Lib.hid hne
  have HBW := Lib.hid (heap_lt ha)
  have hb : Below W.heap.size W (W.alloc (.cells #[.string { data := #[] }, .string { data := #[] }] 24)) := (Below.refl _ _).alloc (Nat.le_refl _) _
  have HA := Lib.hid (show ArgsAt (W.alloc (.cells #[.string { data := #[] }, .string { data := #[] }] 24)) b (some ⟨g, 0, none⟩) 1 C 0 from keep_block ha hb)
  have HC0 := Lib.hid (NumCells.below hc0 hb)
  have HE := Lib.hid (hE.below hb)
  have HG := Lib.hid (kept_below (b := b) hb)
  have H2 := Lib.hid (heap_alloc_new W (.cells #[.string { data := #[] }, .string { data := #[] }] 24))
  have NE2 := Lib.hid (show W.heap.size ≠ b from Nat.ne_of_gt HBW.out)
  clear hb
  clear ha hE hP hne hc0 hrr
  go_enter Tryz.func65, Tryz.ntmps65
  go_wp2_with fail
  refine (TN0.out _ HA.out HC0.out HE.out).mono ?_
  rintro e W1 ⟨rfl, ha, hg⟩
  replace HA := Lib.hid ha
  replace H2 := Lib.hid (kept_block H2.out hg NE2.out)
  replace HC0 := Lib.hid (HC0.out.kept hg NG.out)
  replace HE := Lib.hid (HE.out.kept hg HP.out)
  replace HG := Lib.hid (kept_trans HG.out hg)
  clear ha hg
  go_wp2_with fail
  refine (T1.out _ HE.out).mono ?_
  rintro e W2 ⟨rfl, hb⟩
  replace H2 := Lib.hid (keep_block H2.out hb)
  replace HC0 := Lib.hid (NumCells.below HC0.out hb)
  replace HA := Lib.hid (keep_block HA.out hb)
  replace HE := Lib.hid (HE.out.below hb)
  replace HG := Lib.hid (kept_trans HG.out (kept_below hb))
  clear hb
  obtain ⟨⟨x2_0, x2_1⟩, x2_f0, x2_f1⟩ := two_at H2.out
  have hF := set2_at H2.out (.string (numS rr)) (.string (denS rr))
  obtain ⟨⟨e0, e1⟩, _⟩ := two_at hF
  have HG2 := Lib.hid (kept2 HG.out (Nat.le_refl _) (.string (numS rr)) (.string (denS rr)))
  clear hF
  go_wp2
  refine bodyPost_ret (v := .agg #[.string (numS rr), .string (denS rr)]) (by simp [results, Tryz.results65, go_sem, e0, e1]) rfl ⟨rfl, HG2.out⟩

set_option linter.unusedSimpArgs false in
set_option linter.unusedVariables false in
set_option maxHeartbeats 4000000 in
set_option maxRecDepth 100000 in
theorem fn_int (q : Rat) (b g C : Nat) (W : World) (hq0 : fits q = true) (h1 : fits ((q.floor : Int) : Rat) = true) (ha : ArgsAt W b (some ⟨g, 0, none⟩) 1 C 0) (hne : g ≠ b) (hc0 : NumCells W g (0 + 0 * 9) q) (hE : Env W) (hP : Past b) :
    Calls Tryz.prog 70 #[.pointer (some ⟨b, 0, none⟩)] W fun e w' => e = .returned (fracV (((q.floor : Int) : Rat))) ∧ W.grownBy w' (some b) := by
  have TN0 := Lib.hid (fun W' ga gc ge => argNum_any b g 0 1 C 0 q W' ga (by decide) (by decide) hne gc hq0 ge hP)
  rw [fracV_is q] at TN0
  have T1 := Lib.hid (fun W g => fm_floor q W hq0 h1 g)
  obtain ⟨rr, hrr⟩ : ∃ z, ((q.floor : Int) : Rat) = z := ⟨_, rfl⟩
  rw [hrr] at T1 ⊢
  rw [fracV_is q, fracV_is rr] at T1
  rw [fracV_is rr]
  have HP := Lib.hid hP
  have HE0 := Lib.hid hE
  have NG := Lib.hid hne
  have HBW := Lib.hid (heap_lt ha)
  have hb : Below W.heap.size W (W.alloc (.cells #[.string { data := #[] }, .string { data := #[] }] 24)) := (Below.refl _ _).alloc (Nat.le_refl _) _
  have HA := Lib.hid (show ArgsAt (W.alloc (.cells #[.string { data := #[] }, .string { data := #[] }] 24)) b (some ⟨g, 0, none⟩) 1 C 0 from keep_block ha hb)
  have HC0 := Lib.hid (NumCells.below hc0 hb)
  have HE := Lib.hid (hE.below hb)
  have HG := Lib.hid (kept_below (b := b) hb)
  have H2 := Lib.hid (heap_alloc_new W (.cells #[.string { data := #[] }, .string { data := #[] }] 24))
  have NE2 := Lib.hid (show W.heap.size ≠ b from Nat.ne_of_gt HBW.out)
  clear hb
  clear ha hE hP hne hc0 hrr
  go_enter Tryz.func70, Tryz.ntmps70
  go_wp2_with fail
  refine (TN0.out _ HA.out HC0.out HE.out).mono ?_
  rintro e W1 ⟨rfl, ha, hg⟩
  replace HA := Lib.hid ha
  replace H2 := Lib.hid (kept_block H2.out hg NE2.out)
  replace HC0 := Lib.hid (HC0.out.kept hg NG.out)
  replace HE := Lib.hid (HE.out.kept hg HP.out)
  replace HG := Lib.hid (kept_trans HG.out hg)
  clear ha hg
  go_wp2_with fail
  refine (T1.out _ HE.out).mono ?_
  rintro e W2 ⟨rfl, hb⟩
  replace H2 := Lib.hid (keep_block H2.out hb)
  replace HC0 := Lib.hid (NumCells.below HC0.out hb)
  replace HA := Lib.hid (keep_block HA.out hb)
  replace HE := Lib.hid (HE.out.below hb)
  replace HG := Lib.hid (kept_trans HG.out (kept_below hb))
  clear hb
  obtain ⟨⟨x2_0, x2_1⟩, x2_f0, x2_f1⟩ := two_at H2.out
  have hF := set2_at H2.out (.string (numS rr)) (.string (denS rr))
  obtain ⟨⟨e0, e1⟩, _⟩ := two_at hF
  have HG2 := Lib.hid (kept2 HG.out (Nat.le_refl _) (.string (numS rr)) (.string (denS rr)))
  clear hF
  go_wp2
  refine bodyPost_ret (v := .agg #[.string (numS rr), .string (denS rr)]) (by simp [results, Tryz.results70, go_sem, e0, e1]) rfl ⟨rfl, HG2.out⟩

set_option linter.unusedSimpArgs false in
set_option linter.unusedVariables false in
set_option maxHeartbeats 4000000 in
set_option maxRecDepth 100000 in
theorem wholeOr_some (b ab ao L C n : Nat) (q : Rat) (d : Int) (w : World) (h : ArgsAt w b (some ⟨ab, ao, none⟩) L C n) (hn : n < L) (hL : L ≤ 1000000000) (hne : ab ≠ b) (hc : NumCells w ab (ao + n * 9) q) (hq : fits q = true) (h0 : -1000000000 ≤ q.floor) (h1 : q.floor ≤ 1000000000) (hE : Env w) (hP : Past b) :
    Calls Tryz.prog 195 #[.pointer (some ⟨b, 0, none⟩), .int .i64 d] w fun e w' => e = .returned (.int .i64 q.floor) ∧ ArgRet w b (some ⟨ab, ao, none⟩) L C (n + 1) w' := by
  have TM := Lib.hid (fun W g => more_any b (some ⟨ab, ao, none⟩) L C n W g hL)
  have TW := Lib.hid (fun W ga gc ge => argWhole_any b ab ao L C n q W ga hn hL hne gc hq h0 h1 ge hP)
  rw [decide_eq_true hn] at TM
  have hnot : ∀ (x : Bool) (w : World), (Op.unary .not (.bool x)).run Tryz.prog w = .ok (.bool (!x)) w := fun _ _ => rfl
  have HA := Lib.hid h
  have HC := Lib.hid hc
  have HE := Lib.hid hE
  clear h hc hE hn h0 h1 hq
  go_enter Tryz.func195, Tryz.ntmps195
  go_wp2_with fail
  refine (TM.out _ HA.out).mono ?_
  rintro e W1 ⟨rfl, hb⟩
  replace HA := Lib.hid (keep_block HA.out hb)
  replace HC := Lib.hid (NumCells.below HC.out hb)
  replace HE := Lib.hid (HE.out.below hb)
  have HB := Lib.hid (kept_below (b := b) hb)
  clear hb
  go_wp2_with fail
  refine (TW.out _ HA.out HC.out HE.out).mono ?_
  rintro e W2 ⟨rfl, ha, hg⟩
  have HA2 := Lib.hid ha
  have HG := Lib.hid (kept_trans HB.out hg)
  clear ha hg
  go_wp2
  go_ret
  exact ⟨rfl, HA2.out, HG.out⟩

set_option linter.unusedSimpArgs false in
set_option linter.unusedVariables false in
set_option maxHeartbeats 4000000 in
set_option maxRecDepth 100000 in
theorem wholeOr_none (b : Nat) (A : Option Addr) (L C n : Nat) (d : Int) (w : World) (h : ArgsAt w b A L C n) (hn : ¬ n < L) (hL : L ≤ 1000000000) :
    Calls Tryz.prog 195 #[.pointer (some ⟨b, 0, none⟩), .int .i64 d] w fun e w' => e = .returned (.int .i64 d) ∧ ArgsAt w' b A L C n ∧ Below w.heap.size w w' := by
  have TM := Lib.hid (fun W g => more_any b A L C n W g hL)
  rw [decide_eq_false hn] at TM
  have hnot : ∀ (x : Bool) (w : World), (Op.unary .not (.bool x)).run Tryz.prog w = .ok (.bool (!x)) w := fun _ _ => rfl
  have HA := Lib.hid h
  clear h hn
  go_enter Tryz.func195, Tryz.ntmps195
  go_wp2_with fail
  refine (TM.out _ HA.out).mono ?_
  rintro e W1 ⟨rfl, hb⟩
  have HB := Lib.hid hb
  replace HA := Lib.hid (show ArgsAt W1 b A L C n from keep_block HA.out hb)
  clear hb
  go_wp2
  go_ret
  exact ⟨rfl, HA.out, HB.out⟩

set_option linter.unusedSimpArgs false in
set_option linter.unusedVariables false in
set_option maxHeartbeats 4000000 in
set_option maxRecDepth 100000 in
theorem places_some (b ab ao L C n : Nat) (q : Rat) (w : World) (h : ArgsAt w b (some ⟨ab, ao, none⟩) L C n) (hn : n < L) (hL : L ≤ 1000000000) (hne : ab ≠ b) (hc : NumCells w ab (ao + n * 9) q) (hq : fits q = true) (h0 : -100 ≤ q.floor) (h1 : q.floor ≤ 100) (hE : Env w) (hP : Past b) :
    Calls Tryz.prog 124 #[.pointer (some ⟨b, 0, none⟩)] w fun e w' => e = .returned (.int .i64 q.floor) ∧ ArgRet w b (some ⟨ab, ao, none⟩) L C (n + 1) w' := by
  have TW := Lib.hid (fun W ga gc ge => wholeOr_some b ab ao L C n q 0 W ga hn hL hne gc hq (by omega) (by omega) ge hP)
  obtain ⟨k, hk⟩ : ∃ k, q.floor = k := ⟨_, rfl⟩
  rw [hk] at TW h0 h1 ⊢
  have d1 : decide (k < -100) = false := decide_eq_false (by omega)
  have d2 : decide (100 < k) = false := decide_eq_false (by omega)
  have HA := Lib.hid h
  have HC := Lib.hid hc
  have HE := Lib.hid hE
  clear h hc hE hn h0 h1 hq hk
  go_enter Tryz.func124, Tryz.ntmps124
  go_wp2_with fail
  refine (TW.out _ HA.out HC.out HE.out).mono ?_
  rintro e W2 ⟨rfl, ha, hg⟩
  have HA2 := Lib.hid ha
  have HG := Lib.hid hg
  clear ha hg
  go_wp2
  go_ret
  exact ⟨rfl, HA2.out, HG.out⟩

set_option linter.unusedSimpArgs false in
set_option linter.unusedVariables false in
set_option maxHeartbeats 4000000 in
set_option maxRecDepth 100000 in
theorem places_none (b : Nat) (A : Option Addr) (L C n : Nat) (w : World) (h : ArgsAt w b A L C n) (hn : ¬ n < L) (hL : L ≤ 1000000000) :
    Calls Tryz.prog 124 #[.pointer (some ⟨b, 0, none⟩)] w fun e w' => e = .returned (.int .i64 0) ∧ ArgsAt w' b A L C n ∧ Below w.heap.size w w' := by
  have TW := Lib.hid (fun W ga => wholeOr_none b A L C n 0 W ga hn hL)
  have HA := Lib.hid h
  clear h hn
  go_enter Tryz.func124, Tryz.ntmps124
  go_wp2_with fail
  refine (TW.out _ HA.out).mono ?_
  rintro e W2 ⟨rfl, ha, hb⟩
  have HA2 := Lib.hid ha
  have HB := Lib.hid hb
  clear ha hb
  go_wp2
  go_ret
  exact ⟨rfl, HA2.out, HB.out⟩

set_option linter.unusedSimpArgs false in
set_option linter.unusedVariables false in
set_option maxHeartbeats 4000000 in
set_option maxRecDepth 100000 in
theorem fn_round (q k : Rat) (b g C : Nat) (W : World) (hq0 : fits q = true) (hq1 : fits k = true) (hk0 : -100 ≤ k.floor) (hk1 : k.floor ≤ 100) (hr : fits (roundR q k.floor) = true) (ha : ArgsAt W b (some ⟨g, 0, none⟩) 2 C 0) (hne : g ≠ b) (hc0 : NumCells W g (0 + 0 * 9) q) (hc1 : NumCells W g (0 + 1 * 9) k) (hE : Env W) (hP : Past b) :
    Calls Tryz.prog 72 #[.pointer (some ⟨b, 0, none⟩)] W fun e w' => e = .returned (fracV (roundR q k.floor)) ∧ W.grownBy w' (some b) := by
  have TN0 := Lib.hid (fun W' ga gc ge => argNum_any b g 0 2 C 0 q W' ga (by decide) (by decide) hne gc hq0 ge hP)
  rw [fracV_is q] at TN0
  have TP := Lib.hid (fun W' ga gc ge => places_some b g 0 2 C 1 k W' ga (by decide) (by decide) hne gc hq1 hk0 hk1 ge hP)
  have T1 := Lib.hid (fun W g => round_any q k.floor W hq0 (by omega) g)
  rw [wroteV_ok hr] at T1
  have T2 := Lib.hid (fun W => must_ok (roundR q k.floor) W)
  obtain ⟨kk, hkk⟩ : ∃ z, k.floor = z := ⟨_, rfl⟩
  rw [hkk] at TP T1 T2 ⊢
  obtain ⟨rr, hrr⟩ : ∃ z, roundR q kk = z := ⟨_, rfl⟩
  rw [hrr] at T1 T2 ⊢
  rw [fracV_is q, fracV_is rr] at T1
  rw [fracV_is rr] at T2 ⊢
  have HP := Lib.hid hP
  have HE0 := Lib.hid hE
  have NG := Lib.hid hne
  have HBW := Lib.hid (heap_lt ha)
  have hb : Below W.heap.size W (W.alloc (.cells #[.string { data := #[] }, .string { data := #[] }] 24)) := (Below.refl _ _).alloc (Nat.le_refl _) _
  have HA := Lib.hid (show ArgsAt (W.alloc (.cells #[.string { data := #[] }, .string { data := #[] }] 24)) b (some ⟨g, 0, none⟩) 2 C 0 from keep_block ha hb)
  have HC0 := Lib.hid (NumCells.below hc0 hb)
  have HC1 := Lib.hid (NumCells.below hc1 hb)
  have HE := Lib.hid (hE.below hb)
  have HG := Lib.hid (kept_below (b := b) hb)
  have H2 := Lib.hid (heap_alloc_new W (.cells #[.string { data := #[] }, .string { data := #[] }] 24))
  have NE2 := Lib.hid (show W.heap.size ≠ b from Nat.ne_of_gt HBW.out)
  clear hb
  clear ha hE hP hne hc0 hc1 hrr hkk hk0 hk1 hr hq0 hq1
  go_enter Tryz.func72, Tryz.ntmps72
  go_wp2_with fail
  refine (TN0.out _ HA.out HC0.out HE.out).mono ?_
  rintro e W1 ⟨rfl, ha, hg⟩
  replace HA := Lib.hid ha
  replace H2 := Lib.hid (kept_block H2.out hg NE2.out)
  replace HC0 := Lib.hid (HC0.out.kept hg NG.out)
  replace HC1 := Lib.hid (HC1.out.kept hg NG.out)
  replace HE := Lib.hid (HE.out.kept hg HP.out)
  replace HG := Lib.hid (kept_trans HG.out hg)
  clear ha hg
  have L3_2 := Lib.hid (heap_lt H2.out)
  have G3 := Lib.hid (HG.out.size)
  have NE3 : Hid (W1.heap.size ≠ b) := Lib.hid (Nat.ne_of_gt (Nat.lt_of_lt_of_le HBW.out G3.out))
  have hb : Below W1.heap.size W1 (W1.alloc (.cells #[.string (numS q), .string (denS q)] 24)) := (Below.refl _ _).alloc (Nat.le_refl _) _
  replace H2 := Lib.hid (keep_block H2.out hb)
  replace HC0 := Lib.hid (NumCells.below HC0.out hb)
  replace HC1 := Lib.hid (NumCells.below HC1.out hb)
  replace HA := Lib.hid (keep_block HA.out hb)
  replace HE := Lib.hid (HE.out.below hb)
  replace HG := Lib.hid (kept_trans HG.out (kept_below hb))
  have H3 := Lib.hid (heap_alloc_new W1 (.cells #[.string (numS q), .string (denS q)] 24))
  clear hb
  have HX := Lib.hid (drew_block H3.out)
  have HR := Lib.hid (drew_block H2.out)
  replace HA := Lib.hid (show ArgsAt _ b (some ⟨g, 0, none⟩) 2 C 1 from drew_block HA.out)
  replace HC1 := Lib.hid (show NumCells _ g (0 + 1 * 9) k from CellsAt.drew HC1.out)
  replace HE := Lib.hid (HE.out.below (Below.refl _ _).drew)
  replace HG := Lib.hid (kept_drew HG.out)
  clear H3 H2 HC0
  go_wp2_with fail
  go_region_held3 (fun Z => Z.cell? ⟨W1.heap.size, 0, none⟩ = some (.string (numS q)) ∧ Z.cell? ⟨W1.heap.size, 1, none⟩ = some (.string (denS q)))
    (first | (with_reducible exact cells2 HX.out) | (with_reducible exact cells2 ((set2_other _ _ _ _ (Nat.ne_of_gt L3_2.out)).trans HX.out)) | fail)
    ((first | (go_at_call 124; (with_reducible refine (TP.out _ HA.out HC1.out HE.out).mono ?_); rintro e V1 ⟨rfl, ha, hg⟩; replace HX := Lib.hid (kept_block HX.out hg NE3.out); replace HR := Lib.hid (kept_block HR.out hg NE2.out); replace HE := Lib.hid (HE.out.kept hg HP.out); replace HG := Lib.hid (kept_trans HG.out hg); replace HA := Lib.hid ha; clear ha hg HC1) | (go_at_call 123; (with_reducible refine (T1.out _ HE.out.tab).mono ?_); rintro e V2 ⟨rfl, hb⟩; replace HX := Lib.hid (keep_block HX.out hb); replace HR := Lib.hid (keep_block HR.out hb); replace HA := Lib.hid (keep_block HA.out hb); replace HE := Lib.hid (HE.out.below hb); replace HG := Lib.hid (kept_trans HG.out (kept_below hb)); clear hb) | (go_at_call 122; (with_reducible refine (T2.out _).mono ?_); rintro e V3 ⟨rfl, hb⟩; replace HX := Lib.hid (keep_block HX.out hb); replace HR := Lib.hid (keep_block HR.out hb); replace HA := Lib.hid (keep_block HA.out hb); replace HE := Lib.hid (HE.out.below hb); replace HG := Lib.hid (kept_trans HG.out (kept_below hb)); clear hb; obtain ⟨⟨r0, r1⟩, rf0, rf1⟩ := two_at HR.out)))
  have hF := set2_at HR.out (.string (numS rr)) (.string (denS rr))
  obtain ⟨⟨e0, e1⟩, _⟩ := two_at hF
  have HG2 := Lib.hid (kept2 HG.out (Nat.le_refl _) (.string (numS rr)) (.string (denS rr)))
  clear hF
  go_wp2
  refine bodyPost_ret (v := .agg #[.string (numS rr), .string (denS rr)]) (by simp [results, Tryz.results72, go_sem, e0, e1]) rfl ⟨rfl, HG2.out⟩

set_option linter.unusedVariables false in
/-- what the operations of region 3 yield -/
def Cutd2Ks3 (W W1 W5 : World) (q TT aa yy : Rat) : List RK :=
  [.pure (.agg #[.string (numS q), .string (denS q)]),
   .pure (.agg #[.string (numS aa), .string (denS aa)]),
   .pure (.agg #[.string (numS TT), .string (denS TT)]),
   .pure (.agg #[.string (numS yy), .string (denS yy)]),
   .box none #[.string { data := #[] }, .string { data := #[] }] #[.string (numS yy), .string (denS yy)] 24 5,
   .put 4,
   .box (some (W.heap.size)) #[.string { data := #[] }, .string { data := #[] }] #[.string { data := #[] }, .string { data := #[] }] 24 9,
   .box (some (W1.heap.size)) #[.string (numS q), .string (denS q)] #[.string (numS q), .string (denS q)] 24 9,
   .box (some (W5.heap.size)) #[.string (numS TT), .string (denS TT)] #[.string (numS TT), .string (denS TT)] 24 9]
set_option linter.unusedVariables false in
/-- what the operations of region 7 yield -/
def Cutd2Ks7 (W W1 W5 W6 : World) (q TT aa yy zz z1 dd rr : Rat) : List RK :=
  [.pure (.agg #[.string (numS zz), .string (denS zz)]),
   .pure (.agg #[.string (numS TT), .string (denS TT)]),
   .pure (.agg #[.string (numS dd), .string (denS dd)]),
   .pure (.agg #[.string (numS q), .string (denS q)]),
   .pure (.agg #[.string (numS rr), .string (denS rr)]),
   .put 6,
   .box (some (W.heap.size)) #[.string { data := #[] }, .string { data := #[] }] #[.string (numS rr), .string (denS rr)] 24 5,
   .box (some (W1.heap.size)) #[.string (numS q), .string (denS q)] #[.string (numS q), .string (denS q)] 24 10,
   .box (some (W5.heap.size)) #[.string (numS TT), .string (denS TT)] #[.string (numS TT), .string (denS TT)] 24 10,
   .box (some (W6.heap.size)) #[.string (numS zz), .string (denS zz)] #[.string (numS zz), .string (denS zz)] 24 10]
set_option linter.unusedSimpArgs false in
set_option linter.unusedVariables false in
set_option maxHeartbeats 4000000 in
set_option maxRecDepth 100000 in
theorem fn_cutd2 (q k : Rat) (b g C : Nat) (W : World) (hq0 : fits q = true) (hq1 : fits k = true) (hk0 : -100 ≤ k.floor) (hk1 : k.floor ≤ 100) (hT : fits (tenR k.floor) = true) (hy : fits (absR q * tenR k.floor) = true) (hz : fits (((absR q * tenR k.floor).floor : Int) : Rat) = true) (hd : fits ((((absR q * tenR k.floor).floor : Int) : Rat) / tenR k.floor) = true) (ha : ArgsAt W b (some ⟨g, 0, none⟩) 2 C 0) (hne : g ≠ b) (hc0 : NumCells W g (0 + 0 * 9) q) (hc1 : NumCells W g (0 + 1 * 9) k) (hE : Env W) (hP : Past b) :
    Calls Tryz.prog 74 #[.pointer (some ⟨b, 0, none⟩), .bool false] W fun e w' => e = .returned (fracV (cutR false q (k.floor))) ∧ W.grownBy w' (some b) := by
  have TN0 := Lib.hid (fun W' ga gc ge => argNum_any b g 0 2 C 0 q W' ga (by decide) (by decide) hne gc hq0 ge hP)
  rw [fracV_is q] at TN0
  have TP := Lib.hid (fun W' ga gc ge => places_some b g 0 2 C 1 k W' ga (by decide) (by decide) hne gc hq1 hk0 hk1 ge hP)
  have hres : cutR false q (k.floor) = signedR ((((absR q * tenR k.floor).floor : Int) : Rat) / tenR k.floor) q := by
    unfold cutR
    rw [if_neg (fun h => absurd h.1 (by decide))]
  rw [hres]
  clear hres
  have TO := Lib.hid (fun W g => of_any 10 W (by decide) (by decide) g)
  have TPw := Lib.hid (fun W g => powerQ_any ((10 : Int) : Rat) (k.floor) W (by exact fits_int 10 (by decide)) (fun _ => by decide) (by omega) (by omega) (limbs34 (by rw [up_int]; exact Nat.lt_of_le_of_lt (Nat.pow_le_pow_right (by decide) (show (k.floor).natAbs ≤ 100 by omega)) (by decide +kernel))) (limbs34 (by rw [den_int, Nat.one_pow]; decide +kernel)) g)
  rw [show powR ((10 : Int) : Rat) (k.floor) = tenR (k.floor) from tenR_pow _, wroteV_ok hT] at TPw
  have TMu := Lib.hid (fun W => must_ok (tenR (k.floor)) W)
  have TA := Lib.hid (fun W g => fm_abs q W hq0 g)
  have TM := Lib.hid (fun W g => fm_mul (absR q) (tenR (k.floor)) W (by rw [fits_absR]; exact hq0) hT hy g)
  have TF := Lib.hid (fun W g => fm_floor (absR q * tenR (k.floor)) W hy hz g)
  have TD := Lib.hid (fun W g => fm_div (((absR q * tenR k.floor).floor : Int) : Rat) (tenR (k.floor)) W hz hT (rat_ne (tenR_pos _)) hd g)
  have TS := Lib.hid (fun W g => fm_signed ((((absR q * tenR k.floor).floor : Int) : Rat) / tenR (k.floor)) q W hd hq0 g)
  obtain ⟨kk, hkk⟩ : ∃ z, k.floor = z := ⟨_, rfl⟩
  rw [hkk] at TP TPw TMu TM TF TD TS ⊢
  obtain ⟨TT, hTT⟩ : ∃ z, tenR kk = z := ⟨_, rfl⟩
  rw [hTT] at TPw TMu TM TF TD TS ⊢
  obtain ⟨te, hte⟩ : ∃ z, ((10 : Int) : Rat) = z := ⟨_, rfl⟩
  rw [hte] at TO TPw
  obtain ⟨aa, haa⟩ : ∃ z, absR q = z := ⟨_, rfl⟩
  rw [haa] at TA TM TF TD TS ⊢
  obtain ⟨yy, hyy⟩ : ∃ z, aa * TT = z := ⟨_, rfl⟩
  rw [hyy] at TM TF TD TS ⊢
  obtain ⟨zz, hzz⟩ : ∃ z, ((yy.floor : Int) : Rat) = z := ⟨_, rfl⟩
  rw [hzz] at TF TD TS ⊢
  obtain ⟨dd, hdd⟩ : ∃ z, zz / TT = z := ⟨_, rfl⟩
  rw [hdd] at TD TS ⊢
  obtain ⟨rr, hrr⟩ : ∃ z, signedR dd q = z := ⟨_, rfl⟩
  rw [hrr] at TS ⊢
  rw [fracV_is te] at TO TPw
  rw [fracV_is TT] at TPw TMu TM TD
  rw [fracV_is q] at TA TS
  rw [fracV_is aa] at TA TM
  rw [fracV_is yy] at TM TF
  rw [fracV_is zz] at TF TD
  rw [fracV_is dd] at TD TS
  rw [fracV_is rr] at TS ⊢
  have HP := Lib.hid hP
  have HE0 := Lib.hid hE
  have NG := Lib.hid hne
  have HBW := Lib.hid (heap_lt ha)
  have hb : Below W.heap.size W (W.alloc (.cells #[.string { data := #[] }, .string { data := #[] }] 24)) := (Below.refl _ _).alloc (Nat.le_refl _) _
  have HA := Lib.hid (show ArgsAt (W.alloc (.cells #[.string { data := #[] }, .string { data := #[] }] 24)) b (some ⟨g, 0, none⟩) 2 C 0 from keep_block ha hb)
  have HC0 := Lib.hid (NumCells.below hc0 hb)
  have HC1 := Lib.hid (NumCells.below hc1 hb)
  have HE := Lib.hid (hE.below hb)
  have HG := Lib.hid (kept_below (b := b) hb)
  have H4 := Lib.hid (heap_alloc_new W (.cells #[.string { data := #[] }, .string { data := #[] }] 24))
  have NE4 := Lib.hid (show W.heap.size ≠ b from Nat.ne_of_gt HBW.out)
  clear hb
  clear ha hE hP hne hc0 hc1 hkk hTT hte haa hyy hzz hdd hrr hq0 hT hy hz hd hq1 hk0 hk1
  go_enter Tryz.func74, Tryz.ntmps74
  go_wp2_with fail
  refine (TN0.out _ HA.out HC0.out HE.out).mono ?_
  rintro e W1 ⟨rfl, ha, hg⟩
  replace HA := Lib.hid ha
  replace H4 := Lib.hid (kept_block H4.out hg NE4.out)
  replace HC0 := Lib.hid (HC0.out.kept hg NG.out)
  replace HC1 := Lib.hid (HC1.out.kept hg NG.out)
  replace HE := Lib.hid (HE.out.kept hg HP.out)
  replace HG := Lib.hid (kept_trans HG.out hg)
  clear ha hg
  have L5_4 := Lib.hid (heap_lt H4.out)
  have G5 := Lib.hid (HG.out.size)
  have NE5 : Hid (W1.heap.size ≠ b) := Lib.hid (Nat.ne_of_gt (Nat.lt_of_lt_of_le HBW.out G5.out))
  have hb : Below W1.heap.size W1 (W1.alloc (.cells #[.string (numS q), .string (denS q)] 24)) := (Below.refl _ _).alloc (Nat.le_refl _) _
  replace H4 := Lib.hid (keep_block H4.out hb)
  replace HC0 := Lib.hid (NumCells.below HC0.out hb)
  replace HC1 := Lib.hid (NumCells.below HC1.out hb)
  replace HA := Lib.hid (keep_block HA.out hb)
  replace HE := Lib.hid (HE.out.below hb)
  replace HG := Lib.hid (kept_trans HG.out (kept_below hb))
  have H5 := Lib.hid (heap_alloc_new W1 (.cells #[.string (numS q), .string (denS q)] 24))
  clear hb
  go_wp2_with fail
  refine (TO.out _ (Env.tab HE.out)).mono ?_
  rintro e W2 ⟨rfl, hb⟩
  replace H4 := Lib.hid (keep_block H4.out hb)
  replace H5 := Lib.hid (keep_block H5.out hb)
  replace HC0 := Lib.hid (NumCells.below HC0.out hb)
  replace HC1 := Lib.hid (NumCells.below HC1.out hb)
  replace HA := Lib.hid (keep_block HA.out hb)
  replace HE := Lib.hid (HE.out.below hb)
  replace HG := Lib.hid (kept_trans HG.out (kept_below hb))
  clear hb
  go_wp2_with fail
  refine (TP.out _ HA.out HC1.out HE.out).mono ?_
  rintro e W3 ⟨rfl, ha, hg⟩
  replace HA := Lib.hid ha
  replace H4 := Lib.hid (kept_block H4.out hg NE4.out)
  replace H5 := Lib.hid (kept_block H5.out hg NE5.out)
  replace HC0 := Lib.hid (HC0.out.kept hg NG.out)
  replace HC1 := Lib.hid (HC1.out.kept hg NG.out)
  replace HE := Lib.hid (HE.out.kept hg HP.out)
  replace HG := Lib.hid (kept_trans HG.out hg)
  clear ha hg
  go_wp2_with fail
  refine (TPw.out _ (Env.tab HE.out)).mono ?_
  rintro e W4 ⟨rfl, hb⟩
  replace H4 := Lib.hid (keep_block H4.out hb)
  replace H5 := Lib.hid (keep_block H5.out hb)
  replace HC0 := Lib.hid (NumCells.below HC0.out hb)
  replace HC1 := Lib.hid (NumCells.below HC1.out hb)
  replace HA := Lib.hid (keep_block HA.out hb)
  replace HE := Lib.hid (HE.out.below hb)
  replace HG := Lib.hid (kept_trans HG.out (kept_below hb))
  clear hb
  go_wp2_with fail
  refine (TMu.out _).mono ?_
  rintro e W5 ⟨rfl, hb⟩
  replace H4 := Lib.hid (keep_block H4.out hb)
  replace H5 := Lib.hid (keep_block H5.out hb)
  replace HC0 := Lib.hid (NumCells.below HC0.out hb)
  replace HC1 := Lib.hid (NumCells.below HC1.out hb)
  replace HA := Lib.hid (keep_block HA.out hb)
  replace HE := Lib.hid (HE.out.below hb)
  replace HG := Lib.hid (kept_trans HG.out (kept_below hb))
  clear hb
  have L6_4 := Lib.hid (heap_lt H4.out)
  have L6_5 := Lib.hid (heap_lt H5.out)
  have G6 := Lib.hid (HG.out.size)
  have NE6 : Hid (W5.heap.size ≠ b) := Lib.hid (Nat.ne_of_gt (Nat.lt_of_lt_of_le HBW.out G6.out))
  have hb : Below W5.heap.size W5 (W5.alloc (.cells #[.string (numS TT), .string (denS TT)] 24)) := (Below.refl _ _).alloc (Nat.le_refl _) _
  replace H4 := Lib.hid (keep_block H4.out hb)
  replace H5 := Lib.hid (keep_block H5.out hb)
  replace HC0 := Lib.hid (NumCells.below HC0.out hb)
  replace HC1 := Lib.hid (NumCells.below HC1.out hb)
  replace HA := Lib.hid (keep_block HA.out hb)
  replace HE := Lib.hid (HE.out.below hb)
  replace HG := Lib.hid (kept_trans HG.out (kept_below hb))
  have H6 := Lib.hid (heap_alloc_new W5 (.cells #[.string (numS TT), .string (denS TT)] 24))
  clear hb
  go_wp2_with fail
  have := L5_4.out
  have := L6_4.out
  have := L6_5.out
  have := HG.out.size
  have := G5.out
  have := G6.out
  have hok : okB 6 (Cutd2Ks3 W W1 W5 q TT aa yy) = true := by kernel_rfl
  have hna := noAny_of (ks := (Cutd2Ks3 W W1 W5 q TT aa yy)) (by kernel_rfl)
  have hla := lasts_of hna
  refine wp_region_facts (row := (some b)) (w := W) 6 (Cutd2Ks3 W W1 W5 q TT aa yy) [some 18, some 19, some 20, some 21, some 7, none] (by kernel_rfl) (by kernel_rfl) rfl [undef, undef, undef, undef, undef, undef, .pointer (some ⟨W.heap.size, 0, none⟩), .pointer (some ⟨W1.heap.size, 0, none⟩), .pointer (some ⟨W5.heap.size, 0, none⟩)] ?h00 (Fs.start_olds hla rfl HG.out ⟨⟨_, rfl, fun _ h => Option.some.inj h, by omega, H4.out⟩, fun _ => ⟨fun _ => far_of (by omega), fun _ => far_of (by omega), trivial⟩, ⟨⟨_, rfl, fun _ h => Option.some.inj h, by omega, H5.out⟩, fun _ => ⟨fun _ => far_of (by omega), trivial⟩, ⟨⟨_, rfl, fun _ h => Option.some.inj h, by omega, H6.out⟩, fun _ => trivial, trivial⟩⟩⟩) ?hs ?hd
  case h00 => simp only [putO, layT_some, layT_none, layT_nil, List.setIfInBounds_toArray, List.set_cons_zero, List.set_cons_succ]
  case hs =>
    rintro listed vs Wr hF i hi hun hpre
    obtain ⟨s0, s1, s2, s3, s4, s5, o0, o1, o2, hvs⟩ := exl_of 9 vs (fun l => vs = l) hF.len rfl
    subst hvs
    obtain ⟨_, eG0, hg0, gG0, hO0⟩ : ∃ G, o0 = .pointer (some ⟨G, 0, none⟩) ∧ (∀ k, some (W.heap.size) = some k → G = k) ∧ W.heap.size ≤ G ∧ Wr.heap[G]? = some (.cells (if listed.getD 9 false = true then #[.string { data := #[] }, .string { data := #[] }] else #[.string { data := #[] }, .string { data := #[] }]) 24 (0, 0)) := hF.get 6 _ rfl (.inl (by decide))
    have hg0 := hg0 _ rfl
    subst hg0
    subst eG0
    obtain ⟨_, eG1, hg1, gG1, hO1⟩ : ∃ G, o1 = .pointer (some ⟨G, 0, none⟩) ∧ (∀ k, some (W1.heap.size) = some k → G = k) ∧ W.heap.size ≤ G ∧ Wr.heap[G]? = some (.cells (if listed.getD 9 false = true then #[.string (numS q), .string (denS q)] else #[.string (numS q), .string (denS q)]) 24 (0, 0)) := hF.get 7 _ rfl (.inl (by decide))
    have hg1 := hg1 _ rfl
    subst hg1
    subst eG1
    obtain ⟨_, eG2, hg2, gG2, hO2⟩ : ∃ G, o2 = .pointer (some ⟨G, 0, none⟩) ∧ (∀ k, some (W5.heap.size) = some k → G = k) ∧ W.heap.size ≤ G ∧ Wr.heap[G]? = some (.cells (if listed.getD 9 false = true then #[.string (numS TT), .string (denS TT)] else #[.string (numS TT), .string (denS TT)]) 24 (0, 0)) := hF.get 8 _ rfl (.inl (by decide))
    have hg2 := hg2 _ rfl
    subst hg2
    subst eG2
    have hge := Nat.zero_le i
    simp only [putO, layT_some, layT_none, layT_nil, List.setIfInBounds_toArray, List.set_cons_zero, List.set_cons_succ]
    rcases Nat.lt_or_ge i 3 with hlt | hgt
    · replace hi := hlt
      clear hlt
      rcases Nat.lt_or_ge i 1 with hlt | hgt
      · replace hi := hlt
        clear hlt
        have he : i = 0 := Nat.le_antisymm (Nat.le_of_lt_succ hi) hge
        subst he
        rw [if_neg (hF.unst (by decide))] at hO1
        have hcc := (two_at (hO1)).1
        have cH50 := hcc.1
        have cH51 := hcc.2
        clear hcc
        refine step_of ⟨some 18, _, _, _, _, _⟩ rfl (fun K' hK => ?_)
        go_simp
        refine hK.out _ _ ⟨_, hF.pure hok hla hpre rfl (Below.refl _ _), ?fr⟩
        case fr => simp only [putO, layT_some, layT_none, layT_nil, List.setIfInBounds_toArray, List.set_cons_zero, List.set_cons_succ]
      · replace hge : 1 ≤ i := hgt
        clear hgt
        rcases Nat.lt_or_ge i 2 with hlt | hgt
        · replace hi := hlt
          clear hlt
          have he : i = 1 := Nat.le_antisymm (Nat.le_of_lt_succ hi) hge
          subst he
          have p0 := hpre 0 (by kernel_rfl)
          have e0 : s0 = .agg #[.string (numS q), .string (denS q)] := hF.get 0 _ rfl (.inr p0)
          subst e0
          refine step_of ⟨some 19, _, _, _, _, _⟩ rfl (fun K' hK => ?_)
          go_simp
          go_at_call 66
          (with_reducible refine (TA.out _ (HE0.out.kept hF.low HP.out)).mono ?_)
          rintro e Wq ⟨rfl, hq⟩
          refine hK.out _ _ ⟨_, hF.pure hok hla hpre rfl hq, ?fr⟩
          case fr => simp only [putO, layT_some, layT_none, layT_nil, List.setIfInBounds_toArray, List.set_cons_zero, List.set_cons_succ]
        · replace hge : 2 ≤ i := hgt
          clear hgt
          have he : i = 2 := Nat.le_antisymm (Nat.le_of_lt_succ hi) hge
          subst he
          rw [if_neg (hF.unst (by decide))] at hO2
          have hcc := (two_at (hO2)).1
          have cH60 := hcc.1
          have cH61 := hcc.2
          clear hcc
          refine step_of ⟨some 20, _, _, _, _, _⟩ rfl (fun K' hK => ?_)
          go_simp
          refine hK.out _ _ ⟨_, hF.pure hok hla hpre rfl (Below.refl _ _), ?fr⟩
          case fr => simp only [putO, layT_some, layT_none, layT_nil, List.setIfInBounds_toArray, List.set_cons_zero, List.set_cons_succ]
    · replace hge : 3 ≤ i := hgt
      clear hgt
      rcases Nat.lt_or_ge i 4 with hlt | hgt
      · replace hi := hlt
        clear hlt
        have he : i = 3 := Nat.le_antisymm (Nat.le_of_lt_succ hi) hge
        subst he
        have p1 := hpre 1 (by kernel_rfl)
        have e1 : s1 = .agg #[.string (numS aa), .string (denS aa)] := hF.get 1 _ rfl (.inr p1)
        subst e1
        have p2 := hpre 2 (by kernel_rfl)
        have e2 : s2 = .agg #[.string (numS TT), .string (denS TT)] := hF.get 2 _ rfl (.inr p2)
        subst e2
        refine step_of ⟨some 21, _, _, _, _, _⟩ rfl (fun K' hK => ?_)
        go_simp
        go_at_call 126
        (with_reducible refine (TM.out _ (HE0.out.kept hF.low HP.out)).mono ?_)
        rintro e Wq ⟨rfl, hq⟩
        refine hK.out _ _ ⟨_, hF.pure hok hla hpre rfl hq, ?fr⟩
        case fr => simp only [putO, layT_some, layT_none, layT_nil, List.setIfInBounds_toArray, List.set_cons_zero, List.set_cons_succ]
      · replace hge : 4 ≤ i := hgt
        clear hgt
        rcases Nat.lt_or_ge i 5 with hlt | hgt
        · replace hi := hlt
          clear hlt
          have he : i = 4 := Nat.le_antisymm (Nat.le_of_lt_succ hi) hge
          subst he
          refine step_of ⟨some 7, _, _, _, _, _⟩ rfl (fun K' hK => ?_)
          go_simp
          refine hK.out _ _ ⟨_, hF.box hok hla hpre hun rfl, ?fr⟩
          case fr => simp only [putO, layT_some, layT_none, layT_nil, List.setIfInBounds_toArray, List.set_cons_zero, List.set_cons_succ]
        · replace hge : 5 ≤ i := hgt
          clear hgt
          have he : i = 5 := Nat.le_antisymm (Nat.le_of_lt_succ hi) hge
          subst he
          have p4 := hpre 4 (by kernel_rfl)
          obtain ⟨G, eG, _, hGl, hGB⟩ : ∃ G, s4 = .pointer (some ⟨G, 0, none⟩) ∧ (∀ k, none = some k → G = k) ∧ W.heap.size ≤ G ∧ Wr.heap[G]? = some (.cells (if listed.getD 5 false = true then #[.string (numS yy), .string (denS yy)] else #[.string { data := #[] }, .string { data := #[] }]) 24 (0, 0)) := hF.get 4 _ rfl (.inr p4)
          subst eG
          rw [if_neg (bit_off hun)] at hGB
          have HGB := Lib.hid hGB
          clear hGB
          have p3 := hpre 3 (by kernel_rfl)
          have e3 : s3 = .agg #[.string (numS yy), .string (denS yy)] := hF.get 3 _ rfl (.inr p3)
          subst e3
          obtain ⟨⟨y0, y1⟩, g0, g1⟩ := two_at HGB.out
          refine step_of ⟨none, _, _, _, _, _⟩ rfl (fun K' hK => ?_)
          go_simp
          refine hK.out _ _ ⟨undef, hF.put hok hna hpre hun rfl undef rfl (.inr p4) rfl (set2_at HGB.out (.string (numS yy)) (.string (denS yy))) (fun k hk => set2_other _ _ (.string (numS yy)) (.string (denS yy)) hk) (put2_below hGl _ (.string (numS yy)) (.string (denS yy))), ?fr⟩
          case fr => simp only [putO, layT_some, layT_none, layT_nil, List.setIfInBounds_toArray, List.set_cons_zero, List.set_cons_succ]
  case hd =>
    rintro listed vs WA hF hall
    obtain ⟨s0, s1, s2, s3, s4, s5, o0, o1, o2, hvs⟩ := exl_of 9 vs (fun l => vs = l) hF.len rfl
    subst hvs
    obtain ⟨_, eG0, hg0, gG0, hO0⟩ : ∃ G, o0 = .pointer (some ⟨G, 0, none⟩) ∧ (∀ k, some (W.heap.size) = some k → G = k) ∧ W.heap.size ≤ G ∧ WA.heap[G]? = some (.cells (if listed.getD 9 false = true then #[.string { data := #[] }, .string { data := #[] }] else #[.string { data := #[] }, .string { data := #[] }]) 24 (0, 0)) := hF.get 6 _ rfl (.inl (by decide))
    have hg0 := hg0 _ rfl
    subst hg0
    subst eG0
    obtain ⟨_, eG1, hg1, gG1, hO1⟩ : ∃ G, o1 = .pointer (some ⟨G, 0, none⟩) ∧ (∀ k, some (W1.heap.size) = some k → G = k) ∧ W.heap.size ≤ G ∧ WA.heap[G]? = some (.cells (if listed.getD 9 false = true then #[.string (numS q), .string (denS q)] else #[.string (numS q), .string (denS q)]) 24 (0, 0)) := hF.get 7 _ rfl (.inl (by decide))
    have hg1 := hg1 _ rfl
    subst hg1
    subst eG1
    obtain ⟨_, eG2, hg2, gG2, hO2⟩ : ∃ G, o2 = .pointer (some ⟨G, 0, none⟩) ∧ (∀ k, some (W5.heap.size) = some k → G = k) ∧ W.heap.size ≤ G ∧ WA.heap[G]? = some (.cells (if listed.getD 9 false = true then #[.string (numS TT), .string (denS TT)] else #[.string (numS TT), .string (denS TT)]) 24 (0, 0)) := hF.get 8 _ rfl (.inl (by decide))
    have hg2 := hg2 _ rfl
    subst hg2
    subst eG2
    obtain ⟨b7, e4, _, _, k4⟩ : ∃ G, s4 = .pointer (some ⟨G, 0, none⟩) ∧ (∀ k, none = some k → G = k) ∧ _ ≤ G ∧ WA.heap[G]? = some (.cells (if listed.getD 5 false = true then #[.string (numS yy), .string (denS yy)] else #[.string { data := #[] }, .string { data := #[] }]) 24 (0, 0)) := hF.get 4 _ rfl (.inr (hall 4 (by decide)))
    subst e4
    rw [if_pos (hall 5 (by decide))] at k4
    have H7 := Lib.hid k4
    clear k4
    rw [if_neg (hF.unst (by decide))] at hO0
    replace H4 := Lib.hid hO0
    clear hO0
    rw [if_neg (hF.unst (by decide))] at hO1
    replace H5 := Lib.hid hO1
    clear hO1
    rw [if_neg (hF.unst (by decide))] at hO2
    replace H6 := Lib.hid hO2
    clear hO2
    have HQ := Lib.hid hF.low
    clear hF hall hok hna hla
    simp only [putO, layT_some, layT_none, layT_nil, List.setIfInBounds_toArray, List.set_cons_zero, List.set_cons_succ]
    clear HA HC0 HC1
    replace HG := HQ
    clear HQ
    replace HE := Lib.hid (HE0.out.kept HG.out HP.out)
    obtain ⟨⟨x7_0, x7_1⟩, x7_f0, x7_f1⟩ := two_at H7.out
    go_wp2_with fail
    refine (TF.out _ HE.out).mono ?_
    clear x7_0 x7_1 x7_f0 x7_f1
    rintro e W6 ⟨rfl, hb⟩
    replace H4 := Lib.hid (keep_block H4.out hb)
    replace H5 := Lib.hid (keep_block H5.out hb)
    replace H6 := Lib.hid (keep_block H6.out hb)
    replace H7 := Lib.hid (keep_block H7.out hb)
    replace HE := Lib.hid (HE.out.below hb)
    replace HG := Lib.hid (kept_trans HG.out (kept_below hb))
    clear hb
    have L8_4 := Lib.hid (heap_lt H4.out)
    have L8_5 := Lib.hid (heap_lt H5.out)
    have L8_6 := Lib.hid (heap_lt H6.out)
    have L8_7 := Lib.hid (heap_lt H7.out)
    have G8 := Lib.hid (HG.out.size)
    have NE8 : Hid (W6.heap.size ≠ b) := Lib.hid (Nat.ne_of_gt (Nat.lt_of_lt_of_le HBW.out G8.out))
    have hb : Below W6.heap.size W6 (W6.alloc (.cells #[.string (numS zz), .string (denS zz)] 24)) := (Below.refl _ _).alloc (Nat.le_refl _) _
    replace H4 := Lib.hid (keep_block H4.out hb)
    replace H5 := Lib.hid (keep_block H5.out hb)
    replace H6 := Lib.hid (keep_block H6.out hb)
    replace H7 := Lib.hid (keep_block H7.out hb)
    replace HE := Lib.hid (HE.out.below hb)
    replace HG := Lib.hid (kept_trans HG.out (kept_below hb))
    have H8 := Lib.hid (heap_alloc_new W6 (.cells #[.string (numS zz), .string (denS zz)] 24))
    clear hb
    go_wp2_with fail
    have := L5_4.out
    have := L6_4.out
    have := L6_5.out
    have := L8_4.out
    have := L8_5.out
    have := L8_6.out
    have := HG.out.size
    have := G5.out
    have := G6.out
    have := G8.out
    have hok : okB 6 (Cutd2Ks7 W W1 W5 W6 q TT aa yy zz zz dd rr) = true := by kernel_rfl
    have hna := noAny_of (ks := (Cutd2Ks7 W W1 W5 W6 q TT aa yy zz zz dd rr)) (by kernel_rfl)
    have hla := lasts_of hna
    refine wp_region_facts (row := (some b)) (w := W) 6 (Cutd2Ks7 W W1 W5 W6 q TT aa yy zz zz dd rr) [some 33, some 34, some 35, some 36, some 37, none] (by kernel_rfl) (by kernel_rfl) rfl [undef, undef, undef, undef, undef, undef, .pointer (some ⟨W.heap.size, 0, none⟩), .pointer (some ⟨W1.heap.size, 0, none⟩), .pointer (some ⟨W5.heap.size, 0, none⟩), .pointer (some ⟨W6.heap.size, 0, none⟩)] ?h00 (Fs.start_olds hla rfl HG.out ⟨⟨_, rfl, fun _ h => Option.some.inj h, by omega, H4.out⟩, fun _ => ⟨fun _ => far_of (by omega), fun _ => far_of (by omega), fun _ => far_of (by omega), trivial⟩, ⟨⟨_, rfl, fun _ h => Option.some.inj h, by omega, H5.out⟩, fun _ => ⟨fun _ => far_of (by omega), fun _ => far_of (by omega), trivial⟩, ⟨⟨_, rfl, fun _ h => Option.some.inj h, by omega, H6.out⟩, fun _ => ⟨fun _ => far_of (by omega), trivial⟩, ⟨⟨_, rfl, fun _ h => Option.some.inj h, by omega, H8.out⟩, fun _ => trivial, trivial⟩⟩⟩⟩) ?hs ?hd
    case h00 => simp only [putO, layT_some, layT_none, layT_nil, List.setIfInBounds_toArray, List.set_cons_zero, List.set_cons_succ]
    case hs =>
      rintro listed vs Wr hF i hi hun hpre
      obtain ⟨s0, s1, s2, s3, s4, s5, o0, o1, o2, o3, hvs⟩ := exl_of 10 vs (fun l => vs = l) hF.len rfl
      subst hvs
      obtain ⟨_, eG0, hg0, gG0, hO0⟩ : ∃ G, o0 = .pointer (some ⟨G, 0, none⟩) ∧ (∀ k, some (W.heap.size) = some k → G = k) ∧ W.heap.size ≤ G ∧ Wr.heap[G]? = some (.cells (if listed.getD 5 false = true then #[.string (numS rr), .string (denS rr)] else #[.string { data := #[] }, .string { data := #[] }]) 24 (0, 0)) := hF.get 6 _ rfl (.inl (by decide))
      have hg0 := hg0 _ rfl
      subst hg0
      subst eG0
      obtain ⟨_, eG1, hg1, gG1, hO1⟩ : ∃ G, o1 = .pointer (some ⟨G, 0, none⟩) ∧ (∀ k, some (W1.heap.size) = some k → G = k) ∧ W.heap.size ≤ G ∧ Wr.heap[G]? = some (.cells (if listed.getD 10 false = true then #[.string (numS q), .string (denS q)] else #[.string (numS q), .string (denS q)]) 24 (0, 0)) := hF.get 7 _ rfl (.inl (by decide))
      have hg1 := hg1 _ rfl
      subst hg1
      subst eG1
      obtain ⟨_, eG2, hg2, gG2, hO2⟩ : ∃ G, o2 = .pointer (some ⟨G, 0, none⟩) ∧ (∀ k, some (W5.heap.size) = some k → G = k) ∧ W.heap.size ≤ G ∧ Wr.heap[G]? = some (.cells (if listed.getD 10 false = true then #[.string (numS TT), .string (denS TT)] else #[.string (numS TT), .string (denS TT)]) 24 (0, 0)) := hF.get 8 _ rfl (.inl (by decide))
      have hg2 := hg2 _ rfl
      subst hg2
      subst eG2
      obtain ⟨_, eG3, hg3, gG3, hO3⟩ : ∃ G, o3 = .pointer (some ⟨G, 0, none⟩) ∧ (∀ k, some (W6.heap.size) = some k → G = k) ∧ W.heap.size ≤ G ∧ Wr.heap[G]? = some (.cells (if listed.getD 10 false = true then #[.string (numS zz), .string (denS zz)] else #[.string (numS zz), .string (denS zz)]) 24 (0, 0)) := hF.get 9 _ rfl (.inl (by decide))
      have hg3 := hg3 _ rfl
      subst hg3
      subst eG3
      have hge := Nat.zero_le i
      simp only [putO, layT_some, layT_none, layT_nil, List.setIfInBounds_toArray, List.set_cons_zero, List.set_cons_succ]
      rcases Nat.lt_or_ge i 3 with hlt | hgt
      · replace hi := hlt
        clear hlt
        rcases Nat.lt_or_ge i 1 with hlt | hgt
        · replace hi := hlt
          clear hlt
          have he : i = 0 := Nat.le_antisymm (Nat.le_of_lt_succ hi) hge
          subst he
          rw [if_neg (hF.unst (by decide))] at hO3
          have hcc := (two_at (hO3)).1
          have cH80 := hcc.1
          have cH81 := hcc.2
          clear hcc
          refine step_of ⟨some 33, _, _, _, _, _⟩ rfl (fun K' hK => ?_)
          go_simp
          refine hK.out _ _ ⟨_, hF.pure hok hla hpre rfl (Below.refl _ _), ?fr⟩
          case fr => simp only [putO, layT_some, layT_none, layT_nil, List.setIfInBounds_toArray, List.set_cons_zero, List.set_cons_succ]
        · replace hge : 1 ≤ i := hgt
          clear hgt
          rcases Nat.lt_or_ge i 2 with hlt | hgt
          · replace hi := hlt
            clear hlt
            have he : i = 1 := Nat.le_antisymm (Nat.le_of_lt_succ hi) hge
            subst he
            rw [if_neg (hF.unst (by decide))] at hO2
            have hcc := (two_at (hO2)).1
            have cH60 := hcc.1
            have cH61 := hcc.2
            clear hcc
            refine step_of ⟨some 34, _, _, _, _, _⟩ rfl (fun K' hK => ?_)
            go_simp
            refine hK.out _ _ ⟨_, hF.pure hok hla hpre rfl (Below.refl _ _), ?fr⟩
            case fr => simp only [putO, layT_some, layT_none, layT_nil, List.setIfInBounds_toArray, List.set_cons_zero, List.set_cons_succ]
          · replace hge : 2 ≤ i := hgt
            clear hgt
            have he : i = 2 := Nat.le_antisymm (Nat.le_of_lt_succ hi) hge
            subst he
            have p0 := hpre 0 (by kernel_rfl)
            have e0 : s0 = .agg #[.string (numS zz), .string (denS zz)] := hF.get 0 _ rfl (.inr p0)
            subst e0
            have p1 := hpre 1 (by kernel_rfl)
            have e1 : s1 = .agg #[.string (numS TT), .string (denS TT)] := hF.get 1 _ rfl (.inr p1)
            subst e1
            refine step_of ⟨some 35, _, _, _, _, _⟩ rfl (fun K' hK => ?_)
            go_simp
            go_at_call 89
            (with_reducible refine (TD.out _ (HE0.out.kept hF.low HP.out)).mono ?_)
            rintro e Wq ⟨rfl, hq⟩
            refine hK.out _ _ ⟨_, hF.pure hok hla hpre rfl hq, ?fr⟩
            case fr => simp only [putO, layT_some, layT_none, layT_nil, List.setIfInBounds_toArray, List.set_cons_zero, List.set_cons_succ]
      · replace hge : 3 ≤ i := hgt
        clear hgt
        rcases Nat.lt_or_ge i 4 with hlt | hgt
        · replace hi := hlt
          clear hlt
          have he : i = 3 := Nat.le_antisymm (Nat.le_of_lt_succ hi) hge
          subst he
          rw [if_neg (hF.unst (by decide))] at hO1
          have hcc := (two_at (hO1)).1
          have cH50 := hcc.1
          have cH51 := hcc.2
          clear hcc
          refine step_of ⟨some 36, _, _, _, _, _⟩ rfl (fun K' hK => ?_)
          go_simp
          refine hK.out _ _ ⟨_, hF.pure hok hla hpre rfl (Below.refl _ _), ?fr⟩
          case fr => simp only [putO, layT_some, layT_none, layT_nil, List.setIfInBounds_toArray, List.set_cons_zero, List.set_cons_succ]
        · replace hge : 4 ≤ i := hgt
          clear hgt
          rcases Nat.lt_or_ge i 5 with hlt | hgt
          · replace hi := hlt
            clear hlt
            have he : i = 4 := Nat.le_antisymm (Nat.le_of_lt_succ hi) hge
            subst he
            have p2 := hpre 2 (by kernel_rfl)
            have e2 : s2 = .agg #[.string (numS dd), .string (denS dd)] := hF.get 2 _ rfl (.inr p2)
            subst e2
            have p3 := hpre 3 (by kernel_rfl)
            have e3 : s3 = .agg #[.string (numS q), .string (denS q)] := hF.get 3 _ rfl (.inr p3)
            subst e3
            refine step_of ⟨some 37, _, _, _, _, _⟩ rfl (fun K' hK => ?_)
            go_simp
            go_at_call 128
            (with_reducible refine (TS.out _ (HE0.out.kept hF.low HP.out)).mono ?_)
            rintro e Wq ⟨rfl, hq⟩
            refine hK.out _ _ ⟨_, hF.pure hok hla hpre rfl hq, ?fr⟩
            case fr => simp only [putO, layT_some, layT_none, layT_nil, List.setIfInBounds_toArray, List.set_cons_zero, List.set_cons_succ]
          · replace hge : 5 ≤ i := hgt
            clear hgt
            have he : i = 5 := Nat.le_antisymm (Nat.le_of_lt_succ hi) hge
            subst he
            have p4 := hpre 4 (by kernel_rfl)
            have e4 : s4 = .agg #[.string (numS rr), .string (denS rr)] := hF.get 4 _ rfl (.inr p4)
            subst e4
            rw [if_neg (bit_off hun)] at hO0
            have HGB := Lib.hid hO0
            obtain ⟨⟨y0, y1⟩, g0, g1⟩ := two_at HGB.out
            refine step_of ⟨none, _, _, _, _, _⟩ rfl (fun K' hK => ?_)
            go_simp
            refine hK.out _ _ ⟨undef, hF.put hok hna hpre hun rfl undef rfl (.inl (by decide)) rfl (set2_at HGB.out (.string (numS rr)) (.string (denS rr))) (fun k hk => set2_other _ _ (.string (numS rr)) (.string (denS rr)) hk) (put2_below gG0 _ (.string (numS rr)) (.string (denS rr))), ?fr⟩
            case fr => simp only [putO, layT_some, layT_none, layT_nil, List.setIfInBounds_toArray, List.set_cons_zero, List.set_cons_succ]
    case hd =>
      rintro listed vs WC hF hall
      obtain ⟨s0, s1, s2, s3, s4, s5, o0, o1, o2, o3, hvs⟩ := exl_of 10 vs (fun l => vs = l) hF.len rfl
      subst hvs
      obtain ⟨_, eG0, hg0, gG0, hO0⟩ : ∃ G, o0 = .pointer (some ⟨G, 0, none⟩) ∧ (∀ k, some (W.heap.size) = some k → G = k) ∧ W.heap.size ≤ G ∧ WC.heap[G]? = some (.cells (if listed.getD 5 false = true then #[.string (numS rr), .string (denS rr)] else #[.string { data := #[] }, .string { data := #[] }]) 24 (0, 0)) := hF.get 6 _ rfl (.inl (by decide))
      have hg0 := hg0 _ rfl
      subst hg0
      subst eG0
      obtain ⟨_, eG1, hg1, gG1, hO1⟩ : ∃ G, o1 = .pointer (some ⟨G, 0, none⟩) ∧ (∀ k, some (W1.heap.size) = some k → G = k) ∧ W.heap.size ≤ G ∧ WC.heap[G]? = some (.cells (if listed.getD 10 false = true then #[.string (numS q), .string (denS q)] else #[.string (numS q), .string (denS q)]) 24 (0, 0)) := hF.get 7 _ rfl (.inl (by decide))
      have hg1 := hg1 _ rfl
      subst hg1
      subst eG1
      obtain ⟨_, eG2, hg2, gG2, hO2⟩ : ∃ G, o2 = .pointer (some ⟨G, 0, none⟩) ∧ (∀ k, some (W5.heap.size) = some k → G = k) ∧ W.heap.size ≤ G ∧ WC.heap[G]? = some (.cells (if listed.getD 10 false = true then #[.string (numS TT), .string (denS TT)] else #[.string (numS TT), .string (denS TT)]) 24 (0, 0)) := hF.get 8 _ rfl (.inl (by decide))
      have hg2 := hg2 _ rfl
      subst hg2
      subst eG2
      obtain ⟨_, eG3, hg3, gG3, hO3⟩ : ∃ G, o3 = .pointer (some ⟨G, 0, none⟩) ∧ (∀ k, some (W6.heap.size) = some k → G = k) ∧ W.heap.size ≤ G ∧ WC.heap[G]? = some (.cells (if listed.getD 10 false = true then #[.string (numS zz), .string (denS zz)] else #[.string (numS zz), .string (denS zz)]) 24 (0, 0)) := hF.get 9 _ rfl (.inl (by decide))
      have hg3 := hg3 _ rfl
      subst hg3
      subst eG3
      rw [if_pos (hall 5 (by decide))] at hO0
      replace H4 := Lib.hid hO0
      clear hO0
      rw [if_neg (hF.unst (by decide))] at hO1
      replace H5 := Lib.hid hO1
      clear hO1
      rw [if_neg (hF.unst (by decide))] at hO2
      replace H6 := Lib.hid hO2
      clear hO2
      rw [if_neg (hF.unst (by decide))] at hO3
      replace H8 := Lib.hid hO3
      clear hO3
      have HQ := Lib.hid hF.low
      clear hF hall hok hna hla
      simp only [putO, layT_some, layT_none, layT_nil, List.setIfInBounds_toArray, List.set_cons_zero, List.set_cons_succ]
      replace HG := HQ
      clear HQ
      replace HE := Lib.hid (HE0.out.kept HG.out HP.out)
      obtain ⟨⟨x4_0, x4_1⟩, x4_f0, x4_f1⟩ := two_at H4.out
      go_wp2
      refine bodyPost_ret (v := .agg #[.string (numS rr), .string (denS rr)]) (by simp [results, Tryz.results74, go_sem, x4_0, x4_1]) rfl ⟨rfl, HG.out⟩

set_option linter.unusedVariables false in
/-- what the operations of region 3 yield -/
def Cutu2eqKs3 (W W1 W5 : World) (q TT aa yy : Rat) : List RK :=
  [.pure (.agg #[.string (numS q), .string (denS q)]),
   .pure (.agg #[.string (numS aa), .string (denS aa)]),
   .pure (.agg #[.string (numS TT), .string (denS TT)]),
   .pure (.agg #[.string (numS yy), .string (denS yy)]),
   .box none #[.string { data := #[] }, .string { data := #[] }] #[.string (numS yy), .string (denS yy)] 24 5,
   .put 4,
   .box (some (W.heap.size)) #[.string { data := #[] }, .string { data := #[] }] #[.string { data := #[] }, .string { data := #[] }] 24 9,
   .box (some (W1.heap.size)) #[.string (numS q), .string (denS q)] #[.string (numS q), .string (denS q)] 24 9,
   .box (some (W5.heap.size)) #[.string (numS TT), .string (denS TT)] #[.string (numS TT), .string (denS TT)] 24 9]
set_option linter.unusedVariables false in
/-- what the operations of region 7 yield -/
def Cutu2eqKs7 (W W1 W5 W6 : World) (q TT aa yy zz z1 dd rr : Rat) : List RK :=
  [.pure (.agg #[.string (numS yy), .string (denS yy)]),
   .pure (.agg #[.string (numS TT), .string (denS TT)]),
   .pure (.agg #[.string (numS dd), .string (denS dd)]),
   .pure (.agg #[.string (numS q), .string (denS q)]),
   .pure (.agg #[.string (numS rr), .string (denS rr)]),
   .put 6,
   .box (some (W.heap.size)) #[.string { data := #[] }, .string { data := #[] }] #[.string (numS rr), .string (denS rr)] 24 5,
   .box (some (W1.heap.size)) #[.string (numS q), .string (denS q)] #[.string (numS q), .string (denS q)] 24 10,
   .box (some (W5.heap.size)) #[.string (numS TT), .string (denS TT)] #[.string (numS TT), .string (denS TT)] 24 10,
   .box (some (W6.heap.size)) #[.string (numS yy), .string (denS yy)] #[.string (numS yy), .string (denS yy)] 24 10]
set_option linter.unusedSimpArgs false in
set_option linter.unusedVariables false in
set_option maxHeartbeats 4000000 in
set_option maxRecDepth 100000 in
theorem fn_cutu2eq (q k : Rat) (b g C : Nat) (W : World) (hq0 : fits q = true) (hq1 : fits k = true) (hk0 : -100 ≤ k.floor) (hk1 : k.floor ≤ 100) (hT : fits (tenR k.floor) = true) (hy : fits (absR q * tenR k.floor) = true) (hz : fits (((absR q * tenR k.floor).floor : Int) : Rat) = true) (hzy : (((absR q * tenR k.floor).floor : Int) : Rat) = absR q * tenR k.floor) (hd : fits ((((absR q * tenR k.floor).floor : Int) : Rat) / tenR k.floor) = true) (ha : ArgsAt W b (some ⟨g, 0, none⟩) 2 C 0) (hne : g ≠ b) (hc0 : NumCells W g (0 + 0 * 9) q) (hc1 : NumCells W g (0 + 1 * 9) k) (hE : Env W) (hP : Past b) :
    Calls Tryz.prog 74 #[.pointer (some ⟨b, 0, none⟩), .bool true] W fun e w' => e = .returned (fracV (cutR true q (k.floor))) ∧ W.grownBy w' (some b) := by
  have TN0 := Lib.hid (fun W' ga gc ge => argNum_any b g 0 2 C 0 q W' ga (by decide) (by decide) hne gc hq0 ge hP)
  rw [fracV_is q] at TN0
  have TP := Lib.hid (fun W' ga gc ge => places_some b g 0 2 C 1 k W' ga (by decide) (by decide) hne gc hq1 hk0 hk1 ge hP)
  have hres : cutR true q (k.floor) = signedR ((((absR q * tenR k.floor).floor : Int) : Rat) / tenR k.floor) q := by
    unfold cutR
    rw [if_neg (fun h => h.2 hzy)]
  rw [hres]
  clear hres
  have TO := Lib.hid (fun W g => of_any 10 W (by decide) (by decide) g)
  have TPw := Lib.hid (fun W g => powerQ_any ((10 : Int) : Rat) (k.floor) W (by exact fits_int 10 (by decide)) (fun _ => by decide) (by omega) (by omega) (limbs34 (by rw [up_int]; exact Nat.lt_of_le_of_lt (Nat.pow_le_pow_right (by decide) (show (k.floor).natAbs ≤ 100 by omega)) (by decide +kernel))) (limbs34 (by rw [den_int, Nat.one_pow]; decide +kernel)) g)
  rw [show powR ((10 : Int) : Rat) (k.floor) = tenR (k.floor) from tenR_pow _, wroteV_ok hT] at TPw
  have TMu := Lib.hid (fun W => must_ok (tenR (k.floor)) W)
  have TA := Lib.hid (fun W g => fm_abs q W hq0 g)
  have TM := Lib.hid (fun W g => fm_mul (absR q) (tenR (k.floor)) W (by rw [fits_absR]; exact hq0) hT hy g)
  have TF := Lib.hid (fun W g => fm_floor (absR q * tenR (k.floor)) W hy hz g)
  have TD := Lib.hid (fun W g => fm_div (((absR q * tenR k.floor).floor : Int) : Rat) (tenR (k.floor)) W hz hT (rat_ne (tenR_pos _)) hd g)
  have TS := Lib.hid (fun W g => fm_signed ((((absR q * tenR k.floor).floor : Int) : Rat) / tenR (k.floor)) q W hd hq0 g)
  obtain ⟨kk, hkk⟩ : ∃ z, k.floor = z := ⟨_, rfl⟩
  rw [hkk] at TP TPw TMu TM TF TD TS ⊢
  obtain ⟨TT, hTT⟩ : ∃ z, tenR kk = z := ⟨_, rfl⟩
  rw [hTT] at TPw TMu TM TF TD TS ⊢
  obtain ⟨te, hte⟩ : ∃ z, ((10 : Int) : Rat) = z := ⟨_, rfl⟩
  rw [hte] at TO TPw
  obtain ⟨aa, haa⟩ : ∃ z, absR q = z := ⟨_, rfl⟩
  rw [haa] at TA TM TF TD TS ⊢
  obtain ⟨yy, hyy⟩ : ∃ z, aa * TT = z := ⟨_, rfl⟩
  rw [hyy] at TM TF TD TS ⊢
  obtain ⟨zz, hzz⟩ : ∃ z, ((yy.floor : Int) : Rat) = z := ⟨_, rfl⟩
  rw [hzz] at TF TD TS ⊢
  obtain ⟨dd, hdd⟩ : ∃ z, zz / TT = z := ⟨_, rfl⟩
  rw [hdd] at TD TS ⊢
  obtain ⟨rr, hrr⟩ : ∃ z, signedR dd q = z := ⟨_, rfl⟩
  rw [hrr] at TS ⊢
  rw [fracV_is te] at TO TPw
  rw [fracV_is TT] at TPw TMu TM TD
  rw [fracV_is q] at TA TS
  rw [fracV_is aa] at TA TM
  rw [fracV_is yy] at TM TF
  rw [fracV_is zz] at TF TD
  rw [fracV_is dd] at TD TS
  rw [fracV_is rr] at TS ⊢
  have hzy2 : zz = yy := by rw [← hzz, ← hyy, ← haa, ← hTT, ← hkk]; exact hzy
  rw [hzy2] at TF TD
  clear hzy2
  have HP := Lib.hid hP
  have HE0 := Lib.hid hE
  have NG := Lib.hid hne
  have HBW := Lib.hid (heap_lt ha)
  have hb : Below W.heap.size W (W.alloc (.cells #[.string { data := #[] }, .string { data := #[] }] 24)) := (Below.refl _ _).alloc (Nat.le_refl _) _
  have HA := Lib.hid (show ArgsAt (W.alloc (.cells #[.string { data := #[] }, .string { data := #[] }] 24)) b (some ⟨g, 0, none⟩) 2 C 0 from keep_block ha hb)
  have HC0 := Lib.hid (NumCells.below hc0 hb)
  have HC1 := Lib.hid (NumCells.below hc1 hb)
  have HE := Lib.hid (hE.below hb)
  have HG := Lib.hid (kept_below (b := b) hb)
  have H4 := Lib.hid (heap_alloc_new W (.cells #[.string { data := #[] }, .string { data := #[] }] 24))
  have NE4 := Lib.hid (show W.heap.size ≠ b from Nat.ne_of_gt HBW.out)
  clear hb
  clear ha hE hP hne hc0 hc1 hkk hTT hte haa hyy hzz hdd hrr hq0 hT hy hz hd hq1 hk0 hk1 hzy
  go_enter Tryz.func74, Tryz.ntmps74
  go_wp2_with fail
  refine (TN0.out _ HA.out HC0.out HE.out).mono ?_
  rintro e W1 ⟨rfl, ha, hg⟩
  replace HA := Lib.hid ha
  replace H4 := Lib.hid (kept_block H4.out hg NE4.out)
  replace HC0 := Lib.hid (HC0.out.kept hg NG.out)
  replace HC1 := Lib.hid (HC1.out.kept hg NG.out)
  replace HE := Lib.hid (HE.out.kept hg HP.out)
  replace HG := Lib.hid (kept_trans HG.out hg)
  clear ha hg
  have L5_4 := Lib.hid (heap_lt H4.out)
  have G5 := Lib.hid (HG.out.size)
  have NE5 : Hid (W1.heap.size ≠ b) := Lib.hid (Nat.ne_of_gt (Nat.lt_of_lt_of_le HBW.out G5.out))
  have hb : Below W1.heap.size W1 (W1.alloc (.cells #[.string (numS q), .string (denS q)] 24)) := (Below.refl _ _).alloc (Nat.le_refl _) _
  replace H4 := Lib.hid (keep_block H4.out hb)
  replace HC0 := Lib.hid (NumCells.below HC0.out hb)
  replace HC1 := Lib.hid (NumCells.below HC1.out hb)
  replace HA := Lib.hid (keep_block HA.out hb)
  replace HE := Lib.hid (HE.out.below hb)
  replace HG := Lib.hid (kept_trans HG.out (kept_below hb))
  have H5 := Lib.hid (heap_alloc_new W1 (.cells #[.string (numS q), .string (denS q)] 24))
  clear hb
  go_wp2_with fail
  refine (TO.out _ (Env.tab HE.out)).mono ?_
  rintro e W2 ⟨rfl, hb⟩
  replace H4 := Lib.hid (keep_block H4.out hb)
  replace H5 := Lib.hid (keep_block H5.out hb)
  replace HC0 := Lib.hid (NumCells.below HC0.out hb)
  replace HC1 := Lib.hid (NumCells.below HC1.out hb)
  replace HA := Lib.hid (keep_block HA.out hb)
  replace HE := Lib.hid (HE.out.below hb)
  replace HG := Lib.hid (kept_trans HG.out (kept_below hb))
  clear hb
  go_wp2_with fail
  refine (TP.out _ HA.out HC1.out HE.out).mono ?_
  rintro e W3 ⟨rfl, ha, hg⟩
  replace HA := Lib.hid ha
  replace H4 := Lib.hid (kept_block H4.out hg NE4.out)
  replace H5 := Lib.hid (kept_block H5.out hg NE5.out)
  replace HC0 := Lib.hid (HC0.out.kept hg NG.out)
  replace HC1 := Lib.hid (HC1.out.kept hg NG.out)
  replace HE := Lib.hid (HE.out.kept hg HP.out)
  replace HG := Lib.hid (kept_trans HG.out hg)
  clear ha hg
  go_wp2_with fail
  refine (TPw.out _ (Env.tab HE.out)).mono ?_
  rintro e W4 ⟨rfl, hb⟩
  replace H4 := Lib.hid (keep_block H4.out hb)
  replace H5 := Lib.hid (keep_block H5.out hb)
  replace HC0 := Lib.hid (NumCells.below HC0.out hb)
  replace HC1 := Lib.hid (NumCells.below HC1.out hb)
  replace HA := Lib.hid (keep_block HA.out hb)
  replace HE := Lib.hid (HE.out.below hb)
  replace HG := Lib.hid (kept_trans HG.out (kept_below hb))
  clear hb
  go_wp2_with fail
  refine (TMu.out _).mono ?_
  rintro e W5 ⟨rfl, hb⟩
  replace H4 := Lib.hid (keep_block H4.out hb)
  replace H5 := Lib.hid (keep_block H5.out hb)
  replace HC0 := Lib.hid (NumCells.below HC0.out hb)
  replace HC1 := Lib.hid (NumCells.below HC1.out hb)
  replace HA := Lib.hid (keep_block HA.out hb)
  replace HE := Lib.hid (HE.out.below hb)
  replace HG := Lib.hid (kept_trans HG.out (kept_below hb))
  clear hb
  have L6_4 := Lib.hid (heap_lt H4.out)
  have L6_5 := Lib.hid (heap_lt H5.out)
  have G6 := Lib.hid (HG.out.size)
  have NE6 : Hid (W5.heap.size ≠ b) := Lib.hid (Nat.ne_of_gt (Nat.lt_of_lt_of_le HBW.out G6.out))
  have hb : Below W5.heap.size W5 (W5.alloc (.cells #[.string (numS TT), .string (denS TT)] 24)) := (Below.refl _ _).alloc (Nat.le_refl _) _
  replace H4 := Lib.hid (keep_block H4.out hb)
  replace H5 := Lib.hid (keep_block H5.out hb)
  replace HC0 := Lib.hid (NumCells.below HC0.out hb)
  replace HC1 := Lib.hid (NumCells.below HC1.out hb)
  replace HA := Lib.hid (keep_block HA.out hb)
  replace HE := Lib.hid (HE.out.below hb)
  replace HG := Lib.hid (kept_trans HG.out (kept_below hb))
  have H6 := Lib.hid (heap_alloc_new W5 (.cells #[.string (numS TT), .string (denS TT)] 24))
  clear hb
  go_wp2_with fail
  have := L5_4.out
  have := L6_4.out
  have := L6_5.out
  have := HG.out.size
  have := G5.out
  have := G6.out
  have hok : okB 6 (Cutu2eqKs3 W W1 W5 q TT aa yy) = true := by kernel_rfl
  have hna := noAny_of (ks := (Cutu2eqKs3 W W1 W5 q TT aa yy)) (by kernel_rfl)
  have hla := lasts_of hna
  refine wp_region_facts (row := (some b)) (w := W) 6 (Cutu2eqKs3 W W1 W5 q TT aa yy) [some 18, some 19, some 20, some 21, some 7, none] (by kernel_rfl) (by kernel_rfl) rfl [undef, undef, undef, undef, undef, undef, .pointer (some ⟨W.heap.size, 0, none⟩), .pointer (some ⟨W1.heap.size, 0, none⟩), .pointer (some ⟨W5.heap.size, 0, none⟩)] ?h00 (Fs.start_olds hla rfl HG.out ⟨⟨_, rfl, fun _ h => Option.some.inj h, by omega, H4.out⟩, fun _ => ⟨fun _ => far_of (by omega), fun _ => far_of (by omega), trivial⟩, ⟨⟨_, rfl, fun _ h => Option.some.inj h, by omega, H5.out⟩, fun _ => ⟨fun _ => far_of (by omega), trivial⟩, ⟨⟨_, rfl, fun _ h => Option.some.inj h, by omega, H6.out⟩, fun _ => trivial, trivial⟩⟩⟩) ?hs ?hd
  case h00 => simp only [putO, layT_some, layT_none, layT_nil, List.setIfInBounds_toArray, List.set_cons_zero, List.set_cons_succ]
  case hs =>
    rintro listed vs Wr hF i hi hun hpre
    obtain ⟨s0, s1, s2, s3, s4, s5, o0, o1, o2, hvs⟩ := exl_of 9 vs (fun l => vs = l) hF.len rfl
    subst hvs
    obtain ⟨_, eG0, hg0, gG0, hO0⟩ : ∃ G, o0 = .pointer (some ⟨G, 0, none⟩) ∧ (∀ k, some (W.heap.size) = some k → G = k) ∧ W.heap.size ≤ G ∧ Wr.heap[G]? = some (.cells (if listed.getD 9 false = true then #[.string { data := #[] }, .string { data := #[] }] else #[.string { data := #[] }, .string { data := #[] }]) 24 (0, 0)) := hF.get 6 _ rfl (.inl (by decide))
    have hg0 := hg0 _ rfl
    subst hg0
    subst eG0
    obtain ⟨_, eG1, hg1, gG1, hO1⟩ : ∃ G, o1 = .pointer (some ⟨G, 0, none⟩) ∧ (∀ k, some (W1.heap.size) = some k → G = k) ∧ W.heap.size ≤ G ∧ Wr.heap[G]? = some (.cells (if listed.getD 9 false = true then #[.string (numS q), .string (denS q)] else #[.string (numS q), .string (denS q)]) 24 (0, 0)) := hF.get 7 _ rfl (.inl (by decide))
    have hg1 := hg1 _ rfl
    subst hg1
    subst eG1
    obtain ⟨_, eG2, hg2, gG2, hO2⟩ : ∃ G, o2 = .pointer (some ⟨G, 0, none⟩) ∧ (∀ k, some (W5.heap.size) = some k → G = k) ∧ W.heap.size ≤ G ∧ Wr.heap[G]? = some (.cells (if listed.getD 9 false = true then #[.string (numS TT), .string (denS TT)] else #[.string (numS TT), .string (denS TT)]) 24 (0, 0)) := hF.get 8 _ rfl (.inl (by decide))
    have hg2 := hg2 _ rfl
    subst hg2
    subst eG2
    have hge := Nat.zero_le i
    simp only [putO, layT_some, layT_none, layT_nil, List.setIfInBounds_toArray, List.set_cons_zero, List.set_cons_succ]
    rcases Nat.lt_or_ge i 3 with hlt | hgt
    · replace hi := hlt
      clear hlt
      rcases Nat.lt_or_ge i 1 with hlt | hgt
      · replace hi := hlt
        clear hlt
        have he : i = 0 := Nat.le_antisymm (Nat.le_of_lt_succ hi) hge
        subst he
        rw [if_neg (hF.unst (by decide))] at hO1
        have hcc := (two_at (hO1)).1
        have cH50 := hcc.1
        have cH51 := hcc.2
        clear hcc
        refine step_of ⟨some 18, _, _, _, _, _⟩ rfl (fun K' hK => ?_)
        go_simp
        refine hK.out _ _ ⟨_, hF.pure hok hla hpre rfl (Below.refl _ _), ?fr⟩
        case fr => simp only [putO, layT_some, layT_none, layT_nil, List.setIfInBounds_toArray, List.set_cons_zero, List.set_cons_succ]
      · replace hge : 1 ≤ i := hgt
        clear hgt
        rcases Nat.lt_or_ge i 2 with hlt | hgt
        · replace hi := hlt
          clear hlt
          have he : i = 1 := Nat.le_antisymm (Nat.le_of_lt_succ hi) hge
          subst he
          have p0 := hpre 0 (by kernel_rfl)
          have e0 : s0 = .agg #[.string (numS q), .string (denS q)] := hF.get 0 _ rfl (.inr p0)
          subst e0
          refine step_of ⟨some 19, _, _, _, _, _⟩ rfl (fun K' hK => ?_)
          go_simp
          go_at_call 66
          (with_reducible refine (TA.out _ (HE0.out.kept hF.low HP.out)).mono ?_)
          rintro e Wq ⟨rfl, hq⟩
          refine hK.out _ _ ⟨_, hF.pure hok hla hpre rfl hq, ?fr⟩
          case fr => simp only [putO, layT_some, layT_none, layT_nil, List.setIfInBounds_toArray, List.set_cons_zero, List.set_cons_succ]
        · replace hge : 2 ≤ i := hgt
          clear hgt
          have he : i = 2 := Nat.le_antisymm (Nat.le_of_lt_succ hi) hge
          subst he
          rw [if_neg (hF.unst (by decide))] at hO2
          have hcc := (two_at (hO2)).1
          have cH60 := hcc.1
          have cH61 := hcc.2
          clear hcc
          refine step_of ⟨some 20, _, _, _, _, _⟩ rfl (fun K' hK => ?_)
          go_simp
          refine hK.out _ _ ⟨_, hF.pure hok hla hpre rfl (Below.refl _ _), ?fr⟩
          case fr => simp only [putO, layT_some, layT_none, layT_nil, List.setIfInBounds_toArray, List.set_cons_zero, List.set_cons_succ]
    · replace hge : 3 ≤ i := hgt
      clear hgt
      rcases Nat.lt_or_ge i 4 with hlt | hgt
      · replace hi := hlt
        clear hlt
        have he : i = 3 := Nat.le_antisymm (Nat.le_of_lt_succ hi) hge
        subst he
        have p1 := hpre 1 (by kernel_rfl)
        have e1 : s1 = .agg #[.string (numS aa), .string (denS aa)] := hF.get 1 _ rfl (.inr p1)
        subst e1
        have p2 := hpre 2 (by kernel_rfl)
        have e2 : s2 = .agg #[.string (numS TT), .string (denS TT)] := hF.get 2 _ rfl (.inr p2)
        subst e2
        refine step_of ⟨some 21, _, _, _, _, _⟩ rfl (fun K' hK => ?_)
        go_simp
        go_at_call 126
        (with_reducible refine (TM.out _ (HE0.out.kept hF.low HP.out)).mono ?_)
        rintro e Wq ⟨rfl, hq⟩
        refine hK.out _ _ ⟨_, hF.pure hok hla hpre rfl hq, ?fr⟩
        case fr => simp only [putO, layT_some, layT_none, layT_nil, List.setIfInBounds_toArray, List.set_cons_zero, List.set_cons_succ]
      · replace hge : 4 ≤ i := hgt
        clear hgt
        rcases Nat.lt_or_ge i 5 with hlt | hgt
        · replace hi := hlt
          clear hlt
          have he : i = 4 := Nat.le_antisymm (Nat.le_of_lt_succ hi) hge
          subst he
          refine step_of ⟨some 7, _, _, _, _, _⟩ rfl (fun K' hK => ?_)
          go_simp
          refine hK.out _ _ ⟨_, hF.box hok hla hpre hun rfl, ?fr⟩
          case fr => simp only [putO, layT_some, layT_none, layT_nil, List.setIfInBounds_toArray, List.set_cons_zero, List.set_cons_succ]
        · replace hge : 5 ≤ i := hgt
          clear hgt
          have he : i = 5 := Nat.le_antisymm (Nat.le_of_lt_succ hi) hge
          subst he
          have p4 := hpre 4 (by kernel_rfl)
          obtain ⟨G, eG, _, hGl, hGB⟩ : ∃ G, s4 = .pointer (some ⟨G, 0, none⟩) ∧ (∀ k, none = some k → G = k) ∧ W.heap.size ≤ G ∧ Wr.heap[G]? = some (.cells (if listed.getD 5 false = true then #[.string (numS yy), .string (denS yy)] else #[.string { data := #[] }, .string { data := #[] }]) 24 (0, 0)) := hF.get 4 _ rfl (.inr p4)
          subst eG
          rw [if_neg (bit_off hun)] at hGB
          have HGB := Lib.hid hGB
          clear hGB
          have p3 := hpre 3 (by kernel_rfl)
          have e3 : s3 = .agg #[.string (numS yy), .string (denS yy)] := hF.get 3 _ rfl (.inr p3)
          subst e3
          obtain ⟨⟨y0, y1⟩, g0, g1⟩ := two_at HGB.out
          refine step_of ⟨none, _, _, _, _, _⟩ rfl (fun K' hK => ?_)
          go_simp
          refine hK.out _ _ ⟨undef, hF.put hok hna hpre hun rfl undef rfl (.inr p4) rfl (set2_at HGB.out (.string (numS yy)) (.string (denS yy))) (fun k hk => set2_other _ _ (.string (numS yy)) (.string (denS yy)) hk) (put2_below hGl _ (.string (numS yy)) (.string (denS yy))), ?fr⟩
          case fr => simp only [putO, layT_some, layT_none, layT_nil, List.setIfInBounds_toArray, List.set_cons_zero, List.set_cons_succ]
  case hd =>
    rintro listed vs WA hF hall
    obtain ⟨s0, s1, s2, s3, s4, s5, o0, o1, o2, hvs⟩ := exl_of 9 vs (fun l => vs = l) hF.len rfl
    subst hvs
    obtain ⟨_, eG0, hg0, gG0, hO0⟩ : ∃ G, o0 = .pointer (some ⟨G, 0, none⟩) ∧ (∀ k, some (W.heap.size) = some k → G = k) ∧ W.heap.size ≤ G ∧ WA.heap[G]? = some (.cells (if listed.getD 9 false = true then #[.string { data := #[] }, .string { data := #[] }] else #[.string { data := #[] }, .string { data := #[] }]) 24 (0, 0)) := hF.get 6 _ rfl (.inl (by decide))
    have hg0 := hg0 _ rfl
    subst hg0
    subst eG0
    obtain ⟨_, eG1, hg1, gG1, hO1⟩ : ∃ G, o1 = .pointer (some ⟨G, 0, none⟩) ∧ (∀ k, some (W1.heap.size) = some k → G = k) ∧ W.heap.size ≤ G ∧ WA.heap[G]? = some (.cells (if listed.getD 9 false = true then #[.string (numS q), .string (denS q)] else #[.string (numS q), .string (denS q)]) 24 (0, 0)) := hF.get 7 _ rfl (.inl (by decide))
    have hg1 := hg1 _ rfl
    subst hg1
    subst eG1
    obtain ⟨_, eG2, hg2, gG2, hO2⟩ : ∃ G, o2 = .pointer (some ⟨G, 0, none⟩) ∧ (∀ k, some (W5.heap.size) = some k → G = k) ∧ W.heap.size ≤ G ∧ WA.heap[G]? = some (.cells (if listed.getD 9 false = true then #[.string (numS TT), .string (denS TT)] else #[.string (numS TT), .string (denS TT)]) 24 (0, 0)) := hF.get 8 _ rfl (.inl (by decide))
    have hg2 := hg2 _ rfl
    subst hg2
    subst eG2
    obtain ⟨b7, e4, _, _, k4⟩ : ∃ G, s4 = .pointer (some ⟨G, 0, none⟩) ∧ (∀ k, none = some k → G = k) ∧ _ ≤ G ∧ WA.heap[G]? = some (.cells (if listed.getD 5 false = true then #[.string (numS yy), .string (denS yy)] else #[.string { data := #[] }, .string { data := #[] }]) 24 (0, 0)) := hF.get 4 _ rfl (.inr (hall 4 (by decide)))
    subst e4
    rw [if_pos (hall 5 (by decide))] at k4
    have H7 := Lib.hid k4
    clear k4
    rw [if_neg (hF.unst (by decide))] at hO0
    replace H4 := Lib.hid hO0
    clear hO0
    rw [if_neg (hF.unst (by decide))] at hO1
    replace H5 := Lib.hid hO1
    clear hO1
    rw [if_neg (hF.unst (by decide))] at hO2
    replace H6 := Lib.hid hO2
    clear hO2
    have HQ := Lib.hid hF.low
    clear hF hall hok hna hla
    simp only [putO, layT_some, layT_none, layT_nil, List.setIfInBounds_toArray, List.set_cons_zero, List.set_cons_succ]
    clear HA HC0 HC1
    replace HG := HQ
    clear HQ
    replace HE := Lib.hid (HE0.out.kept HG.out HP.out)
    obtain ⟨⟨x7_0, x7_1⟩, x7_f0, x7_f1⟩ := two_at H7.out
    go_wp2_with fail
    refine (TF.out _ HE.out).mono ?_
    clear x7_0 x7_1 x7_f0 x7_f1
    rintro e W6 ⟨rfl, hb⟩
    replace H4 := Lib.hid (keep_block H4.out hb)
    replace H5 := Lib.hid (keep_block H5.out hb)
    replace H6 := Lib.hid (keep_block H6.out hb)
    replace H7 := Lib.hid (keep_block H7.out hb)
    replace HE := Lib.hid (HE.out.below hb)
    replace HG := Lib.hid (kept_trans HG.out (kept_below hb))
    clear hb
    have L8_4 := Lib.hid (heap_lt H4.out)
    have L8_5 := Lib.hid (heap_lt H5.out)
    have L8_6 := Lib.hid (heap_lt H6.out)
    have L8_7 := Lib.hid (heap_lt H7.out)
    have G8 := Lib.hid (HG.out.size)
    have NE8 : Hid (W6.heap.size ≠ b) := Lib.hid (Nat.ne_of_gt (Nat.lt_of_lt_of_le HBW.out G8.out))
    have hb : Below W6.heap.size W6 (W6.alloc (.cells #[.string (numS yy), .string (denS yy)] 24)) := (Below.refl _ _).alloc (Nat.le_refl _) _
    replace H4 := Lib.hid (keep_block H4.out hb)
    replace H5 := Lib.hid (keep_block H5.out hb)
    replace H6 := Lib.hid (keep_block H6.out hb)
    replace H7 := Lib.hid (keep_block H7.out hb)
    replace HE := Lib.hid (HE.out.below hb)
    replace HG := Lib.hid (kept_trans HG.out (kept_below hb))
    have H8 := Lib.hid (heap_alloc_new W6 (.cells #[.string (numS yy), .string (denS yy)] 24))
    clear hb
    obtain ⟨⟨x8_0, x8_1⟩, x8_f0, x8_f1⟩ := two_at H8.out
    obtain ⟨⟨x7_0, x7_1⟩, x7_f0, x7_f1⟩ := two_at H7.out
    go_wp2_with fail
    have := L5_4.out
    have := L6_4.out
    have := L6_5.out
    have := L8_4.out
    have := L8_5.out
    have := L8_6.out
    have := HG.out.size
    have := G5.out
    have := G6.out
    have := G8.out
    have hok : okB 6 (Cutu2eqKs7 W W1 W5 W6 q TT aa yy zz zz dd rr) = true := by kernel_rfl
    have hna := noAny_of (ks := (Cutu2eqKs7 W W1 W5 W6 q TT aa yy zz zz dd rr)) (by kernel_rfl)
    have hla := lasts_of hna
    refine wp_region_facts (row := (some b)) (w := W) 6 (Cutu2eqKs7 W W1 W5 W6 q TT aa yy zz zz dd rr) [some 33, some 34, some 35, some 36, some 37, none] (by kernel_rfl) (by kernel_rfl) rfl [undef, undef, undef, undef, undef, undef, .pointer (some ⟨W.heap.size, 0, none⟩), .pointer (some ⟨W1.heap.size, 0, none⟩), .pointer (some ⟨W5.heap.size, 0, none⟩), .pointer (some ⟨W6.heap.size, 0, none⟩)] ?h00 (Fs.start_olds hla rfl HG.out ⟨⟨_, rfl, fun _ h => Option.some.inj h, by omega, H4.out⟩, fun _ => ⟨fun _ => far_of (by omega), fun _ => far_of (by omega), fun _ => far_of (by omega), trivial⟩, ⟨⟨_, rfl, fun _ h => Option.some.inj h, by omega, H5.out⟩, fun _ => ⟨fun _ => far_of (by omega), fun _ => far_of (by omega), trivial⟩, ⟨⟨_, rfl, fun _ h => Option.some.inj h, by omega, H6.out⟩, fun _ => ⟨fun _ => far_of (by omega), trivial⟩, ⟨⟨_, rfl, fun _ h => Option.some.inj h, by omega, H8.out⟩, fun _ => trivial, trivial⟩⟩⟩⟩) ?hs ?hd
    case h00 => simp only [putO, layT_some, layT_none, layT_nil, List.setIfInBounds_toArray, List.set_cons_zero, List.set_cons_succ]
    case hs =>
      rintro listed vs Wr hF i hi hun hpre
      obtain ⟨s0, s1, s2, s3, s4, s5, o0, o1, o2, o3, hvs⟩ := exl_of 10 vs (fun l => vs = l) hF.len rfl
      subst hvs
      obtain ⟨_, eG0, hg0, gG0, hO0⟩ : ∃ G, o0 = .pointer (some ⟨G, 0, none⟩) ∧ (∀ k, some (W.heap.size) = some k → G = k) ∧ W.heap.size ≤ G ∧ Wr.heap[G]? = some (.cells (if listed.getD 5 false = true then #[.string (numS rr), .string (denS rr)] else #[.string { data := #[] }, .string { data := #[] }]) 24 (0, 0)) := hF.get 6 _ rfl (.inl (by decide))
      have hg0 := hg0 _ rfl
      subst hg0
      subst eG0
      obtain ⟨_, eG1, hg1, gG1, hO1⟩ : ∃ G, o1 = .pointer (some ⟨G, 0, none⟩) ∧ (∀ k, some (W1.heap.size) = some k → G = k) ∧ W.heap.size ≤ G ∧ Wr.heap[G]? = some (.cells (if listed.getD 10 false = true then #[.string (numS q), .string (denS q)] else #[.string (numS q), .string (denS q)]) 24 (0, 0)) := hF.get 7 _ rfl (.inl (by decide))
      have hg1 := hg1 _ rfl
      subst hg1
      subst eG1
      obtain ⟨_, eG2, hg2, gG2, hO2⟩ : ∃ G, o2 = .pointer (some ⟨G, 0, none⟩) ∧ (∀ k, some (W5.heap.size) = some k → G = k) ∧ W.heap.size ≤ G ∧ Wr.heap[G]? = some (.cells (if listed.getD 10 false = true then #[.string (numS TT), .string (denS TT)] else #[.string (numS TT), .string (denS TT)]) 24 (0, 0)) := hF.get 8 _ rfl (.inl (by decide))
      have hg2 := hg2 _ rfl
      subst hg2
      subst eG2
      obtain ⟨_, eG3, hg3, gG3, hO3⟩ : ∃ G, o3 = .pointer (some ⟨G, 0, none⟩) ∧ (∀ k, some (W6.heap.size) = some k → G = k) ∧ W.heap.size ≤ G ∧ Wr.heap[G]? = some (.cells (if listed.getD 10 false = true then #[.string (numS yy), .string (denS yy)] else #[.string (numS yy), .string (denS yy)]) 24 (0, 0)) := hF.get 9 _ rfl (.inl (by decide))
      have hg3 := hg3 _ rfl
      subst hg3
      subst eG3
      have hge := Nat.zero_le i
      simp only [putO, layT_some, layT_none, layT_nil, List.setIfInBounds_toArray, List.set_cons_zero, List.set_cons_succ]
      rcases Nat.lt_or_ge i 3 with hlt | hgt
      · replace hi := hlt
        clear hlt
        rcases Nat.lt_or_ge i 1 with hlt | hgt
        · replace hi := hlt
          clear hlt
          have he : i = 0 := Nat.le_antisymm (Nat.le_of_lt_succ hi) hge
          subst he
          rw [if_neg (hF.unst (by decide))] at hO3
          have hcc := (two_at (hO3)).1
          have cH80 := hcc.1
          have cH81 := hcc.2
          clear hcc
          refine step_of ⟨some 33, _, _, _, _, _⟩ rfl (fun K' hK => ?_)
          go_simp
          refine hK.out _ _ ⟨_, hF.pure hok hla hpre rfl (Below.refl _ _), ?fr⟩
          case fr => simp only [putO, layT_some, layT_none, layT_nil, List.setIfInBounds_toArray, List.set_cons_zero, List.set_cons_succ]
        · replace hge : 1 ≤ i := hgt
          clear hgt
          rcases Nat.lt_or_ge i 2 with hlt | hgt
          · replace hi := hlt
            clear hlt
            have he : i = 1 := Nat.le_antisymm (Nat.le_of_lt_succ hi) hge
            subst he
            rw [if_neg (hF.unst (by decide))] at hO2
            have hcc := (two_at (hO2)).1
            have cH60 := hcc.1
            have cH61 := hcc.2
            clear hcc
            refine step_of ⟨some 34, _, _, _, _, _⟩ rfl (fun K' hK => ?_)
            go_simp
            refine hK.out _ _ ⟨_, hF.pure hok hla hpre rfl (Below.refl _ _), ?fr⟩
            case fr => simp only [putO, layT_some, layT_none, layT_nil, List.setIfInBounds_toArray, List.set_cons_zero, List.set_cons_succ]
          · replace hge : 2 ≤ i := hgt
            clear hgt
            have he : i = 2 := Nat.le_antisymm (Nat.le_of_lt_succ hi) hge
            subst he
            have p0 := hpre 0 (by kernel_rfl)
            have e0 : s0 = .agg #[.string (numS yy), .string (denS yy)] := hF.get 0 _ rfl (.inr p0)
            subst e0
            have p1 := hpre 1 (by kernel_rfl)
            have e1 : s1 = .agg #[.string (numS TT), .string (denS TT)] := hF.get 1 _ rfl (.inr p1)
            subst e1
            refine step_of ⟨some 35, _, _, _, _, _⟩ rfl (fun K' hK => ?_)
            go_simp
            go_at_call 89
            (with_reducible refine (TD.out _ (HE0.out.kept hF.low HP.out)).mono ?_)
            rintro e Wq ⟨rfl, hq⟩
            refine hK.out _ _ ⟨_, hF.pure hok hla hpre rfl hq, ?fr⟩
            case fr => simp only [putO, layT_some, layT_none, layT_nil, List.setIfInBounds_toArray, List.set_cons_zero, List.set_cons_succ]
      · replace hge : 3 ≤ i := hgt
        clear hgt
        rcases Nat.lt_or_ge i 4 with hlt | hgt
        · replace hi := hlt
          clear hlt
          have he : i = 3 := Nat.le_antisymm (Nat.le_of_lt_succ hi) hge
          subst he
          rw [if_neg (hF.unst (by decide))] at hO1
          have hcc := (two_at (hO1)).1
          have cH50 := hcc.1
          have cH51 := hcc.2
          clear hcc
          refine step_of ⟨some 36, _, _, _, _, _⟩ rfl (fun K' hK => ?_)
          go_simp
          refine hK.out _ _ ⟨_, hF.pure hok hla hpre rfl (Below.refl _ _), ?fr⟩
          case fr => simp only [putO, layT_some, layT_none, layT_nil, List.setIfInBounds_toArray, List.set_cons_zero, List.set_cons_succ]
        · replace hge : 4 ≤ i := hgt
          clear hgt
          rcases Nat.lt_or_ge i 5 with hlt | hgt
          · replace hi := hlt
            clear hlt
            have he : i = 4 := Nat.le_antisymm (Nat.le_of_lt_succ hi) hge
            subst he
            have p2 := hpre 2 (by kernel_rfl)
            have e2 : s2 = .agg #[.string (numS dd), .string (denS dd)] := hF.get 2 _ rfl (.inr p2)
            subst e2
            have p3 := hpre 3 (by kernel_rfl)
            have e3 : s3 = .agg #[.string (numS q), .string (denS q)] := hF.get 3 _ rfl (.inr p3)
            subst e3
            refine step_of ⟨some 37, _, _, _, _, _⟩ rfl (fun K' hK => ?_)
            go_simp
            go_at_call 128
            (with_reducible refine (TS.out _ (HE0.out.kept hF.low HP.out)).mono ?_)
            rintro e Wq ⟨rfl, hq⟩
            refine hK.out _ _ ⟨_, hF.pure hok hla hpre rfl hq, ?fr⟩
            case fr => simp only [putO, layT_some, layT_none, layT_nil, List.setIfInBounds_toArray, List.set_cons_zero, List.set_cons_succ]
          · replace hge : 5 ≤ i := hgt
            clear hgt
            have he : i = 5 := Nat.le_antisymm (Nat.le_of_lt_succ hi) hge
            subst he
            have p4 := hpre 4 (by kernel_rfl)
            have e4 : s4 = .agg #[.string (numS rr), .string (denS rr)] := hF.get 4 _ rfl (.inr p4)
            subst e4
            rw [if_neg (bit_off hun)] at hO0
            have HGB := Lib.hid hO0
            obtain ⟨⟨y0, y1⟩, g0, g1⟩ := two_at HGB.out
            refine step_of ⟨none, _, _, _, _, _⟩ rfl (fun K' hK => ?_)
            go_simp
            refine hK.out _ _ ⟨undef, hF.put hok hna hpre hun rfl undef rfl (.inl (by decide)) rfl (set2_at HGB.out (.string (numS rr)) (.string (denS rr))) (fun k hk => set2_other _ _ (.string (numS rr)) (.string (denS rr)) hk) (put2_below gG0 _ (.string (numS rr)) (.string (denS rr))), ?fr⟩
            case fr => simp only [putO, layT_some, layT_none, layT_nil, List.setIfInBounds_toArray, List.set_cons_zero, List.set_cons_succ]
    case hd =>
      rintro listed vs WC hF hall
      obtain ⟨s0, s1, s2, s3, s4, s5, o0, o1, o2, o3, hvs⟩ := exl_of 10 vs (fun l => vs = l) hF.len rfl
      subst hvs
      obtain ⟨_, eG0, hg0, gG0, hO0⟩ : ∃ G, o0 = .pointer (some ⟨G, 0, none⟩) ∧ (∀ k, some (W.heap.size) = some k → G = k) ∧ W.heap.size ≤ G ∧ WC.heap[G]? = some (.cells (if listed.getD 5 false = true then #[.string (numS rr), .string (denS rr)] else #[.string { data := #[] }, .string { data := #[] }]) 24 (0, 0)) := hF.get 6 _ rfl (.inl (by decide))
      have hg0 := hg0 _ rfl
      subst hg0
      subst eG0
      obtain ⟨_, eG1, hg1, gG1, hO1⟩ : ∃ G, o1 = .pointer (some ⟨G, 0, none⟩) ∧ (∀ k, some (W1.heap.size) = some k → G = k) ∧ W.heap.size ≤ G ∧ WC.heap[G]? = some (.cells (if listed.getD 10 false = true then #[.string (numS q), .string (denS q)] else #[.string (numS q), .string (denS q)]) 24 (0, 0)) := hF.get 7 _ rfl (.inl (by decide))
      have hg1 := hg1 _ rfl
      subst hg1
      subst eG1
      obtain ⟨_, eG2, hg2, gG2, hO2⟩ : ∃ G, o2 = .pointer (some ⟨G, 0, none⟩) ∧ (∀ k, some (W5.heap.size) = some k → G = k) ∧ W.heap.size ≤ G ∧ WC.heap[G]? = some (.cells (if listed.getD 10 false = true then #[.string (numS TT), .string (denS TT)] else #[.string (numS TT), .string (denS TT)]) 24 (0, 0)) := hF.get 8 _ rfl (.inl (by decide))
      have hg2 := hg2 _ rfl
      subst hg2
      subst eG2
      obtain ⟨_, eG3, hg3, gG3, hO3⟩ : ∃ G, o3 = .pointer (some ⟨G, 0, none⟩) ∧ (∀ k, some (W6.heap.size) = some k → G = k) ∧ W.heap.size ≤ G ∧ WC.heap[G]? = some (.cells (if listed.getD 10 false = true then #[.string (numS yy), .string (denS yy)] else #[.string (numS yy), .string (denS yy)]) 24 (0, 0)) := hF.get 9 _ rfl (.inl (by decide))
      have hg3 := hg3 _ rfl
      subst hg3
      subst eG3
      rw [if_pos (hall 5 (by decide))] at hO0
      replace H4 := Lib.hid hO0
      clear hO0
      rw [if_neg (hF.unst (by decide))] at hO1
      replace H5 := Lib.hid hO1
      clear hO1
      rw [if_neg (hF.unst (by decide))] at hO2
      replace H6 := Lib.hid hO2
      clear hO2
      rw [if_neg (hF.unst (by decide))] at hO3
      replace H8 := Lib.hid hO3
      clear hO3
      have HQ := Lib.hid hF.low
      clear hF hall hok hna hla
      simp only [putO, layT_some, layT_none, layT_nil, List.setIfInBounds_toArray, List.set_cons_zero, List.set_cons_succ]
      replace HG := HQ
      clear HQ
      replace HE := Lib.hid (HE0.out.kept HG.out HP.out)
      obtain ⟨⟨x4_0, x4_1⟩, x4_f0, x4_f1⟩ := two_at H4.out
      go_wp2
      refine bodyPost_ret (v := .agg #[.string (numS rr), .string (denS rr)]) (by simp [results, Tryz.results74, go_sem, x4_0, x4_1]) rfl ⟨rfl, HG.out⟩

set_option linter.unusedVariables false in
/-- what the operations of region 3 yield -/
def Cutu2neKs3 (W W1 W5 : World) (q TT aa yy : Rat) : List RK :=
  [.pure (.agg #[.string (numS q), .string (denS q)]),
   .pure (.agg #[.string (numS aa), .string (denS aa)]),
   .pure (.agg #[.string (numS TT), .string (denS TT)]),
   .pure (.agg #[.string (numS yy), .string (denS yy)]),
   .box none #[.string { data := #[] }, .string { data := #[] }] #[.string (numS yy), .string (denS yy)] 24 5,
   .put 4,
   .box (some (W.heap.size)) #[.string { data := #[] }, .string { data := #[] }] #[.string { data := #[] }, .string { data := #[] }] 24 9,
   .box (some (W1.heap.size)) #[.string (numS q), .string (denS q)] #[.string (numS q), .string (denS q)] 24 9,
   .box (some (W5.heap.size)) #[.string (numS TT), .string (denS TT)] #[.string (numS TT), .string (denS TT)] 24 9]
set_option linter.unusedVariables false in
/-- what the operations of region 6 yield -/
def Cutu2neKs6 (W W1 W5 W6 : World) (q TT aa yy zz z1 dd rr : Rat) : List RK :=
  [.pure (.agg #[.string (numS zz), .string (denS zz)]),
   .pure (.agg #[.string (numS 1), .string (denS 1)]),
   .pure (.agg #[.string (numS z1), .string (denS z1)]),
   .put 7,
   .box (some (W.heap.size)) #[.string { data := #[] }, .string { data := #[] }] #[.string { data := #[] }, .string { data := #[] }] 24 8,
   .box (some (W1.heap.size)) #[.string (numS q), .string (denS q)] #[.string (numS q), .string (denS q)] 24 8,
   .box (some (W5.heap.size)) #[.string (numS TT), .string (denS TT)] #[.string (numS TT), .string (denS TT)] 24 8,
   .box (some (W6.heap.size)) #[.string (numS zz), .string (denS zz)] #[.string (numS z1), .string (denS z1)] 24 3]
set_option linter.unusedVariables false in
/-- what the operations of region 7 yield -/
def Cutu2neKs7 (W W1 W5 W6 : World) (q TT aa yy zz z1 dd rr : Rat) : List RK :=
  [.pure (.agg #[.string (numS z1), .string (denS z1)]),
   .pure (.agg #[.string (numS TT), .string (denS TT)]),
   .pure (.agg #[.string (numS dd), .string (denS dd)]),
   .pure (.agg #[.string (numS q), .string (denS q)]),
   .pure (.agg #[.string (numS rr), .string (denS rr)]),
   .put 6,
   .box (some (W.heap.size)) #[.string { data := #[] }, .string { data := #[] }] #[.string (numS rr), .string (denS rr)] 24 5,
   .box (some (W1.heap.size)) #[.string (numS q), .string (denS q)] #[.string (numS q), .string (denS q)] 24 10,
   .box (some (W5.heap.size)) #[.string (numS TT), .string (denS TT)] #[.string (numS TT), .string (denS TT)] 24 10,
   .box (some (W6.heap.size)) #[.string (numS z1), .string (denS z1)] #[.string (numS z1), .string (denS z1)] 24 10]
set_option linter.unusedSimpArgs false in
set_option linter.unusedVariables false in
set_option maxHeartbeats 4000000 in
set_option maxRecDepth 100000 in
theorem fn_cutu2ne (q k : Rat) (b g C : Nat) (W : World) (hq0 : fits q = true) (hq1 : fits k = true) (hk0 : -100 ≤ k.floor) (hk1 : k.floor ≤ 100) (hT : fits (tenR k.floor) = true) (hy : fits (absR q * tenR k.floor) = true) (hz : fits (((absR q * tenR k.floor).floor : Int) : Rat) = true) (hzy : ¬ (((absR q * tenR k.floor).floor : Int) : Rat) = absR q * tenR k.floor) (hz1 : fits ((((absR q * tenR k.floor).floor : Int) : Rat) + 1) = true) (hd : fits (((((absR q * tenR k.floor).floor : Int) : Rat) + 1) / tenR k.floor) = true) (ha : ArgsAt W b (some ⟨g, 0, none⟩) 2 C 0) (hne : g ≠ b) (hc0 : NumCells W g (0 + 0 * 9) q) (hc1 : NumCells W g (0 + 1 * 9) k) (hE : Env W) (hP : Past b) :
    Calls Tryz.prog 74 #[.pointer (some ⟨b, 0, none⟩), .bool true] W fun e w' => e = .returned (fracV (cutR true q (k.floor))) ∧ W.grownBy w' (some b) := by
  have TN0 := Lib.hid (fun W' ga gc ge => argNum_any b g 0 2 C 0 q W' ga (by decide) (by decide) hne gc hq0 ge hP)
  rw [fracV_is q] at TN0
  have TP := Lib.hid (fun W' ga gc ge => places_some b g 0 2 C 1 k W' ga (by decide) (by decide) hne gc hq1 hk0 hk1 ge hP)
  have hres : cutR true q (k.floor) = signedR (((((absR q * tenR k.floor).floor : Int) : Rat) + 1) / tenR k.floor) q := by
    unfold cutR
    rw [if_pos ⟨rfl, hzy⟩]
  rw [hres]
  clear hres
  have TO := Lib.hid (fun W g => of_any 10 W (by decide) (by decide) g)
  have TPw := Lib.hid (fun W g => powerQ_any ((10 : Int) : Rat) (k.floor) W (by exact fits_int 10 (by decide)) (fun _ => by decide) (by omega) (by omega) (limbs34 (by rw [up_int]; exact Nat.lt_of_le_of_lt (Nat.pow_le_pow_right (by decide) (show (k.floor).natAbs ≤ 100 by omega)) (by decide +kernel))) (limbs34 (by rw [den_int, Nat.one_pow]; decide +kernel)) g)
  rw [show powR ((10 : Int) : Rat) (k.floor) = tenR (k.floor) from tenR_pow _, wroteV_ok hT] at TPw
  have TMu := Lib.hid (fun W => must_ok (tenR (k.floor)) W)
  have TA := Lib.hid (fun W g => fm_abs q W hq0 g)
  have TM := Lib.hid (fun W g => fm_mul (absR q) (tenR (k.floor)) W (by rw [fits_absR]; exact hq0) hT hy g)
  have TF := Lib.hid (fun W g => fm_floor (absR q * tenR (k.floor)) W hy hz g)
  have TO1 := Lib.hid (fun W g => of_any 1 W (by decide) (by decide) g)
  rw [show ((1 : Int) : Rat) = 1 from rfl] at TO1
  have TAd := Lib.hid (fun W g => fm_add (((absR q * tenR k.floor).floor : Int) : Rat) 1 W hz (fits_int 1 (by decide)) hz1 g)
  have TD := Lib.hid (fun W g => fm_div ((((absR q * tenR k.floor).floor : Int) : Rat) + 1) (tenR (k.floor)) W hz1 hT (rat_ne (tenR_pos _)) hd g)
  have TS := Lib.hid (fun W g => fm_signed (((((absR q * tenR k.floor).floor : Int) : Rat) + 1) / tenR (k.floor)) q W hd hq0 g)
  obtain ⟨kk, hkk⟩ : ∃ z, k.floor = z := ⟨_, rfl⟩
  rw [hkk] at TP TPw TMu TM TF TAd TD TS ⊢
  obtain ⟨TT, hTT⟩ : ∃ z, tenR kk = z := ⟨_, rfl⟩
  rw [hTT] at TPw TMu TM TF TD TS TAd ⊢
  obtain ⟨te, hte⟩ : ∃ z, ((10 : Int) : Rat) = z := ⟨_, rfl⟩
  rw [hte] at TO TPw
  obtain ⟨aa, haa⟩ : ∃ z, absR q = z := ⟨_, rfl⟩
  rw [haa] at TA TM TF TD TS TAd ⊢
  obtain ⟨yy, hyy⟩ : ∃ z, aa * TT = z := ⟨_, rfl⟩
  rw [hyy] at TM TF TD TS TAd ⊢
  obtain ⟨zz, hzz⟩ : ∃ z, ((yy.floor : Int) : Rat) = z := ⟨_, rfl⟩
  rw [hzz] at TF TD TS TAd ⊢
  obtain ⟨z1, hz1⟩ : ∃ z, zz + 1 = z := ⟨_, rfl⟩
  rw [hz1] at TAd TD TS ⊢
  obtain ⟨dd, hdd⟩ : ∃ z, z1 / TT = z := ⟨_, rfl⟩
  rw [hdd] at TD TS ⊢
  obtain ⟨rr, hrr⟩ : ∃ z, signedR dd q = z := ⟨_, rfl⟩
  rw [hrr] at TS ⊢
  rw [fracV_is te] at TO TPw
  rw [fracV_is TT] at TPw TMu TM TD
  rw [fracV_is q] at TA TS
  rw [fracV_is aa] at TA TM
  rw [fracV_is yy] at TM TF
  rw [fracV_is zz] at TF TAd
  rw [fracV_is dd] at TD TS
  rw [fracV_is rr] at TS ⊢
  rw [fracV_is 1] at TO1 TAd
  rw [fracV_is z1] at TAd TD
  have hzy2 : ¬ ((yy.floor : Int) : Rat) = yy := by rw [← hyy, ← haa, ← hTT, ← hkk]; exact hzy
  have hnn := num_floor_ne yy (by rw [← hyy, ← haa, ← hTT]; exact scaled_nonneg _ _) hzy2
  rw [hzz] at hnn
  clear hzy2
  have HP := Lib.hid hP
  have HE0 := Lib.hid hE
  have NG := Lib.hid hne
  have HBW := Lib.hid (heap_lt ha)
  have hb : Below W.heap.size W (W.alloc (.cells #[.string { data := #[] }, .string { data := #[] }] 24)) := (Below.refl _ _).alloc (Nat.le_refl _) _
  have HA := Lib.hid (show ArgsAt (W.alloc (.cells #[.string { data := #[] }, .string { data := #[] }] 24)) b (some ⟨g, 0, none⟩) 2 C 0 from keep_block ha hb)
  have HC0 := Lib.hid (NumCells.below hc0 hb)
  have HC1 := Lib.hid (NumCells.below hc1 hb)
  have HE := Lib.hid (hE.below hb)
  have HG := Lib.hid (kept_below (b := b) hb)
  have H4 := Lib.hid (heap_alloc_new W (.cells #[.string { data := #[] }, .string { data := #[] }] 24))
  have NE4 := Lib.hid (show W.heap.size ≠ b from Nat.ne_of_gt HBW.out)
  clear hb
  clear ha hE hP hne hc0 hc1 hkk hTT hte haa hyy hzz hdd hrr hq0 hT hy hz hd hq1 hk0 hk1 hzy hz1
  go_enter Tryz.func74, Tryz.ntmps74
  go_wp2_with fail
  refine (TN0.out _ HA.out HC0.out HE.out).mono ?_
  rintro e W1 ⟨rfl, ha, hg⟩
  replace HA := Lib.hid ha
  replace H4 := Lib.hid (kept_block H4.out hg NE4.out)
  replace HC0 := Lib.hid (HC0.out.kept hg NG.out)
  replace HC1 := Lib.hid (HC1.out.kept hg NG.out)
  replace HE := Lib.hid (HE.out.kept hg HP.out)
  replace HG := Lib.hid (kept_trans HG.out hg)
  clear ha hg
  have L5_4 := Lib.hid (heap_lt H4.out)
  have G5 := Lib.hid (HG.out.size)
  have NE5 : Hid (W1.heap.size ≠ b) := Lib.hid (Nat.ne_of_gt (Nat.lt_of_lt_of_le HBW.out G5.out))
  have hb : Below W1.heap.size W1 (W1.alloc (.cells #[.string (numS q), .string (denS q)] 24)) := (Below.refl _ _).alloc (Nat.le_refl _) _
  replace H4 := Lib.hid (keep_block H4.out hb)
  replace HC0 := Lib.hid (NumCells.below HC0.out hb)
  replace HC1 := Lib.hid (NumCells.below HC1.out hb)
  replace HA := Lib.hid (keep_block HA.out hb)
  replace HE := Lib.hid (HE.out.below hb)
  replace HG := Lib.hid (kept_trans HG.out (kept_below hb))
  have H5 := Lib.hid (heap_alloc_new W1 (.cells #[.string (numS q), .string (denS q)] 24))
  clear hb
  go_wp2_with fail
  refine (TO.out _ (Env.tab HE.out)).mono ?_
  rintro e W2 ⟨rfl, hb⟩
  replace H4 := Lib.hid (keep_block H4.out hb)
  replace H5 := Lib.hid (keep_block H5.out hb)
  replace HC0 := Lib.hid (NumCells.below HC0.out hb)
  replace HC1 := Lib.hid (NumCells.below HC1.out hb)
  replace HA := Lib.hid (keep_block HA.out hb)
  replace HE := Lib.hid (HE.out.below hb)
  replace HG := Lib.hid (kept_trans HG.out (kept_below hb))
  clear hb
  go_wp2_with fail
  refine (TP.out _ HA.out HC1.out HE.out).mono ?_
  rintro e W3 ⟨rfl, ha, hg⟩
  replace HA := Lib.hid ha
  replace H4 := Lib.hid (kept_block H4.out hg NE4.out)
  replace H5 := Lib.hid (kept_block H5.out hg NE5.out)
  replace HC0 := Lib.hid (HC0.out.kept hg NG.out)
  replace HC1 := Lib.hid (HC1.out.kept hg NG.out)
  replace HE := Lib.hid (HE.out.kept hg HP.out)
  replace HG := Lib.hid (kept_trans HG.out hg)
  clear ha hg
  go_wp2_with fail
  refine (TPw.out _ (Env.tab HE.out)).mono ?_
  rintro e W4 ⟨rfl, hb⟩
  replace H4 := Lib.hid (keep_block H4.out hb)
  replace H5 := Lib.hid (keep_block H5.out hb)
  replace HC0 := Lib.hid (NumCells.below HC0.out hb)
  replace HC1 := Lib.hid (NumCells.below HC1.out hb)
  replace HA := Lib.hid (keep_block HA.out hb)
  replace HE := Lib.hid (HE.out.below hb)
  replace HG := Lib.hid (kept_trans HG.out (kept_below hb))
  clear hb
  go_wp2_with fail
  refine (TMu.out _).mono ?_
  rintro e W5 ⟨rfl, hb⟩
  replace H4 := Lib.hid (keep_block H4.out hb)
  replace H5 := Lib.hid (keep_block H5.out hb)
  replace HC0 := Lib.hid (NumCells.below HC0.out hb)
  replace HC1 := Lib.hid (NumCells.below HC1.out hb)
  replace HA := Lib.hid (keep_block HA.out hb)
  replace HE := Lib.hid (HE.out.below hb)
  replace HG := Lib.hid (kept_trans HG.out (kept_below hb))
  clear hb
  have L6_4 := Lib.hid (heap_lt H4.out)
  have L6_5 := Lib.hid (heap_lt H5.out)
  have G6 := Lib.hid (HG.out.size)
  have NE6 : Hid (W5.heap.size ≠ b) := Lib.hid (Nat.ne_of_gt (Nat.lt_of_lt_of_le HBW.out G6.out))
  have hb : Below W5.heap.size W5 (W5.alloc (.cells #[.string (numS TT), .string (denS TT)] 24)) := (Below.refl _ _).alloc (Nat.le_refl _) _
  replace H4 := Lib.hid (keep_block H4.out hb)
  replace H5 := Lib.hid (keep_block H5.out hb)
  replace HC0 := Lib.hid (NumCells.below HC0.out hb)
  replace HC1 := Lib.hid (NumCells.below HC1.out hb)
  replace HA := Lib.hid (keep_block HA.out hb)
  replace HE := Lib.hid (HE.out.below hb)
  replace HG := Lib.hid (kept_trans HG.out (kept_below hb))
  have H6 := Lib.hid (heap_alloc_new W5 (.cells #[.string (numS TT), .string (denS TT)] 24))
  clear hb
  go_wp2_with fail
  have := L5_4.out
  have := L6_4.out
  have := L6_5.out
  have := HG.out.size
  have := G5.out
  have := G6.out
  have hok : okB 6 (Cutu2neKs3 W W1 W5 q TT aa yy) = true := by kernel_rfl
  have hna := noAny_of (ks := (Cutu2neKs3 W W1 W5 q TT aa yy)) (by kernel_rfl)
  have hla := lasts_of hna
  refine wp_region_facts (row := (some b)) (w := W) 6 (Cutu2neKs3 W W1 W5 q TT aa yy) [some 18, some 19, some 20, some 21, some 7, none] (by kernel_rfl) (by kernel_rfl) rfl [undef, undef, undef, undef, undef, undef, .pointer (some ⟨W.heap.size, 0, none⟩), .pointer (some ⟨W1.heap.size, 0, none⟩), .pointer (some ⟨W5.heap.size, 0, none⟩)] ?h00 (Fs.start_olds hla rfl HG.out ⟨⟨_, rfl, fun _ h => Option.some.inj h, by omega, H4.out⟩, fun _ => ⟨fun _ => far_of (by omega), fun _ => far_of (by omega), trivial⟩, ⟨⟨_, rfl, fun _ h => Option.some.inj h, by omega, H5.out⟩, fun _ => ⟨fun _ => far_of (by omega), trivial⟩, ⟨⟨_, rfl, fun _ h => Option.some.inj h, by omega, H6.out⟩, fun _ => trivial, trivial⟩⟩⟩) ?hs ?hd
  case h00 => simp only [putO, layT_some, layT_none, layT_nil, List.setIfInBounds_toArray, List.set_cons_zero, List.set_cons_succ]
  case hs =>
    rintro listed vs Wr hF i hi hun hpre
    obtain ⟨s0, s1, s2, s3, s4, s5, o0, o1, o2, hvs⟩ := exl_of 9 vs (fun l => vs = l) hF.len rfl
    subst hvs
    obtain ⟨_, eG0, hg0, gG0, hO0⟩ : ∃ G, o0 = .pointer (some ⟨G, 0, none⟩) ∧ (∀ k, some (W.heap.size) = some k → G = k) ∧ W.heap.size ≤ G ∧ Wr.heap[G]? = some (.cells (if listed.getD 9 false = true then #[.string { data := #[] }, .string { data := #[] }] else #[.string { data := #[] }, .string { data := #[] }]) 24 (0, 0)) := hF.get 6 _ rfl (.inl (by decide))
    have hg0 := hg0 _ rfl
    subst hg0
    subst eG0
    obtain ⟨_, eG1, hg1, gG1, hO1⟩ : ∃ G, o1 = .pointer (some ⟨G, 0, none⟩) ∧ (∀ k, some (W1.heap.size) = some k → G = k) ∧ W.heap.size ≤ G ∧ Wr.heap[G]? = some (.cells (if listed.getD 9 false = true then #[.string (numS q), .string (denS q)] else #[.string (numS q), .string (denS q)]) 24 (0, 0)) := hF.get 7 _ rfl (.inl (by decide))
    have hg1 := hg1 _ rfl
    subst hg1
    subst eG1
    obtain ⟨_, eG2, hg2, gG2, hO2⟩ : ∃ G, o2 = .pointer (some ⟨G, 0, none⟩) ∧ (∀ k, some (W5.heap.size) = some k → G = k) ∧ W.heap.size ≤ G ∧ Wr.heap[G]? = some (.cells (if listed.getD 9 false = true then #[.string (numS TT), .string (denS TT)] else #[.string (numS TT), .string (denS TT)]) 24 (0, 0)) := hF.get 8 _ rfl (.inl (by decide))
    have hg2 := hg2 _ rfl
    subst hg2
    subst eG2
    have hge := Nat.zero_le i
    simp only [putO, layT_some, layT_none, layT_nil, List.setIfInBounds_toArray, List.set_cons_zero, List.set_cons_succ]
    rcases Nat.lt_or_ge i 3 with hlt | hgt
    · replace hi := hlt
      clear hlt
      rcases Nat.lt_or_ge i 1 with hlt | hgt
      · replace hi := hlt
        clear hlt
        have he : i = 0 := Nat.le_antisymm (Nat.le_of_lt_succ hi) hge
        subst he
        rw [if_neg (hF.unst (by decide))] at hO1
        have hcc := (two_at (hO1)).1
        have cH50 := hcc.1
        have cH51 := hcc.2
        clear hcc
        refine step_of ⟨some 18, _, _, _, _, _⟩ rfl (fun K' hK => ?_)
        go_simp
        refine hK.out _ _ ⟨_, hF.pure hok hla hpre rfl (Below.refl _ _), ?fr⟩
        case fr => simp only [putO, layT_some, layT_none, layT_nil, List.setIfInBounds_toArray, List.set_cons_zero, List.set_cons_succ]
      · replace hge : 1 ≤ i := hgt
        clear hgt
        rcases Nat.lt_or_ge i 2 with hlt | hgt
        · replace hi := hlt
          clear hlt
          have he : i = 1 := Nat.le_antisymm (Nat.le_of_lt_succ hi) hge
          subst he
          have p0 := hpre 0 (by kernel_rfl)
          have e0 : s0 = .agg #[.string (numS q), .string (denS q)] := hF.get 0 _ rfl (.inr p0)
          subst e0
          refine step_of ⟨some 19, _, _, _, _, _⟩ rfl (fun K' hK => ?_)
          go_simp
          go_at_call 66
          (with_reducible refine (TA.out _ (HE0.out.kept hF.low HP.out)).mono ?_)
          rintro e Wq ⟨rfl, hq⟩
          refine hK.out _ _ ⟨_, hF.pure hok hla hpre rfl hq, ?fr⟩
          case fr => simp only [putO, layT_some, layT_none, layT_nil, List.setIfInBounds_toArray, List.set_cons_zero, List.set_cons_succ]
        · replace hge : 2 ≤ i := hgt
          clear hgt
          have he : i = 2 := Nat.le_antisymm (Nat.le_of_lt_succ hi) hge
          subst he
          rw [if_neg (hF.unst (by decide))] at hO2
          have hcc := (two_at (hO2)).1
          have cH60 := hcc.1
          have cH61 := hcc.2
          clear hcc
          refine step_of ⟨some 20, _, _, _, _, _⟩ rfl (fun K' hK => ?_)
          go_simp
          refine hK.out _ _ ⟨_, hF.pure hok hla hpre rfl (Below.refl _ _), ?fr⟩
          case fr => simp only [putO, layT_some, layT_none, layT_nil, List.setIfInBounds_toArray, List.set_cons_zero, List.set_cons_succ]
    · replace hge : 3 ≤ i := hgt
      clear hgt
      rcases Nat.lt_or_ge i 4 with hlt | hgt
      · replace hi := hlt
        clear hlt
        have he : i = 3 := Nat.le_antisymm (Nat.le_of_lt_succ hi) hge
        subst he
        have p1 := hpre 1 (by kernel_rfl)
        have e1 : s1 = .agg #[.string (numS aa), .string (denS aa)] := hF.get 1 _ rfl (.inr p1)
        subst e1
        have p2 := hpre 2 (by kernel_rfl)
        have e2 : s2 = .agg #[.string (numS TT), .string (denS TT)] := hF.get 2 _ rfl (.inr p2)
        subst e2
        refine step_of ⟨some 21, _, _, _, _, _⟩ rfl (fun K' hK => ?_)
        go_simp
        go_at_call 126
        (with_reducible refine (TM.out _ (HE0.out.kept hF.low HP.out)).mono ?_)
        rintro e Wq ⟨rfl, hq⟩
        refine hK.out _ _ ⟨_, hF.pure hok hla hpre rfl hq, ?fr⟩
        case fr => simp only [putO, layT_some, layT_none, layT_nil, List.setIfInBounds_toArray, List.set_cons_zero, List.set_cons_succ]
      · replace hge : 4 ≤ i := hgt
        clear hgt
        rcases Nat.lt_or_ge i 5 with hlt | hgt
        · replace hi := hlt
          clear hlt
          have he : i = 4 := Nat.le_antisymm (Nat.le_of_lt_succ hi) hge
          subst he
          refine step_of ⟨some 7, _, _, _, _, _⟩ rfl (fun K' hK => ?_)
          go_simp
          refine hK.out _ _ ⟨_, hF.box hok hla hpre hun rfl, ?fr⟩
          case fr => simp only [putO, layT_some, layT_none, layT_nil, List.setIfInBounds_toArray, List.set_cons_zero, List.set_cons_succ]
        · replace hge : 5 ≤ i := hgt
          clear hgt
          have he : i = 5 := Nat.le_antisymm (Nat.le_of_lt_succ hi) hge
          subst he
          have p4 := hpre 4 (by kernel_rfl)
          obtain ⟨G, eG, _, hGl, hGB⟩ : ∃ G, s4 = .pointer (some ⟨G, 0, none⟩) ∧ (∀ k, none = some k → G = k) ∧ W.heap.size ≤ G ∧ Wr.heap[G]? = some (.cells (if listed.getD 5 false = true then #[.string (numS yy), .string (denS yy)] else #[.string { data := #[] }, .string { data := #[] }]) 24 (0, 0)) := hF.get 4 _ rfl (.inr p4)
          subst eG
          rw [if_neg (bit_off hun)] at hGB
          have HGB := Lib.hid hGB
          clear hGB
          have p3 := hpre 3 (by kernel_rfl)
          have e3 : s3 = .agg #[.string (numS yy), .string (denS yy)] := hF.get 3 _ rfl (.inr p3)
          subst e3
          obtain ⟨⟨y0, y1⟩, g0, g1⟩ := two_at HGB.out
          refine step_of ⟨none, _, _, _, _, _⟩ rfl (fun K' hK => ?_)
          go_simp
          refine hK.out _ _ ⟨undef, hF.put hok hna hpre hun rfl undef rfl (.inr p4) rfl (set2_at HGB.out (.string (numS yy)) (.string (denS yy))) (fun k hk => set2_other _ _ (.string (numS yy)) (.string (denS yy)) hk) (put2_below hGl _ (.string (numS yy)) (.string (denS yy))), ?fr⟩
          case fr => simp only [putO, layT_some, layT_none, layT_nil, List.setIfInBounds_toArray, List.set_cons_zero, List.set_cons_succ]
  case hd =>
    rintro listed vs WA hF hall
    obtain ⟨s0, s1, s2, s3, s4, s5, o0, o1, o2, hvs⟩ := exl_of 9 vs (fun l => vs = l) hF.len rfl
    subst hvs
    obtain ⟨_, eG0, hg0, gG0, hO0⟩ : ∃ G, o0 = .pointer (some ⟨G, 0, none⟩) ∧ (∀ k, some (W.heap.size) = some k → G = k) ∧ W.heap.size ≤ G ∧ WA.heap[G]? = some (.cells (if listed.getD 9 false = true then #[.string { data := #[] }, .string { data := #[] }] else #[.string { data := #[] }, .string { data := #[] }]) 24 (0, 0)) := hF.get 6 _ rfl (.inl (by decide))
    have hg0 := hg0 _ rfl
    subst hg0
    subst eG0
    obtain ⟨_, eG1, hg1, gG1, hO1⟩ : ∃ G, o1 = .pointer (some ⟨G, 0, none⟩) ∧ (∀ k, some (W1.heap.size) = some k → G = k) ∧ W.heap.size ≤ G ∧ WA.heap[G]? = some (.cells (if listed.getD 9 false = true then #[.string (numS q), .string (denS q)] else #[.string (numS q), .string (denS q)]) 24 (0, 0)) := hF.get 7 _ rfl (.inl (by decide))
    have hg1 := hg1 _ rfl
    subst hg1
    subst eG1
    obtain ⟨_, eG2, hg2, gG2, hO2⟩ : ∃ G, o2 = .pointer (some ⟨G, 0, none⟩) ∧ (∀ k, some (W5.heap.size) = some k → G = k) ∧ W.heap.size ≤ G ∧ WA.heap[G]? = some (.cells (if listed.getD 9 false = true then #[.string (numS TT), .string (denS TT)] else #[.string (numS TT), .string (denS TT)]) 24 (0, 0)) := hF.get 8 _ rfl (.inl (by decide))
    have hg2 := hg2 _ rfl
    subst hg2
    subst eG2
    obtain ⟨b7, e4, _, _, k4⟩ : ∃ G, s4 = .pointer (some ⟨G, 0, none⟩) ∧ (∀ k, none = some k → G = k) ∧ _ ≤ G ∧ WA.heap[G]? = some (.cells (if listed.getD 5 false = true then #[.string (numS yy), .string (denS yy)] else #[.string { data := #[] }, .string { data := #[] }]) 24 (0, 0)) := hF.get 4 _ rfl (.inr (hall 4 (by decide)))
    subst e4
    rw [if_pos (hall 5 (by decide))] at k4
    have H7 := Lib.hid k4
    clear k4
    rw [if_neg (hF.unst (by decide))] at hO0
    replace H4 := Lib.hid hO0
    clear hO0
    rw [if_neg (hF.unst (by decide))] at hO1
    replace H5 := Lib.hid hO1
    clear hO1
    rw [if_neg (hF.unst (by decide))] at hO2
    replace H6 := Lib.hid hO2
    clear hO2
    have HQ := Lib.hid hF.low
    clear hF hall hok hna hla
    simp only [putO, layT_some, layT_none, layT_nil, List.setIfInBounds_toArray, List.set_cons_zero, List.set_cons_succ]
    clear HA HC0 HC1
    replace HG := HQ
    clear HQ
    replace HE := Lib.hid (HE0.out.kept HG.out HP.out)
    obtain ⟨⟨x7_0, x7_1⟩, x7_f0, x7_f1⟩ := two_at H7.out
    go_wp2_with fail
    refine (TF.out _ HE.out).mono ?_
    clear x7_0 x7_1 x7_f0 x7_f1
    rintro e W6 ⟨rfl, hb⟩
    replace H4 := Lib.hid (keep_block H4.out hb)
    replace H5 := Lib.hid (keep_block H5.out hb)
    replace H6 := Lib.hid (keep_block H6.out hb)
    replace H7 := Lib.hid (keep_block H7.out hb)
    replace HE := Lib.hid (HE.out.below hb)
    replace HG := Lib.hid (kept_trans HG.out (kept_below hb))
    clear hb
    have L8_4 := Lib.hid (heap_lt H4.out)
    have L8_5 := Lib.hid (heap_lt H5.out)
    have L8_6 := Lib.hid (heap_lt H6.out)
    have L8_7 := Lib.hid (heap_lt H7.out)
    have G8 := Lib.hid (HG.out.size)
    have NE8 : Hid (W6.heap.size ≠ b) := Lib.hid (Nat.ne_of_gt (Nat.lt_of_lt_of_le HBW.out G8.out))
    have hb : Below W6.heap.size W6 (W6.alloc (.cells #[.string (numS zz), .string (denS zz)] 24)) := (Below.refl _ _).alloc (Nat.le_refl _) _
    replace H4 := Lib.hid (keep_block H4.out hb)
    replace H5 := Lib.hid (keep_block H5.out hb)
    replace H6 := Lib.hid (keep_block H6.out hb)
    replace H7 := Lib.hid (keep_block H7.out hb)
    replace HE := Lib.hid (HE.out.below hb)
    replace HG := Lib.hid (kept_trans HG.out (kept_below hb))
    have H8 := Lib.hid (heap_alloc_new W6 (.cells #[.string (numS zz), .string (denS zz)] 24))
    clear hb
    obtain ⟨⟨x8_0, x8_1⟩, x8_f0, x8_f1⟩ := two_at H8.out
    obtain ⟨⟨x7_0, x7_1⟩, x7_f0, x7_f1⟩ := two_at H7.out
    go_wp2_with fail
    have := L5_4.out
    have := L6_4.out
    have := L6_5.out
    have := L8_4.out
    have := L8_5.out
    have := L8_6.out
    have := HG.out.size
    have := G5.out
    have := G6.out
    have := G8.out
    have hok : okB 4 (Cutu2neKs6 W W1 W5 W6 q TT aa yy zz z1 dd rr) = true := by kernel_rfl
    have hna := noAny_of (ks := (Cutu2neKs6 W W1 W5 W6 q TT aa yy zz z1 dd rr)) (by kernel_rfl)
    have hla := lasts_of hna
    refine wp_region_facts (row := (some b)) (w := W) 4 (Cutu2neKs6 W W1 W5 W6 q TT aa yy zz z1 dd rr) [some 30, some 31, some 32, none] (by kernel_rfl) (by kernel_rfl) rfl [undef, undef, undef, undef, .pointer (some ⟨W.heap.size, 0, none⟩), .pointer (some ⟨W1.heap.size, 0, none⟩), .pointer (some ⟨W5.heap.size, 0, none⟩), .pointer (some ⟨W6.heap.size, 0, none⟩)] ?h00 (Fs.start_olds hla rfl HG.out ⟨⟨_, rfl, fun _ h => Option.some.inj h, by omega, H4.out⟩, fun _ => ⟨fun _ => far_of (by omega), fun _ => far_of (by omega), fun _ => far_of (by omega), trivial⟩, ⟨⟨_, rfl, fun _ h => Option.some.inj h, by omega, H5.out⟩, fun _ => ⟨fun _ => far_of (by omega), fun _ => far_of (by omega), trivial⟩, ⟨⟨_, rfl, fun _ h => Option.some.inj h, by omega, H6.out⟩, fun _ => ⟨fun _ => far_of (by omega), trivial⟩, ⟨⟨_, rfl, fun _ h => Option.some.inj h, by omega, H8.out⟩, fun _ => trivial, trivial⟩⟩⟩⟩) ?hs ?hd
    case h00 => simp only [putO, layT_some, layT_none, layT_nil, List.setIfInBounds_toArray, List.set_cons_zero, List.set_cons_succ]
    case hs =>
      rintro listed vs Wr hF i hi hun hpre
      obtain ⟨s0, s1, s2, s3, o0, o1, o2, o3, hvs⟩ := exl_of 8 vs (fun l => vs = l) hF.len rfl
      subst hvs
      obtain ⟨_, eG0, hg0, gG0, hO0⟩ : ∃ G, o0 = .pointer (some ⟨G, 0, none⟩) ∧ (∀ k, some (W.heap.size) = some k → G = k) ∧ W.heap.size ≤ G ∧ Wr.heap[G]? = some (.cells (if listed.getD 8 false = true then #[.string { data := #[] }, .string { data := #[] }] else #[.string { data := #[] }, .string { data := #[] }]) 24 (0, 0)) := hF.get 4 _ rfl (.inl (by decide))
      have hg0 := hg0 _ rfl
      subst hg0
      subst eG0
      obtain ⟨_, eG1, hg1, gG1, hO1⟩ : ∃ G, o1 = .pointer (some ⟨G, 0, none⟩) ∧ (∀ k, some (W1.heap.size) = some k → G = k) ∧ W.heap.size ≤ G ∧ Wr.heap[G]? = some (.cells (if listed.getD 8 false = true then #[.string (numS q), .string (denS q)] else #[.string (numS q), .string (denS q)]) 24 (0, 0)) := hF.get 5 _ rfl (.inl (by decide))
      have hg1 := hg1 _ rfl
      subst hg1
      subst eG1
      obtain ⟨_, eG2, hg2, gG2, hO2⟩ : ∃ G, o2 = .pointer (some ⟨G, 0, none⟩) ∧ (∀ k, some (W5.heap.size) = some k → G = k) ∧ W.heap.size ≤ G ∧ Wr.heap[G]? = some (.cells (if listed.getD 8 false = true then #[.string (numS TT), .string (denS TT)] else #[.string (numS TT), .string (denS TT)]) 24 (0, 0)) := hF.get 6 _ rfl (.inl (by decide))
      have hg2 := hg2 _ rfl
      subst hg2
      subst eG2
      obtain ⟨_, eG3, hg3, gG3, hO3⟩ : ∃ G, o3 = .pointer (some ⟨G, 0, none⟩) ∧ (∀ k, some (W6.heap.size) = some k → G = k) ∧ W.heap.size ≤ G ∧ Wr.heap[G]? = some (.cells (if listed.getD 3 false = true then #[.string (numS z1), .string (denS z1)] else #[.string (numS zz), .string (denS zz)]) 24 (0, 0)) := hF.get 7 _ rfl (.inl (by decide))
      have hg3 := hg3 _ rfl
      subst hg3
      subst eG3
      have hge := Nat.zero_le i
      simp only [putO, layT_some, layT_none, layT_nil, List.setIfInBounds_toArray, List.set_cons_zero, List.set_cons_succ]
      rcases Nat.lt_or_ge i 2 with hlt | hgt
      · replace hi := hlt
        clear hlt
        rcases Nat.lt_or_ge i 1 with hlt | hgt
        · replace hi := hlt
          clear hlt
          have he : i = 0 := Nat.le_antisymm (Nat.le_of_lt_succ hi) hge
          subst he
          rw [if_neg (fun h => bit_off hun (hF.back 3 0 h (by kernel_rfl)))] at hO3
          have hcc := (two_at (hO3)).1
          have cH80 := hcc.1
          have cH81 := hcc.2
          clear hcc
          refine step_of ⟨some 30, _, _, _, _, _⟩ rfl (fun K' hK => ?_)
          go_simp
          refine hK.out _ _ ⟨_, hF.pure hok hla hpre rfl (Below.refl _ _), ?fr⟩
          case fr => simp only [putO, layT_some, layT_none, layT_nil, List.setIfInBounds_toArray, List.set_cons_zero, List.set_cons_succ]
        · replace hge : 1 ≤ i := hgt
          clear hgt
          have he : i = 1 := Nat.le_antisymm (Nat.le_of_lt_succ hi) hge
          subst he
          refine step_of ⟨some 31, _, _, _, _, _⟩ rfl (fun K' hK => ?_)
          go_simp
          go_at_call 42
          (with_reducible refine (TO1.out _ (Env.tab (HE0.out.kept hF.low HP.out))).mono ?_)
          rintro e Wq ⟨rfl, hq⟩
          refine hK.out _ _ ⟨_, hF.pure hok hla hpre rfl hq, ?fr⟩
          case fr => simp only [putO, layT_some, layT_none, layT_nil, List.setIfInBounds_toArray, List.set_cons_zero, List.set_cons_succ]
      · replace hge : 2 ≤ i := hgt
        clear hgt
        rcases Nat.lt_or_ge i 3 with hlt | hgt
        · replace hi := hlt
          clear hlt
          have he : i = 2 := Nat.le_antisymm (Nat.le_of_lt_succ hi) hge
          subst he
          have p0 := hpre 0 (by kernel_rfl)
          have e0 : s0 = .agg #[.string (numS zz), .string (denS zz)] := hF.get 0 _ rfl (.inr p0)
          subst e0
          have p1 := hpre 1 (by kernel_rfl)
          have e1 : s1 = .agg #[.string (numS 1), .string (denS 1)] := hF.get 1 _ rfl (.inr p1)
          subst e1
          refine step_of ⟨some 32, _, _, _, _, _⟩ rfl (fun K' hK => ?_)
          go_simp
          go_at_call 127
          (with_reducible refine (TAd.out _ (HE0.out.kept hF.low HP.out)).mono ?_)
          rintro e Wq ⟨rfl, hq⟩
          refine hK.out _ _ ⟨_, hF.pure hok hla hpre rfl hq, ?fr⟩
          case fr => simp only [putO, layT_some, layT_none, layT_nil, List.setIfInBounds_toArray, List.set_cons_zero, List.set_cons_succ]
        · replace hge : 3 ≤ i := hgt
          clear hgt
          have he : i = 3 := Nat.le_antisymm (Nat.le_of_lt_succ hi) hge
          subst he
          have p2 := hpre 2 (by kernel_rfl)
          have e2 : s2 = .agg #[.string (numS z1), .string (denS z1)] := hF.get 2 _ rfl (.inr p2)
          subst e2
          rw [if_neg (bit_off hun)] at hO3
          have HGB := Lib.hid hO3
          obtain ⟨⟨y0, y1⟩, g0, g1⟩ := two_at HGB.out
          refine step_of ⟨none, _, _, _, _, _⟩ rfl (fun K' hK => ?_)
          go_simp
          refine hK.out _ _ ⟨undef, hF.put hok hna hpre hun rfl undef rfl (.inl (by decide)) rfl (set2_at HGB.out (.string (numS z1)) (.string (denS z1))) (fun k hk => set2_other _ _ (.string (numS z1)) (.string (denS z1)) hk) (put2_below gG3 _ (.string (numS z1)) (.string (denS z1))), ?fr⟩
          case fr => simp only [putO, layT_some, layT_none, layT_nil, List.setIfInBounds_toArray, List.set_cons_zero, List.set_cons_succ]
    case hd =>
      rintro listed vs WB hF hall
      obtain ⟨s0, s1, s2, s3, o0, o1, o2, o3, hvs⟩ := exl_of 8 vs (fun l => vs = l) hF.len rfl
      subst hvs
      obtain ⟨_, eG0, hg0, gG0, hO0⟩ : ∃ G, o0 = .pointer (some ⟨G, 0, none⟩) ∧ (∀ k, some (W.heap.size) = some k → G = k) ∧ W.heap.size ≤ G ∧ WB.heap[G]? = some (.cells (if listed.getD 8 false = true then #[.string { data := #[] }, .string { data := #[] }] else #[.string { data := #[] }, .string { data := #[] }]) 24 (0, 0)) := hF.get 4 _ rfl (.inl (by decide))
      have hg0 := hg0 _ rfl
      subst hg0
      subst eG0
      obtain ⟨_, eG1, hg1, gG1, hO1⟩ : ∃ G, o1 = .pointer (some ⟨G, 0, none⟩) ∧ (∀ k, some (W1.heap.size) = some k → G = k) ∧ W.heap.size ≤ G ∧ WB.heap[G]? = some (.cells (if listed.getD 8 false = true then #[.string (numS q), .string (denS q)] else #[.string (numS q), .string (denS q)]) 24 (0, 0)) := hF.get 5 _ rfl (.inl (by decide))
      have hg1 := hg1 _ rfl
      subst hg1
      subst eG1
      obtain ⟨_, eG2, hg2, gG2, hO2⟩ : ∃ G, o2 = .pointer (some ⟨G, 0, none⟩) ∧ (∀ k, some (W5.heap.size) = some k → G = k) ∧ W.heap.size ≤ G ∧ WB.heap[G]? = some (.cells (if listed.getD 8 false = true then #[.string (numS TT), .string (denS TT)] else #[.string (numS TT), .string (denS TT)]) 24 (0, 0)) := hF.get 6 _ rfl (.inl (by decide))
      have hg2 := hg2 _ rfl
      subst hg2
      subst eG2
      obtain ⟨_, eG3, hg3, gG3, hO3⟩ : ∃ G, o3 = .pointer (some ⟨G, 0, none⟩) ∧ (∀ k, some (W6.heap.size) = some k → G = k) ∧ W.heap.size ≤ G ∧ WB.heap[G]? = some (.cells (if listed.getD 3 false = true then #[.string (numS z1), .string (denS z1)] else #[.string (numS zz), .string (denS zz)]) 24 (0, 0)) := hF.get 7 _ rfl (.inl (by decide))
      have hg3 := hg3 _ rfl
      subst hg3
      subst eG3
      rw [if_neg (hF.unst (by decide))] at hO0
      replace H4 := Lib.hid hO0
      clear hO0
      rw [if_neg (hF.unst (by decide))] at hO1
      replace H5 := Lib.hid hO1
      clear hO1
      rw [if_neg (hF.unst (by decide))] at hO2
      replace H6 := Lib.hid hO2
      clear hO2
      rw [if_pos (hall 3 (by decide))] at hO3
      replace H8 := Lib.hid hO3
      clear hO3
      have HQ := Lib.hid hF.low
      clear hF hall hok hna hla
      simp only [putO, layT_some, layT_none, layT_nil, List.setIfInBounds_toArray, List.set_cons_zero, List.set_cons_succ]
      replace HG := HQ
      clear HQ
      replace HE := Lib.hid (HE0.out.kept HG.out HP.out)
      go_wp2_with fail
      have := L5_4.out
      have := L6_4.out
      have := L6_5.out
      have := L8_4.out
      have := L8_5.out
      have := L8_6.out
      have := HG.out.size
      have := G5.out
      have := G6.out
      have := G8.out
      have hok : okB 6 (Cutu2neKs7 W W1 W5 W6 q TT aa yy zz z1 dd rr) = true := by kernel_rfl
      have hna := noAny_of (ks := (Cutu2neKs7 W W1 W5 W6 q TT aa yy zz z1 dd rr)) (by kernel_rfl)
      have hla := lasts_of hna
      refine wp_region_facts (row := (some b)) (w := W) 6 (Cutu2neKs7 W W1 W5 W6 q TT aa yy zz z1 dd rr) [some 33, some 34, some 35, some 36, some 37, none] (by kernel_rfl) (by kernel_rfl) rfl [undef, undef, undef, undef, undef, undef, .pointer (some ⟨W.heap.size, 0, none⟩), .pointer (some ⟨W1.heap.size, 0, none⟩), .pointer (some ⟨W5.heap.size, 0, none⟩), .pointer (some ⟨W6.heap.size, 0, none⟩)] ?h00 (Fs.start_olds hla rfl HG.out ⟨⟨_, rfl, fun _ h => Option.some.inj h, by omega, H4.out⟩, fun _ => ⟨fun _ => far_of (by omega), fun _ => far_of (by omega), fun _ => far_of (by omega), trivial⟩, ⟨⟨_, rfl, fun _ h => Option.some.inj h, by omega, H5.out⟩, fun _ => ⟨fun _ => far_of (by omega), fun _ => far_of (by omega), trivial⟩, ⟨⟨_, rfl, fun _ h => Option.some.inj h, by omega, H6.out⟩, fun _ => ⟨fun _ => far_of (by omega), trivial⟩, ⟨⟨_, rfl, fun _ h => Option.some.inj h, by omega, H8.out⟩, fun _ => trivial, trivial⟩⟩⟩⟩) ?hs ?hd
      case h00 => simp only [putO, layT_some, layT_none, layT_nil, List.setIfInBounds_toArray, List.set_cons_zero, List.set_cons_succ]
      case hs =>
        rintro listed vs Wr hF i hi hun hpre
        obtain ⟨s0, s1, s2, s3, s4, s5, o0, o1, o2, o3, hvs⟩ := exl_of 10 vs (fun l => vs = l) hF.len rfl
        subst hvs
        obtain ⟨_, eG0, hg0, gG0, hO0⟩ : ∃ G, o0 = .pointer (some ⟨G, 0, none⟩) ∧ (∀ k, some (W.heap.size) = some k → G = k) ∧ W.heap.size ≤ G ∧ Wr.heap[G]? = some (.cells (if listed.getD 5 false = true then #[.string (numS rr), .string (denS rr)] else #[.string { data := #[] }, .string { data := #[] }]) 24 (0, 0)) := hF.get 6 _ rfl (.inl (by decide))
        have hg0 := hg0 _ rfl
        subst hg0
        subst eG0
        obtain ⟨_, eG1, hg1, gG1, hO1⟩ : ∃ G, o1 = .pointer (some ⟨G, 0, none⟩) ∧ (∀ k, some (W1.heap.size) = some k → G = k) ∧ W.heap.size ≤ G ∧ Wr.heap[G]? = some (.cells (if listed.getD 10 false = true then #[.string (numS q), .string (denS q)] else #[.string (numS q), .string (denS q)]) 24 (0, 0)) := hF.get 7 _ rfl (.inl (by decide))
        have hg1 := hg1 _ rfl
        subst hg1
        subst eG1
        obtain ⟨_, eG2, hg2, gG2, hO2⟩ : ∃ G, o2 = .pointer (some ⟨G, 0, none⟩) ∧ (∀ k, some (W5.heap.size) = some k → G = k) ∧ W.heap.size ≤ G ∧ Wr.heap[G]? = some (.cells (if listed.getD 10 false = true then #[.string (numS TT), .string (denS TT)] else #[.string (numS TT), .string (denS TT)]) 24 (0, 0)) := hF.get 8 _ rfl (.inl (by decide))
        have hg2 := hg2 _ rfl
        subst hg2
        subst eG2
        obtain ⟨_, eG3, hg3, gG3, hO3⟩ : ∃ G, o3 = .pointer (some ⟨G, 0, none⟩) ∧ (∀ k, some (W6.heap.size) = some k → G = k) ∧ W.heap.size ≤ G ∧ Wr.heap[G]? = some (.cells (if listed.getD 10 false = true then #[.string (numS z1), .string (denS z1)] else #[.string (numS z1), .string (denS z1)]) 24 (0, 0)) := hF.get 9 _ rfl (.inl (by decide))
        have hg3 := hg3 _ rfl
        subst hg3
        subst eG3
        have hge := Nat.zero_le i
        simp only [putO, layT_some, layT_none, layT_nil, List.setIfInBounds_toArray, List.set_cons_zero, List.set_cons_succ]
        rcases Nat.lt_or_ge i 3 with hlt | hgt
        · replace hi := hlt
          clear hlt
          rcases Nat.lt_or_ge i 1 with hlt | hgt
          · replace hi := hlt
            clear hlt
            have he : i = 0 := Nat.le_antisymm (Nat.le_of_lt_succ hi) hge
            subst he
            rw [if_neg (hF.unst (by decide))] at hO3
            have hcc := (two_at (hO3)).1
            have cH80 := hcc.1
            have cH81 := hcc.2
            clear hcc
            refine step_of ⟨some 33, _, _, _, _, _⟩ rfl (fun K' hK => ?_)
            go_simp
            refine hK.out _ _ ⟨_, hF.pure hok hla hpre rfl (Below.refl _ _), ?fr⟩
            case fr => simp only [putO, layT_some, layT_none, layT_nil, List.setIfInBounds_toArray, List.set_cons_zero, List.set_cons_succ]
          · replace hge : 1 ≤ i := hgt
            clear hgt
            rcases Nat.lt_or_ge i 2 with hlt | hgt
            · replace hi := hlt
              clear hlt
              have he : i = 1 := Nat.le_antisymm (Nat.le_of_lt_succ hi) hge
              subst he
              rw [if_neg (hF.unst (by decide))] at hO2
              have hcc := (two_at (hO2)).1
              have cH60 := hcc.1
              have cH61 := hcc.2
              clear hcc
              refine step_of ⟨some 34, _, _, _, _, _⟩ rfl (fun K' hK => ?_)
              go_simp
              refine hK.out _ _ ⟨_, hF.pure hok hla hpre rfl (Below.refl _ _), ?fr⟩
              case fr => simp only [putO, layT_some, layT_none, layT_nil, List.setIfInBounds_toArray, List.set_cons_zero, List.set_cons_succ]
            · replace hge : 2 ≤ i := hgt
              clear hgt
              have he : i = 2 := Nat.le_antisymm (Nat.le_of_lt_succ hi) hge
              subst he
              have p0 := hpre 0 (by kernel_rfl)
              have e0 : s0 = .agg #[.string (numS z1), .string (denS z1)] := hF.get 0 _ rfl (.inr p0)
              subst e0
              have p1 := hpre 1 (by kernel_rfl)
              have e1 : s1 = .agg #[.string (numS TT), .string (denS TT)] := hF.get 1 _ rfl (.inr p1)
              subst e1
              refine step_of ⟨some 35, _, _, _, _, _⟩ rfl (fun K' hK => ?_)
              go_simp
              go_at_call 89
              (with_reducible refine (TD.out _ (HE0.out.kept hF.low HP.out)).mono ?_)
              rintro e Wq ⟨rfl, hq⟩
              refine hK.out _ _ ⟨_, hF.pure hok hla hpre rfl hq, ?fr⟩
              case fr => simp only [putO, layT_some, layT_none, layT_nil, List.setIfInBounds_toArray, List.set_cons_zero, List.set_cons_succ]
        · replace hge : 3 ≤ i := hgt
          clear hgt
          rcases Nat.lt_or_ge i 4 with hlt | hgt
          · replace hi := hlt
            clear hlt
            have he : i = 3 := Nat.le_antisymm (Nat.le_of_lt_succ hi) hge
            subst he
            rw [if_neg (hF.unst (by decide))] at hO1
            have hcc := (two_at (hO1)).1
            have cH50 := hcc.1
            have cH51 := hcc.2
            clear hcc
            refine step_of ⟨some 36, _, _, _, _, _⟩ rfl (fun K' hK => ?_)
            go_simp
            refine hK.out _ _ ⟨_, hF.pure hok hla hpre rfl (Below.refl _ _), ?fr⟩
            case fr => simp only [putO, layT_some, layT_none, layT_nil, List.setIfInBounds_toArray, List.set_cons_zero, List.set_cons_succ]
          · replace hge : 4 ≤ i := hgt
            clear hgt
            rcases Nat.lt_or_ge i 5 with hlt | hgt
            · replace hi := hlt
              clear hlt
              have he : i = 4 := Nat.le_antisymm (Nat.le_of_lt_succ hi) hge
              subst he
              have p2 := hpre 2 (by kernel_rfl)
              have e2 : s2 = .agg #[.string (numS dd), .string (denS dd)] := hF.get 2 _ rfl (.inr p2)
              subst e2
              have p3 := hpre 3 (by kernel_rfl)
              have e3 : s3 = .agg #[.string (numS q), .string (denS q)] := hF.get 3 _ rfl (.inr p3)
              subst e3
              refine step_of ⟨some 37, _, _, _, _, _⟩ rfl (fun K' hK => ?_)
              go_simp
              go_at_call 128
              (with_reducible refine (TS.out _ (HE0.out.kept hF.low HP.out)).mono ?_)
              rintro e Wq ⟨rfl, hq⟩
              refine hK.out _ _ ⟨_, hF.pure hok hla hpre rfl hq, ?fr⟩
              case fr => simp only [putO, layT_some, layT_none, layT_nil, List.setIfInBounds_toArray, List.set_cons_zero, List.set_cons_succ]
            · replace hge : 5 ≤ i := hgt
              clear hgt
              have he : i = 5 := Nat.le_antisymm (Nat.le_of_lt_succ hi) hge
              subst he
              have p4 := hpre 4 (by kernel_rfl)
              have e4 : s4 = .agg #[.string (numS rr), .string (denS rr)] := hF.get 4 _ rfl (.inr p4)
              subst e4
              rw [if_neg (bit_off hun)] at hO0
              have HGB := Lib.hid hO0
              obtain ⟨⟨y0, y1⟩, g0, g1⟩ := two_at HGB.out
              refine step_of ⟨none, _, _, _, _, _⟩ rfl (fun K' hK => ?_)
              go_simp
              refine hK.out _ _ ⟨undef, hF.put hok hna hpre hun rfl undef rfl (.inl (by decide)) rfl (set2_at HGB.out (.string (numS rr)) (.string (denS rr))) (fun k hk => set2_other _ _ (.string (numS rr)) (.string (denS rr)) hk) (put2_below gG0 _ (.string (numS rr)) (.string (denS rr))), ?fr⟩
              case fr => simp only [putO, layT_some, layT_none, layT_nil, List.setIfInBounds_toArray, List.set_cons_zero, List.set_cons_succ]
      case hd =>
        rintro listed vs WC hF hall
        obtain ⟨s0, s1, s2, s3, s4, s5, o0, o1, o2, o3, hvs⟩ := exl_of 10 vs (fun l => vs = l) hF.len rfl
        subst hvs
        obtain ⟨_, eG0, hg0, gG0, hO0⟩ : ∃ G, o0 = .pointer (some ⟨G, 0, none⟩) ∧ (∀ k, some (W.heap.size) = some k → G = k) ∧ W.heap.size ≤ G ∧ WC.heap[G]? = some (.cells (if listed.getD 5 false = true then #[.string (numS rr), .string (denS rr)] else #[.string { data := #[] }, .string { data := #[] }]) 24 (0, 0)) := hF.get 6 _ rfl (.inl (by decide))
        have hg0 := hg0 _ rfl
        subst hg0
        subst eG0
        obtain ⟨_, eG1, hg1, gG1, hO1⟩ : ∃ G, o1 = .pointer (some ⟨G, 0, none⟩) ∧ (∀ k, some (W1.heap.size) = some k → G = k) ∧ W.heap.size ≤ G ∧ WC.heap[G]? = some (.cells (if listed.getD 10 false = true then #[.string (numS q), .string (denS q)] else #[.string (numS q), .string (denS q)]) 24 (0, 0)) := hF.get 7 _ rfl (.inl (by decide))
        have hg1 := hg1 _ rfl
        subst hg1
        subst eG1
        obtain ⟨_, eG2, hg2, gG2, hO2⟩ : ∃ G, o2 = .pointer (some ⟨G, 0, none⟩) ∧ (∀ k, some (W5.heap.size) = some k → G = k) ∧ W.heap.size ≤ G ∧ WC.heap[G]? = some (.cells (if listed.getD 10 false = true then #[.string (numS TT), .string (denS TT)] else #[.string (numS TT), .string (denS TT)]) 24 (0, 0)) := hF.get 8 _ rfl (.inl (by decide))
        have hg2 := hg2 _ rfl
        subst hg2
        subst eG2
        obtain ⟨_, eG3, hg3, gG3, hO3⟩ : ∃ G, o3 = .pointer (some ⟨G, 0, none⟩) ∧ (∀ k, some (W6.heap.size) = some k → G = k) ∧ W.heap.size ≤ G ∧ WC.heap[G]? = some (.cells (if listed.getD 10 false = true then #[.string (numS z1), .string (denS z1)] else #[.string (numS z1), .string (denS z1)]) 24 (0, 0)) := hF.get 9 _ rfl (.inl (by decide))
        have hg3 := hg3 _ rfl
        subst hg3
        subst eG3
        rw [if_pos (hall 5 (by decide))] at hO0
        replace H4 := Lib.hid hO0
        clear hO0
        rw [if_neg (hF.unst (by decide))] at hO1
        replace H5 := Lib.hid hO1
        clear hO1
        rw [if_neg (hF.unst (by decide))] at hO2
        replace H6 := Lib.hid hO2
        clear hO2
        rw [if_neg (hF.unst (by decide))] at hO3
        replace H8 := Lib.hid hO3
        clear hO3
        have HQ := Lib.hid hF.low
        clear hF hall hok hna hla
        simp only [putO, layT_some, layT_none, layT_nil, List.setIfInBounds_toArray, List.set_cons_zero, List.set_cons_succ]
        replace HG := HQ
        clear HQ
        replace HE := Lib.hid (HE0.out.kept HG.out HP.out)
        obtain ⟨⟨x4_0, x4_1⟩, x4_f0, x4_f1⟩ := two_at H4.out
        go_wp2
        refine bodyPost_ret (v := .agg #[.string (numS rr), .string (denS rr)]) (by simp [results, Tryz.results74, go_sem, x4_0, x4_1]) rfl ⟨rfl, HG.out⟩

set_option linter.unusedVariables false in
/-- what the operations of region 3 yield -/
def Cutd1Ks3 (W W1 W5 : World) (q TT aa yy : Rat) : List RK :=
  [.pure (.agg #[.string (numS q), .string (denS q)]),
   .pure (.agg #[.string (numS aa), .string (denS aa)]),
   .pure (.agg #[.string (numS TT), .string (denS TT)]),
   .pure (.agg #[.string (numS yy), .string (denS yy)]),
   .box none #[.string { data := #[] }, .string { data := #[] }] #[.string (numS yy), .string (denS yy)] 24 5,
   .put 4,
   .box (some (W.heap.size)) #[.string { data := #[] }, .string { data := #[] }] #[.string { data := #[] }, .string { data := #[] }] 24 9,
   .box (some (W1.heap.size)) #[.string (numS q), .string (denS q)] #[.string (numS q), .string (denS q)] 24 9,
   .box (some (W5.heap.size)) #[.string (numS TT), .string (denS TT)] #[.string (numS TT), .string (denS TT)] 24 9]
set_option linter.unusedVariables false in
/-- what the operations of region 7 yield -/
def Cutd1Ks7 (W W1 W5 W6 : World) (q TT aa yy zz z1 dd rr : Rat) : List RK :=
  [.pure (.agg #[.string (numS zz), .string (denS zz)]),
   .pure (.agg #[.string (numS TT), .string (denS TT)]),
   .pure (.agg #[.string (numS dd), .string (denS dd)]),
   .pure (.agg #[.string (numS q), .string (denS q)]),
   .pure (.agg #[.string (numS rr), .string (denS rr)]),
   .put 6,
   .box (some (W.heap.size)) #[.string { data := #[] }, .string { data := #[] }] #[.string (numS rr), .string (denS rr)] 24 5,
   .box (some (W1.heap.size)) #[.string (numS q), .string (denS q)] #[.string (numS q), .string (denS q)] 24 10,
   .box (some (W5.heap.size)) #[.string (numS TT), .string (denS TT)] #[.string (numS TT), .string (denS TT)] 24 10,
   .box (some (W6.heap.size)) #[.string (numS zz), .string (denS zz)] #[.string (numS zz), .string (denS zz)] 24 10]
set_option linter.unusedSimpArgs false in
set_option linter.unusedVariables false in
set_option maxHeartbeats 4000000 in
set_option maxRecDepth 100000 in
theorem fn_cutd1 (q : Rat) (b g C : Nat) (W : World) (hq0 : fits q = true) (hT : fits (tenR (0 : Int)) = true) (hy : fits (absR q * tenR (0 : Int)) = true) (hz : fits (((absR q * tenR (0 : Int)).floor : Int) : Rat) = true) (hd : fits ((((absR q * tenR (0 : Int)).floor : Int) : Rat) / tenR (0 : Int)) = true) (ha : ArgsAt W b (some ⟨g, 0, none⟩) 1 C 0) (hne : g ≠ b) (hc0 : NumCells W g (0 + 0 * 9) q) (hE : Env W) (hP : Past b) :
    Calls Tryz.prog 74 #[.pointer (some ⟨b, 0, none⟩), .bool false] W fun e w' => e = .returned (fracV (cutR false q 0)) ∧ W.grownBy w' (some b) := by
  have TN0 := Lib.hid (fun W' ga gc ge => argNum_any b g 0 1 C 0 q W' ga (by decide) (by decide) hne gc hq0 ge hP)
  rw [fracV_is q] at TN0
  have TP := Lib.hid (fun W' ga => places_none b (some ⟨g, 0, none⟩) 1 C 1 W' ga (by decide) (by decide))
  have hres : cutR false q 0 = signedR ((((absR q * tenR (0 : Int)).floor : Int) : Rat) / tenR (0 : Int)) q := by
    unfold cutR
    rw [if_neg (fun h => absurd h.1 (by decide))]
  rw [hres]
  clear hres
  have TO := Lib.hid (fun W g => of_any 10 W (by decide) (by decide) g)
  have TPw := Lib.hid (fun W g => powerQ_any ((10 : Int) : Rat) ((0 : Int)) W (by exact fits_int 10 (by decide)) (fun _ => by decide) (by omega) (by omega) (limbs34 (by rw [up_int]; exact Nat.lt_of_le_of_lt (Nat.pow_le_pow_right (by decide) (show ((0 : Int)).natAbs ≤ 100 by omega)) (by decide +kernel))) (limbs34 (by rw [den_int, Nat.one_pow]; decide +kernel)) g)
  rw [show powR ((10 : Int) : Rat) ((0 : Int)) = tenR ((0 : Int)) from tenR_pow _, wroteV_ok hT] at TPw
  have TMu := Lib.hid (fun W => must_ok (tenR ((0 : Int))) W)
  have TA := Lib.hid (fun W g => fm_abs q W hq0 g)
  have TM := Lib.hid (fun W g => fm_mul (absR q) (tenR ((0 : Int))) W (by rw [fits_absR]; exact hq0) hT hy g)
  have TF := Lib.hid (fun W g => fm_floor (absR q * tenR ((0 : Int))) W hy hz g)
  have TD := Lib.hid (fun W g => fm_div (((absR q * tenR (0 : Int)).floor : Int) : Rat) (tenR ((0 : Int))) W hz hT (rat_ne (tenR_pos _)) hd g)
  have TS := Lib.hid (fun W g => fm_signed ((((absR q * tenR (0 : Int)).floor : Int) : Rat) / tenR ((0 : Int))) q W hd hq0 g)
  have hkk : True := trivial
  obtain ⟨TT, hTT⟩ : ∃ z, tenR (0 : Int) = z := ⟨_, rfl⟩
  rw [hTT] at TPw TMu TM TF TD TS ⊢
  obtain ⟨te, hte⟩ : ∃ z, ((10 : Int) : Rat) = z := ⟨_, rfl⟩
  rw [hte] at TO TPw
  obtain ⟨aa, haa⟩ : ∃ z, absR q = z := ⟨_, rfl⟩
  rw [haa] at TA TM TF TD TS ⊢
  obtain ⟨yy, hyy⟩ : ∃ z, aa * TT = z := ⟨_, rfl⟩
  rw [hyy] at TM TF TD TS ⊢
  obtain ⟨zz, hzz⟩ : ∃ z, ((yy.floor : Int) : Rat) = z := ⟨_, rfl⟩
  rw [hzz] at TF TD TS ⊢
  obtain ⟨dd, hdd⟩ : ∃ z, zz / TT = z := ⟨_, rfl⟩
  rw [hdd] at TD TS ⊢
  obtain ⟨rr, hrr⟩ : ∃ z, signedR dd q = z := ⟨_, rfl⟩
  rw [hrr] at TS ⊢
  rw [fracV_is te] at TO TPw
  rw [fracV_is TT] at TPw TMu TM TD
  rw [fracV_is q] at TA TS
  rw [fracV_is aa] at TA TM
  rw [fracV_is yy] at TM TF
  rw [fracV_is zz] at TF TD
  rw [fracV_is dd] at TD TS
  rw [fracV_is rr] at TS ⊢
  have HP := Lib.hid hP
  have HE0 := Lib.hid hE
  have NG := Lib.hid hne
  have HBW := Lib.hid (heap_lt ha)
  have hb : Below W.heap.size W (W.alloc (.cells #[.string { data := #[] }, .string { data := #[] }] 24)) := (Below.refl _ _).alloc (Nat.le_refl _) _
  have HA := Lib.hid (show ArgsAt (W.alloc (.cells #[.string { data := #[] }, .string { data := #[] }] 24)) b (some ⟨g, 0, none⟩) 1 C 0 from keep_block ha hb)
  have HC0 := Lib.hid (NumCells.below hc0 hb)
  have HE := Lib.hid (hE.below hb)
  have HG := Lib.hid (kept_below (b := b) hb)
  have H4 := Lib.hid (heap_alloc_new W (.cells #[.string { data := #[] }, .string { data := #[] }] 24))
  have NE4 := Lib.hid (show W.heap.size ≠ b from Nat.ne_of_gt HBW.out)
  clear hb
  clear ha hE hP hne hc0 hkk hTT hte haa hyy hzz hdd hrr hq0 hT hy hz hd
  go_enter Tryz.func74, Tryz.ntmps74
  go_wp2_with fail
  refine (TN0.out _ HA.out HC0.out HE.out).mono ?_
  rintro e W1 ⟨rfl, ha, hg⟩
  replace HA := Lib.hid ha
  replace H4 := Lib.hid (kept_block H4.out hg NE4.out)
  replace HC0 := Lib.hid (HC0.out.kept hg NG.out)
  replace HE := Lib.hid (HE.out.kept hg HP.out)
  replace HG := Lib.hid (kept_trans HG.out hg)
  clear ha hg
  have L5_4 := Lib.hid (heap_lt H4.out)
  have G5 := Lib.hid (HG.out.size)
  have NE5 : Hid (W1.heap.size ≠ b) := Lib.hid (Nat.ne_of_gt (Nat.lt_of_lt_of_le HBW.out G5.out))
  have hb : Below W1.heap.size W1 (W1.alloc (.cells #[.string (numS q), .string (denS q)] 24)) := (Below.refl _ _).alloc (Nat.le_refl _) _
  replace H4 := Lib.hid (keep_block H4.out hb)
  replace HC0 := Lib.hid (NumCells.below HC0.out hb)
  replace HA := Lib.hid (keep_block HA.out hb)
  replace HE := Lib.hid (HE.out.below hb)
  replace HG := Lib.hid (kept_trans HG.out (kept_below hb))
  have H5 := Lib.hid (heap_alloc_new W1 (.cells #[.string (numS q), .string (denS q)] 24))
  clear hb
  go_wp2_with fail
  refine (TO.out _ (Env.tab HE.out)).mono ?_
  rintro e W2 ⟨rfl, hb⟩
  replace H4 := Lib.hid (keep_block H4.out hb)
  replace H5 := Lib.hid (keep_block H5.out hb)
  replace HC0 := Lib.hid (NumCells.below HC0.out hb)
  replace HA := Lib.hid (keep_block HA.out hb)
  replace HE := Lib.hid (HE.out.below hb)
  replace HG := Lib.hid (kept_trans HG.out (kept_below hb))
  clear hb
  go_wp2_with fail
  refine (TP.out _ HA.out).mono ?_
  rintro e W3 ⟨rfl, ha, hb⟩
  replace H4 := Lib.hid (keep_block H4.out hb)
  replace H5 := Lib.hid (keep_block H5.out hb)
  replace HC0 := Lib.hid (NumCells.below HC0.out hb)
  replace HA := Lib.hid (keep_block HA.out hb)
  replace HE := Lib.hid (HE.out.below hb)
  replace HG := Lib.hid (kept_trans HG.out (kept_below hb))
  replace HA := Lib.hid ha
  clear ha hb
  go_wp2_with fail
  refine (TPw.out _ (Env.tab HE.out)).mono ?_
  rintro e W4 ⟨rfl, hb⟩
  replace H4 := Lib.hid (keep_block H4.out hb)
  replace H5 := Lib.hid (keep_block H5.out hb)
  replace HC0 := Lib.hid (NumCells.below HC0.out hb)
  replace HA := Lib.hid (keep_block HA.out hb)
  replace HE := Lib.hid (HE.out.below hb)
  replace HG := Lib.hid (kept_trans HG.out (kept_below hb))
  clear hb
  go_wp2_with fail
  refine (TMu.out _).mono ?_
  rintro e W5 ⟨rfl, hb⟩
  replace H4 := Lib.hid (keep_block H4.out hb)
  replace H5 := Lib.hid (keep_block H5.out hb)
  replace HC0 := Lib.hid (NumCells.below HC0.out hb)
  replace HA := Lib.hid (keep_block HA.out hb)
  replace HE := Lib.hid (HE.out.below hb)
  replace HG := Lib.hid (kept_trans HG.out (kept_below hb))
  clear hb
  have L6_4 := Lib.hid (heap_lt H4.out)
  have L6_5 := Lib.hid (heap_lt H5.out)
  have G6 := Lib.hid (HG.out.size)
  have NE6 : Hid (W5.heap.size ≠ b) := Lib.hid (Nat.ne_of_gt (Nat.lt_of_lt_of_le HBW.out G6.out))
  have hb : Below W5.heap.size W5 (W5.alloc (.cells #[.string (numS TT), .string (denS TT)] 24)) := (Below.refl _ _).alloc (Nat.le_refl _) _
  replace H4 := Lib.hid (keep_block H4.out hb)
  replace H5 := Lib.hid (keep_block H5.out hb)
  replace HC0 := Lib.hid (NumCells.below HC0.out hb)
  replace HA := Lib.hid (keep_block HA.out hb)
  replace HE := Lib.hid (HE.out.below hb)
  replace HG := Lib.hid (kept_trans HG.out (kept_below hb))
  have H6 := Lib.hid (heap_alloc_new W5 (.cells #[.string (numS TT), .string (denS TT)] 24))
  clear hb
  go_wp2_with fail
  have := L5_4.out
  have := L6_4.out
  have := L6_5.out
  have := HG.out.size
  have := G5.out
  have := G6.out
  have hok : okB 6 (Cutd1Ks3 W W1 W5 q TT aa yy) = true := by kernel_rfl
  have hna := noAny_of (ks := (Cutd1Ks3 W W1 W5 q TT aa yy)) (by kernel_rfl)
  have hla := lasts_of hna
  refine wp_region_facts (row := (some b)) (w := W) 6 (Cutd1Ks3 W W1 W5 q TT aa yy) [some 18, some 19, some 20, some 21, some 7, none] (by kernel_rfl) (by kernel_rfl) rfl [undef, undef, undef, undef, undef, undef, .pointer (some ⟨W.heap.size, 0, none⟩), .pointer (some ⟨W1.heap.size, 0, none⟩), .pointer (some ⟨W5.heap.size, 0, none⟩)] ?h00 (Fs.start_olds hla rfl HG.out ⟨⟨_, rfl, fun _ h => Option.some.inj h, by omega, H4.out⟩, fun _ => ⟨fun _ => far_of (by omega), fun _ => far_of (by omega), trivial⟩, ⟨⟨_, rfl, fun _ h => Option.some.inj h, by omega, H5.out⟩, fun _ => ⟨fun _ => far_of (by omega), trivial⟩, ⟨⟨_, rfl, fun _ h => Option.some.inj h, by omega, H6.out⟩, fun _ => trivial, trivial⟩⟩⟩) ?hs ?hd
  case h00 => simp only [putO, layT_some, layT_none, layT_nil, List.setIfInBounds_toArray, List.set_cons_zero, List.set_cons_succ]
  case hs =>
    rintro listed vs Wr hF i hi hun hpre
    obtain ⟨s0, s1, s2, s3, s4, s5, o0, o1, o2, hvs⟩ := exl_of 9 vs (fun l => vs = l) hF.len rfl
    subst hvs
    obtain ⟨_, eG0, hg0, gG0, hO0⟩ : ∃ G, o0 = .pointer (some ⟨G, 0, none⟩) ∧ (∀ k, some (W.heap.size) = some k → G = k) ∧ W.heap.size ≤ G ∧ Wr.heap[G]? = some (.cells (if listed.getD 9 false = true then #[.string { data := #[] }, .string { data := #[] }] else #[.string { data := #[] }, .string { data := #[] }]) 24 (0, 0)) := hF.get 6 _ rfl (.inl (by decide))
    have hg0 := hg0 _ rfl
    subst hg0
    subst eG0
    obtain ⟨_, eG1, hg1, gG1, hO1⟩ : ∃ G, o1 = .pointer (some ⟨G, 0, none⟩) ∧ (∀ k, some (W1.heap.size) = some k → G = k) ∧ W.heap.size ≤ G ∧ Wr.heap[G]? = some (.cells (if listed.getD 9 false = true then #[.string (numS q), .string (denS q)] else #[.string (numS q), .string (denS q)]) 24 (0, 0)) := hF.get 7 _ rfl (.inl (by decide))
    have hg1 := hg1 _ rfl
    subst hg1
    subst eG1
    obtain ⟨_, eG2, hg2, gG2, hO2⟩ : ∃ G, o2 = .pointer (some ⟨G, 0, none⟩) ∧ (∀ k, some (W5.heap.size) = some k → G = k) ∧ W.heap.size ≤ G ∧ Wr.heap[G]? = some (.cells (if listed.getD 9 false = true then #[.string (numS TT), .string (denS TT)] else #[.string (numS TT), .string (denS TT)]) 24 (0, 0)) := hF.get 8 _ rfl (.inl (by decide))
    have hg2 := hg2 _ rfl
    subst hg2
    subst eG2
    have hge := Nat.zero_le i
    simp only [putO, layT_some, layT_none, layT_nil, List.setIfInBounds_toArray, List.set_cons_zero, List.set_cons_succ]
    rcases Nat.lt_or_ge i 3 with hlt | hgt
    · replace hi := hlt
      clear hlt
      rcases Nat.lt_or_ge i 1 with hlt | hgt
      · replace hi := hlt
        clear hlt
        have he : i = 0 := Nat.le_antisymm (Nat.le_of_lt_succ hi) hge
        subst he
        rw [if_neg (hF.unst (by decide))] at hO1
        have hcc := (two_at (hO1)).1
        have cH50 := hcc.1
        have cH51 := hcc.2
        clear hcc
        refine step_of ⟨some 18, _, _, _, _, _⟩ rfl (fun K' hK => ?_)
        go_simp
        refine hK.out _ _ ⟨_, hF.pure hok hla hpre rfl (Below.refl _ _), ?fr⟩
        case fr => simp only [putO, layT_some, layT_none, layT_nil, List.setIfInBounds_toArray, List.set_cons_zero, List.set_cons_succ]
      · replace hge : 1 ≤ i := hgt
        clear hgt
        rcases Nat.lt_or_ge i 2 with hlt | hgt
        · replace hi := hlt
          clear hlt
          have he : i = 1 := Nat.le_antisymm (Nat.le_of_lt_succ hi) hge
          subst he
          have p0 := hpre 0 (by kernel_rfl)
          have e0 : s0 = .agg #[.string (numS q), .string (denS q)] := hF.get 0 _ rfl (.inr p0)
          subst e0
          refine step_of ⟨some 19, _, _, _, _, _⟩ rfl (fun K' hK => ?_)
          go_simp
          go_at_call 66
          (with_reducible refine (TA.out _ (HE0.out.kept hF.low HP.out)).mono ?_)
          rintro e Wq ⟨rfl, hq⟩
          refine hK.out _ _ ⟨_, hF.pure hok hla hpre rfl hq, ?fr⟩
          case fr => simp only [putO, layT_some, layT_none, layT_nil, List.setIfInBounds_toArray, List.set_cons_zero, List.set_cons_succ]
        · replace hge : 2 ≤ i := hgt
          clear hgt
          have he : i = 2 := Nat.le_antisymm (Nat.le_of_lt_succ hi) hge
          subst he
          rw [if_neg (hF.unst (by decide))] at hO2
          have hcc := (two_at (hO2)).1
          have cH60 := hcc.1
          have cH61 := hcc.2
          clear hcc
          refine step_of ⟨some 20, _, _, _, _, _⟩ rfl (fun K' hK => ?_)
          go_simp
          refine hK.out _ _ ⟨_, hF.pure hok hla hpre rfl (Below.refl _ _), ?fr⟩
          case fr => simp only [putO, layT_some, layT_none, layT_nil, List.setIfInBounds_toArray, List.set_cons_zero, List.set_cons_succ]
    · replace hge : 3 ≤ i := hgt
      clear hgt
      rcases Nat.lt_or_ge i 4 with hlt | hgt
      · replace hi := hlt
        clear hlt
        have he : i = 3 := Nat.le_antisymm (Nat.le_of_lt_succ hi) hge
        subst he
        have p1 := hpre 1 (by kernel_rfl)
        have e1 : s1 = .agg #[.string (numS aa), .string (denS aa)] := hF.get 1 _ rfl (.inr p1)
        subst e1
        have p2 := hpre 2 (by kernel_rfl)
        have e2 : s2 = .agg #[.string (numS TT), .string (denS TT)] := hF.get 2 _ rfl (.inr p2)
        subst e2
        refine step_of ⟨some 21, _, _, _, _, _⟩ rfl (fun K' hK => ?_)
        go_simp
        go_at_call 126
        (with_reducible refine (TM.out _ (HE0.out.kept hF.low HP.out)).mono ?_)
        rintro e Wq ⟨rfl, hq⟩
        refine hK.out _ _ ⟨_, hF.pure hok hla hpre rfl hq, ?fr⟩
        case fr => simp only [putO, layT_some, layT_none, layT_nil, List.setIfInBounds_toArray, List.set_cons_zero, List.set_cons_succ]
      · replace hge : 4 ≤ i := hgt
        clear hgt
        rcases Nat.lt_or_ge i 5 with hlt | hgt
        · replace hi := hlt
          clear hlt
          have he : i = 4 := Nat.le_antisymm (Nat.le_of_lt_succ hi) hge
          subst he
          refine step_of ⟨some 7, _, _, _, _, _⟩ rfl (fun K' hK => ?_)
          go_simp
          refine hK.out _ _ ⟨_, hF.box hok hla hpre hun rfl, ?fr⟩
          case fr => simp only [putO, layT_some, layT_none, layT_nil, List.setIfInBounds_toArray, List.set_cons_zero, List.set_cons_succ]
        · replace hge : 5 ≤ i := hgt
          clear hgt
          have he : i = 5 := Nat.le_antisymm (Nat.le_of_lt_succ hi) hge
          subst he
          have p4 := hpre 4 (by kernel_rfl)
          obtain ⟨G, eG, _, hGl, hGB⟩ : ∃ G, s4 = .pointer (some ⟨G, 0, none⟩) ∧ (∀ k, none = some k → G = k) ∧ W.heap.size ≤ G ∧ Wr.heap[G]? = some (.cells (if listed.getD 5 false = true then #[.string (numS yy), .string (denS yy)] else #[.string { data := #[] }, .string { data := #[] }]) 24 (0, 0)) := hF.get 4 _ rfl (.inr p4)
          subst eG
          rw [if_neg (bit_off hun)] at hGB
          have HGB := Lib.hid hGB
          clear hGB
          have p3 := hpre 3 (by kernel_rfl)
          have e3 : s3 = .agg #[.string (numS yy), .string (denS yy)] := hF.get 3 _ rfl (.inr p3)
          subst e3
          obtain ⟨⟨y0, y1⟩, g0, g1⟩ := two_at HGB.out
          refine step_of ⟨none, _, _, _, _, _⟩ rfl (fun K' hK => ?_)
          go_simp
          refine hK.out _ _ ⟨undef, hF.put hok hna hpre hun rfl undef rfl (.inr p4) rfl (set2_at HGB.out (.string (numS yy)) (.string (denS yy))) (fun k hk => set2_other _ _ (.string (numS yy)) (.string (denS yy)) hk) (put2_below hGl _ (.string (numS yy)) (.string (denS yy))), ?fr⟩
          case fr => simp only [putO, layT_some, layT_none, layT_nil, List.setIfInBounds_toArray, List.set_cons_zero, List.set_cons_succ]
  case hd =>
    rintro listed vs WA hF hall
    obtain ⟨s0, s1, s2, s3, s4, s5, o0, o1, o2, hvs⟩ := exl_of 9 vs (fun l => vs = l) hF.len rfl
    subst hvs
    obtain ⟨_, eG0, hg0, gG0, hO0⟩ : ∃ G, o0 = .pointer (some ⟨G, 0, none⟩) ∧ (∀ k, some (W.heap.size) = some k → G = k) ∧ W.heap.size ≤ G ∧ WA.heap[G]? = some (.cells (if listed.getD 9 false = true then #[.string { data := #[] }, .string { data := #[] }] else #[.string { data := #[] }, .string { data := #[] }]) 24 (0, 0)) := hF.get 6 _ rfl (.inl (by decide))
    have hg0 := hg0 _ rfl
    subst hg0
    subst eG0
    obtain ⟨_, eG1, hg1, gG1, hO1⟩ : ∃ G, o1 = .pointer (some ⟨G, 0, none⟩) ∧ (∀ k, some (W1.heap.size) = some k → G = k) ∧ W.heap.size ≤ G ∧ WA.heap[G]? = some (.cells (if listed.getD 9 false = true then #[.string (numS q), .string (denS q)] else #[.string (numS q), .string (denS q)]) 24 (0, 0)) := hF.get 7 _ rfl (.inl (by decide))
    have hg1 := hg1 _ rfl
    subst hg1
    subst eG1
    obtain ⟨_, eG2, hg2, gG2, hO2⟩ : ∃ G, o2 = .pointer (some ⟨G, 0, none⟩) ∧ (∀ k, some (W5.heap.size) = some k → G = k) ∧ W.heap.size ≤ G ∧ WA.heap[G]? = some (.cells (if listed.getD 9 false = true then #[.string (numS TT), .string (denS TT)] else #[.string (numS TT), .string (denS TT)]) 24 (0, 0)) := hF.get 8 _ rfl (.inl (by decide))
    have hg2 := hg2 _ rfl
    subst hg2
    subst eG2
    obtain ⟨b7, e4, _, _, k4⟩ : ∃ G, s4 = .pointer (some ⟨G, 0, none⟩) ∧ (∀ k, none = some k → G = k) ∧ _ ≤ G ∧ WA.heap[G]? = some (.cells (if listed.getD 5 false = true then #[.string (numS yy), .string (denS yy)] else #[.string { data := #[] }, .string { data := #[] }]) 24 (0, 0)) := hF.get 4 _ rfl (.inr (hall 4 (by decide)))
    subst e4
    rw [if_pos (hall 5 (by decide))] at k4
    have H7 := Lib.hid k4
    clear k4
    rw [if_neg (hF.unst (by decide))] at hO0
    replace H4 := Lib.hid hO0
    clear hO0
    rw [if_neg (hF.unst (by decide))] at hO1
    replace H5 := Lib.hid hO1
    clear hO1
    rw [if_neg (hF.unst (by decide))] at hO2
    replace H6 := Lib.hid hO2
    clear hO2
    have HQ := Lib.hid hF.low
    clear hF hall hok hna hla
    simp only [putO, layT_some, layT_none, layT_nil, List.setIfInBounds_toArray, List.set_cons_zero, List.set_cons_succ]
    clear HA HC0
    replace HG := HQ
    clear HQ
    replace HE := Lib.hid (HE0.out.kept HG.out HP.out)
    obtain ⟨⟨x7_0, x7_1⟩, x7_f0, x7_f1⟩ := two_at H7.out
    go_wp2_with fail
    refine (TF.out _ HE.out).mono ?_
    clear x7_0 x7_1 x7_f0 x7_f1
    rintro e W6 ⟨rfl, hb⟩
    replace H4 := Lib.hid (keep_block H4.out hb)
    replace H5 := Lib.hid (keep_block H5.out hb)
    replace H6 := Lib.hid (keep_block H6.out hb)
    replace H7 := Lib.hid (keep_block H7.out hb)
    replace HE := Lib.hid (HE.out.below hb)
    replace HG := Lib.hid (kept_trans HG.out (kept_below hb))
    clear hb
    have L8_4 := Lib.hid (heap_lt H4.out)
    have L8_5 := Lib.hid (heap_lt H5.out)
    have L8_6 := Lib.hid (heap_lt H6.out)
    have L8_7 := Lib.hid (heap_lt H7.out)
    have G8 := Lib.hid (HG.out.size)
    have NE8 : Hid (W6.heap.size ≠ b) := Lib.hid (Nat.ne_of_gt (Nat.lt_of_lt_of_le HBW.out G8.out))
    have hb : Below W6.heap.size W6 (W6.alloc (.cells #[.string (numS zz), .string (denS zz)] 24)) := (Below.refl _ _).alloc (Nat.le_refl _) _
    replace H4 := Lib.hid (keep_block H4.out hb)
    replace H5 := Lib.hid (keep_block H5.out hb)
    replace H6 := Lib.hid (keep_block H6.out hb)
    replace H7 := Lib.hid (keep_block H7.out hb)
    replace HE := Lib.hid (HE.out.below hb)
    replace HG := Lib.hid (kept_trans HG.out (kept_below hb))
    have H8 := Lib.hid (heap_alloc_new W6 (.cells #[.string (numS zz), .string (denS zz)] 24))
    clear hb
    go_wp2_with fail
    have := L5_4.out
    have := L6_4.out
    have := L6_5.out
    have := L8_4.out
    have := L8_5.out
    have := L8_6.out
    have := HG.out.size
    have := G5.out
    have := G6.out
    have := G8.out
    have hok : okB 6 (Cutd1Ks7 W W1 W5 W6 q TT aa yy zz zz dd rr) = true := by kernel_rfl
    have hna := noAny_of (ks := (Cutd1Ks7 W W1 W5 W6 q TT aa yy zz zz dd rr)) (by kernel_rfl)
    have hla := lasts_of hna
    refine wp_region_facts (row := (some b)) (w := W) 6 (Cutd1Ks7 W W1 W5 W6 q TT aa yy zz zz dd rr) [some 33, some 34, some 35, some 36, some 37, none] (by kernel_rfl) (by kernel_rfl) rfl [undef, undef, undef, undef, undef, undef, .pointer (some ⟨W.heap.size, 0, none⟩), .pointer (some ⟨W1.heap.size, 0, none⟩), .pointer (some ⟨W5.heap.size, 0, none⟩), .pointer (some ⟨W6.heap.size, 0, none⟩)] ?h00 (Fs.start_olds hla rfl HG.out ⟨⟨_, rfl, fun _ h => Option.some.inj h, by omega, H4.out⟩, fun _ => ⟨fun _ => far_of (by omega), fun _ => far_of (by omega), fun _ => far_of (by omega), trivial⟩, ⟨⟨_, rfl, fun _ h => Option.some.inj h, by omega, H5.out⟩, fun _ => ⟨fun _ => far_of (by omega), fun _ => far_of (by omega), trivial⟩, ⟨⟨_, rfl, fun _ h => Option.some.inj h, by omega, H6.out⟩, fun _ => ⟨fun _ => far_of (by omega), trivial⟩, ⟨⟨_, rfl, fun _ h => Option.some.inj h, by omega, H8.out⟩, fun _ => trivial, trivial⟩⟩⟩⟩) ?hs ?hd
    case h00 => simp only [putO, layT_some, layT_none, layT_nil, List.setIfInBounds_toArray, List.set_cons_zero, List.set_cons_succ]
    case hs =>
      rintro listed vs Wr hF i hi hun hpre
      obtain ⟨s0, s1, s2, s3, s4, s5, o0, o1, o2, o3, hvs⟩ := exl_of 10 vs (fun l => vs = l) hF.len rfl
      subst hvs
      obtain ⟨_, eG0, hg0, gG0, hO0⟩ : ∃ G, o0 = .pointer (some ⟨G, 0, none⟩) ∧ (∀ k, some (W.heap.size) = some k → G = k) ∧ W.heap.size ≤ G ∧ Wr.heap[G]? = some (.cells (if listed.getD 5 false = true then #[.string (numS rr), .string (denS rr)] else #[.string { data := #[] }, .string { data := #[] }]) 24 (0, 0)) := hF.get 6 _ rfl (.inl (by decide))
      have hg0 := hg0 _ rfl
      subst hg0
      subst eG0
      obtain ⟨_, eG1, hg1, gG1, hO1⟩ : ∃ G, o1 = .pointer (some ⟨G, 0, none⟩) ∧ (∀ k, some (W1.heap.size) = some k → G = k) ∧ W.heap.size ≤ G ∧ Wr.heap[G]? = some (.cells (if listed.getD 10 false = true then #[.string (numS q), .string (denS q)] else #[.string (numS q), .string (denS q)]) 24 (0, 0)) := hF.get 7 _ rfl (.inl (by decide))
      have hg1 := hg1 _ rfl
      subst hg1
      subst eG1
      obtain ⟨_, eG2, hg2, gG2, hO2⟩ : ∃ G, o2 = .pointer (some ⟨G, 0, none⟩) ∧ (∀ k, some (W5.heap.size) = some k → G = k) ∧ W.heap.size ≤ G ∧ Wr.heap[G]? = some (.cells (if listed.getD 10 false = true then #[.string (numS TT), .string (denS TT)] else #[.string (numS TT), .string (denS TT)]) 24 (0, 0)) := hF.get 8 _ rfl (.inl (by decide))
      have hg2 := hg2 _ rfl
      subst hg2
      subst eG2
      obtain ⟨_, eG3, hg3, gG3, hO3⟩ : ∃ G, o3 = .pointer (some ⟨G, 0, none⟩) ∧ (∀ k, some (W6.heap.size) = some k → G = k) ∧ W.heap.size ≤ G ∧ Wr.heap[G]? = some (.cells (if listed.getD 10 false = true then #[.string (numS zz), .string (denS zz)] else #[.string (numS zz), .string (denS zz)]) 24 (0, 0)) := hF.get 9 _ rfl (.inl (by decide))
      have hg3 := hg3 _ rfl
      subst hg3
      subst eG3
      have hge := Nat.zero_le i
      simp only [putO, layT_some, layT_none, layT_nil, List.setIfInBounds_toArray, List.set_cons_zero, List.set_cons_succ]
      rcases Nat.lt_or_ge i 3 with hlt | hgt
      · replace hi := hlt
        clear hlt
        rcases Nat.lt_or_ge i 1 with hlt | hgt
        · replace hi := hlt
          clear hlt
          have he : i = 0 := Nat.le_antisymm (Nat.le_of_lt_succ hi) hge
          subst he
          rw [if_neg (hF.unst (by decide))] at hO3
          have hcc := (two_at (hO3)).1
          have cH80 := hcc.1
          have cH81 := hcc.2
          clear hcc
          refine step_of ⟨some 33, _, _, _, _, _⟩ rfl (fun K' hK => ?_)
          go_simp
          refine hK.out _ _ ⟨_, hF.pure hok hla hpre rfl (Below.refl _ _), ?fr⟩
          case fr => simp only [putO, layT_some, layT_none, layT_nil, List.setIfInBounds_toArray, List.set_cons_zero, List.set_cons_succ]
        · replace hge : 1 ≤ i := hgt
          clear hgt
          rcases Nat.lt_or_ge i 2 with hlt | hgt
          · replace hi := hlt
            clear hlt
            have he : i = 1 := Nat.le_antisymm (Nat.le_of_lt_succ hi) hge
            subst he
            rw [if_neg (hF.unst (by decide))] at hO2
            have hcc := (two_at (hO2)).1
            have cH60 := hcc.1
            have cH61 := hcc.2
            clear hcc
            refine step_of ⟨some 34, _, _, _, _, _⟩ rfl (fun K' hK => ?_)
            go_simp
            refine hK.out _ _ ⟨_, hF.pure hok hla hpre rfl (Below.refl _ _), ?fr⟩
            case fr => simp only [putO, layT_some, layT_none, layT_nil, List.setIfInBounds_toArray, List.set_cons_zero, List.set_cons_succ]
          · replace hge : 2 ≤ i := hgt
            clear hgt
            have he : i = 2 := Nat.le_antisymm (Nat.le_of_lt_succ hi) hge
            subst he
            have p0 := hpre 0 (by kernel_rfl)
            have e0 : s0 = .agg #[.string (numS zz), .string (denS zz)] := hF.get 0 _ rfl (.inr p0)
            subst e0
            have p1 := hpre 1 (by kernel_rfl)
            have e1 : s1 = .agg #[.string (numS TT), .string (denS TT)] := hF.get 1 _ rfl (.inr p1)
            subst e1
            refine step_of ⟨some 35, _, _, _, _, _⟩ rfl (fun K' hK => ?_)
            go_simp
            go_at_call 89
            (with_reducible refine (TD.out _ (HE0.out.kept hF.low HP.out)).mono ?_)
            rintro e Wq ⟨rfl, hq⟩
            refine hK.out _ _ ⟨_, hF.pure hok hla hpre rfl hq, ?fr⟩
            case fr => simp only [putO, layT_some, layT_none, layT_nil, List.setIfInBounds_toArray, List.set_cons_zero, List.set_cons_succ]
      · replace hge : 3 ≤ i := hgt
        clear hgt
        rcases Nat.lt_or_ge i 4 with hlt | hgt
        · replace hi := hlt
          clear hlt
          have he : i = 3 := Nat.le_antisymm (Nat.le_of_lt_succ hi) hge
          subst he
          rw [if_neg (hF.unst (by decide))] at hO1
          have hcc := (two_at (hO1)).1
          have cH50 := hcc.1
          have cH51 := hcc.2
          clear hcc
          refine step_of ⟨some 36, _, _, _, _, _⟩ rfl (fun K' hK => ?_)
          go_simp
          refine hK.out _ _ ⟨_, hF.pure hok hla hpre rfl (Below.refl _ _), ?fr⟩
          case fr => simp only [putO, layT_some, layT_none, layT_nil, List.setIfInBounds_toArray, List.set_cons_zero, List.set_cons_succ]
        · replace hge : 4 ≤ i := hgt
          clear hgt
          rcases Nat.lt_or_ge i 5 with hlt | hgt
          · replace hi := hlt
            clear hlt
            have he : i = 4 := Nat.le_antisymm (Nat.le_of_lt_succ hi) hge
            subst he
            have p2 := hpre 2 (by kernel_rfl)
            have e2 : s2 = .agg #[.string (numS dd), .string (denS dd)] := hF.get 2 _ rfl (.inr p2)
            subst e2
            have p3 := hpre 3 (by kernel_rfl)
            have e3 : s3 = .agg #[.string (numS q), .string (denS q)] := hF.get 3 _ rfl (.inr p3)
            subst e3
            refine step_of ⟨some 37, _, _, _, _, _⟩ rfl (fun K' hK => ?_)
            go_simp
            go_at_call 128
            (with_reducible refine (TS.out _ (HE0.out.kept hF.low HP.out)).mono ?_)
            rintro e Wq ⟨rfl, hq⟩
            refine hK.out _ _ ⟨_, hF.pure hok hla hpre rfl hq, ?fr⟩
            case fr => simp only [putO, layT_some, layT_none, layT_nil, List.setIfInBounds_toArray, List.set_cons_zero, List.set_cons_succ]
          · replace hge : 5 ≤ i := hgt
            clear hgt
            have he : i = 5 := Nat.le_antisymm (Nat.le_of_lt_succ hi) hge
            subst he
            have p4 := hpre 4 (by kernel_rfl)
            have e4 : s4 = .agg #[.string (numS rr), .string (denS rr)] := hF.get 4 _ rfl (.inr p4)
            subst e4
            rw [if_neg (bit_off hun)] at hO0
            have HGB := Lib.hid hO0
            obtain ⟨⟨y0, y1⟩, g0, g1⟩ := two_at HGB.out
            refine step_of ⟨none, _, _, _, _, _⟩ rfl (fun K' hK => ?_)
            go_simp
            refine hK.out _ _ ⟨undef, hF.put hok hna hpre hun rfl undef rfl (.inl (by decide)) rfl (set2_at HGB.out (.string (numS rr)) (.string (denS rr))) (fun k hk => set2_other _ _ (.string (numS rr)) (.string (denS rr)) hk) (put2_below gG0 _ (.string (numS rr)) (.string (denS rr))), ?fr⟩
            case fr => simp only [putO, layT_some, layT_none, layT_nil, List.setIfInBounds_toArray, List.set_cons_zero, List.set_cons_succ]
    case hd =>
      rintro listed vs WC hF hall
      obtain ⟨s0, s1, s2, s3, s4, s5, o0, o1, o2, o3, hvs⟩ := exl_of 10 vs (fun l => vs = l) hF.len rfl
      subst hvs
      obtain ⟨_, eG0, hg0, gG0, hO0⟩ : ∃ G, o0 = .pointer (some ⟨G, 0, none⟩) ∧ (∀ k, some (W.heap.size) = some k → G = k) ∧ W.heap.size ≤ G ∧ WC.heap[G]? = some (.cells (if listed.getD 5 false = true then #[.string (numS rr), .string (denS rr)] else #[.string { data := #[] }, .string { data := #[] }]) 24 (0, 0)) := hF.get 6 _ rfl (.inl (by decide))
      have hg0 := hg0 _ rfl
      subst hg0
      subst eG0
      obtain ⟨_, eG1, hg1, gG1, hO1⟩ : ∃ G, o1 = .pointer (some ⟨G, 0, none⟩) ∧ (∀ k, some (W1.heap.size) = some k → G = k) ∧ W.heap.size ≤ G ∧ WC.heap[G]? = some (.cells (if listed.getD 10 false = true then #[.string (numS q), .string (denS q)] else #[.string (numS q), .string (denS q)]) 24 (0, 0)) := hF.get 7 _ rfl (.inl (by decide))
      have hg1 := hg1 _ rfl
      subst hg1
      subst eG1
      obtain ⟨_, eG2, hg2, gG2, hO2⟩ : ∃ G, o2 = .pointer (some ⟨G, 0, none⟩) ∧ (∀ k, some (W5.heap.size) = some k → G = k) ∧ W.heap.size ≤ G ∧ WC.heap[G]? = some (.cells (if listed.getD 10 false = true then #[.string (numS TT), .string (denS TT)] else #[.string (numS TT), .string (denS TT)]) 24 (0, 0)) := hF.get 8 _ rfl (.inl (by decide))
      have hg2 := hg2 _ rfl
      subst hg2
      subst eG2
      obtain ⟨_, eG3, hg3, gG3, hO3⟩ : ∃ G, o3 = .pointer (some ⟨G, 0, none⟩) ∧ (∀ k, some (W6.heap.size) = some k → G = k) ∧ W.heap.size ≤ G ∧ WC.heap[G]? = some (.cells (if listed.getD 10 false = true then #[.string (numS zz), .string (denS zz)] else #[.string (numS zz), .string (denS zz)]) 24 (0, 0)) := hF.get 9 _ rfl (.inl (by decide))
      have hg3 := hg3 _ rfl
      subst hg3
      subst eG3
      rw [if_pos (hall 5 (by decide))] at hO0
      replace H4 := Lib.hid hO0
      clear hO0
      rw [if_neg (hF.unst (by decide))] at hO1
      replace H5 := Lib.hid hO1
      clear hO1
      rw [if_neg (hF.unst (by decide))] at hO2
      replace H6 := Lib.hid hO2
      clear hO2
      rw [if_neg (hF.unst (by decide))] at hO3
      replace H8 := Lib.hid hO3
      clear hO3
      have HQ := Lib.hid hF.low
      clear hF hall hok hna hla
      simp only [putO, layT_some, layT_none, layT_nil, List.setIfInBounds_toArray, List.set_cons_zero, List.set_cons_succ]
      replace HG := HQ
      clear HQ
      replace HE := Lib.hid (HE0.out.kept HG.out HP.out)
      obtain ⟨⟨x4_0, x4_1⟩, x4_f0, x4_f1⟩ := two_at H4.out
      go_wp2
      refine bodyPost_ret (v := .agg #[.string (numS rr), .string (denS rr)]) (by simp [results, Tryz.results74, go_sem, x4_0, x4_1]) rfl ⟨rfl, HG.out⟩

theorem fn_cutu2 (q k : Rat) (b g C : Nat) (W : World) (hq0 : fits q = true) (hq1 : fits k = true) (hk0 : -100 ≤ k.floor) (hk1 : k.floor ≤ 100) (hT : fits (tenR k.floor) = true) (hy : fits (absR q * tenR k.floor) = true) (hz : fits (((absR q * tenR k.floor).floor : Int) : Rat) = true) (hz1 : fits ((((absR q * tenR k.floor).floor : Int) : Rat) + 1) = true) (hd : fits ((((absR q * tenR k.floor).floor : Int) : Rat) / tenR k.floor) = true) (hd1 : fits (((((absR q * tenR k.floor).floor : Int) : Rat) + 1) / tenR k.floor) = true) (ha : ArgsAt W b (some ⟨g, 0, none⟩) 2 C 0) (hne : g ≠ b) (hc0 : NumCells W g (0 + 0 * 9) q) (hc1 : NumCells W g (0 + 1 * 9) k) (hE : Env W) (hP : Past b) :
    Calls Tryz.prog 74 #[.pointer (some ⟨b, 0, none⟩), .bool true] W fun e w' => e = .returned (fracV (cutR true q (k.floor))) ∧ W.grownBy w' (some b) := by
  by_cases h : (((absR q * tenR k.floor).floor : Int) : Rat) = absR q * tenR k.floor
  · exact fn_cutu2eq q k b g C W hq0 hq1 hk0 hk1 hT hy hz h hd ha hne hc0 hc1 hE hP
  · exact fn_cutu2ne q k b g C W hq0 hq1 hk0 hk1 hT hy hz h hz1 hd1 ha hne hc0 hc1 hE hP

set_option linter.unusedSimpArgs false in
set_option linter.unusedVariables false in
set_option maxHeartbeats 4000000 in
set_option maxRecDepth 100000 in
theorem fn_roundup (q k : Rat) (b g C : Nat) (W : World) (hq0 : fits q = true) (hq1 : fits k = true) (hk0 : -100 ≤ k.floor) (hk1 : k.floor ≤ 100) (hT : fits (tenR k.floor) = true) (hy : fits (absR q * tenR k.floor) = true) (hz : fits (((absR q * tenR k.floor).floor : Int) : Rat) = true) (hz1 : fits ((((absR q * tenR k.floor).floor : Int) : Rat) + 1) = true) (hd : fits ((((absR q * tenR k.floor).floor : Int) : Rat) / tenR k.floor) = true) (hd1 : fits (((((absR q * tenR k.floor).floor : Int) : Rat) + 1) / tenR k.floor) = true) (ha : ArgsAt W b (some ⟨g, 0, none⟩) 2 C 0) (hne : g ≠ b) (hc0 : NumCells W g (0 + 0 * 9) q) (hc1 : NumCells W g (0 + 1 * 9) k) (hE : Env W) (hP : Past b) :
    Calls Tryz.prog 73 #[.pointer (some ⟨b, 0, none⟩)] W fun e w' => e = .returned (fracV (cutR true q k.floor)) ∧ W.grownBy w' (some b) := by
  have T1 := Lib.hid (fun W' ga gc0 gc1 ge => fn_cutu2 q k b g C W' hq0 hq1 hk0 hk1 hT hy hz hz1 hd hd1 ga hne gc0 gc1 ge hP)
  obtain ⟨rr, hrr⟩ : ∃ z, cutR true q k.floor = z := ⟨_, rfl⟩
  rw [hrr] at T1 ⊢
  rw [fracV_is rr] at T1 ⊢
  have HP := Lib.hid hP
  have HE0 := Lib.hid hE
  have NG := Lib.hid hne
  have HBW := Lib.hid (heap_lt ha)
  have hb : Below W.heap.size W (W.alloc (.cells #[.string { data := #[] }, .string { data := #[] }] 24)) := (Below.refl _ _).alloc (Nat.le_refl _) _
  have HA := Lib.hid (show ArgsAt (W.alloc (.cells #[.string { data := #[] }, .string { data := #[] }] 24)) b (some ⟨g, 0, none⟩) 2 C 0 from keep_block ha hb)
  have HC0 := Lib.hid (NumCells.below hc0 hb)
  have HC1 := Lib.hid (NumCells.below hc1 hb)
  have HE := Lib.hid (hE.below hb)
  have HG := Lib.hid (kept_below (b := b) hb)
  have H2 := Lib.hid (heap_alloc_new W (.cells #[.string { data := #[] }, .string { data := #[] }] 24))
  have NE2 := Lib.hid (show W.heap.size ≠ b from Nat.ne_of_gt HBW.out)
  clear hb
  clear ha hE hP hne hc0 hc1 hrr hq0 hq1 hk0 hk1 hT hy hz hz1 hd hd1
  go_enter Tryz.func73, Tryz.ntmps73
  go_wp2_with fail
  refine (T1.out _ HA.out HC0.out HC1.out HE.out).mono ?_
  rintro e W1 ⟨rfl, hg⟩
  clear HA
  replace H2 := Lib.hid (kept_block H2.out hg NE2.out)
  replace HC0 := Lib.hid (HC0.out.kept hg NG.out)
  replace HC1 := Lib.hid (HC1.out.kept hg NG.out)
  replace HE := Lib.hid (HE.out.kept hg HP.out)
  replace HG := Lib.hid (kept_trans HG.out hg)
  clear hg
  obtain ⟨⟨x2_0, x2_1⟩, x2_f0, x2_f1⟩ := two_at H2.out
  have hF := set2_at H2.out (.string (numS rr)) (.string (denS rr))
  obtain ⟨⟨e0, e1⟩, _⟩ := two_at hF
  have HG2 := Lib.hid (kept2 HG.out (Nat.le_refl _) (.string (numS rr)) (.string (denS rr)))
  clear hF
  go_wp2
  refine bodyPost_ret (v := .agg #[.string (numS rr), .string (denS rr)]) (by simp [results, Tryz.results73, go_sem, e0, e1]) rfl ⟨rfl, HG2.out⟩

set_option linter.unusedSimpArgs false in
set_option linter.unusedVariables false in
set_option maxHeartbeats 4000000 in
set_option maxRecDepth 100000 in
theorem fn_rounddown (q k : Rat) (b g C : Nat) (W : World) (hq0 : fits q = true) (hq1 : fits k = true) (hk0 : -100 ≤ k.floor) (hk1 : k.floor ≤ 100) (hT : fits (tenR k.floor) = true) (hy : fits (absR q * tenR k.floor) = true) (hz : fits (((absR q * tenR k.floor).floor : Int) : Rat) = true) (hd : fits ((((absR q * tenR k.floor).floor : Int) : Rat) / tenR k.floor) = true) (ha : ArgsAt W b (some ⟨g, 0, none⟩) 2 C 0) (hne : g ≠ b) (hc0 : NumCells W g (0 + 0 * 9) q) (hc1 : NumCells W g (0 + 1 * 9) k) (hE : Env W) (hP : Past b) :
    Calls Tryz.prog 75 #[.pointer (some ⟨b, 0, none⟩)] W fun e w' => e = .returned (fracV (cutR false q k.floor)) ∧ W.grownBy w' (some b) := by
  have T1 := Lib.hid (fun W' ga gc0 gc1 ge => fn_cutd2 q k b g C W' hq0 hq1 hk0 hk1 hT hy hz hd ga hne gc0 gc1 ge hP)
  obtain ⟨rr, hrr⟩ : ∃ z, cutR false q k.floor = z := ⟨_, rfl⟩
  rw [hrr] at T1 ⊢
  rw [fracV_is rr] at T1 ⊢
  have HP := Lib.hid hP
  have HE0 := Lib.hid hE
  have NG := Lib.hid hne
  have HBW := Lib.hid (heap_lt ha)
  have hb : Below W.heap.size W (W.alloc (.cells #[.string { data := #[] }, .string { data := #[] }] 24)) := (Below.refl _ _).alloc (Nat.le_refl _) _
  have HA := Lib.hid (show ArgsAt (W.alloc (.cells #[.string { data := #[] }, .string { data := #[] }] 24)) b (some ⟨g, 0, none⟩) 2 C 0 from keep_block ha hb)
  have HC0 := Lib.hid (NumCells.below hc0 hb)
  have HC1 := Lib.hid (NumCells.below hc1 hb)
  have HE := Lib.hid (hE.below hb)
  have HG := Lib.hid (kept_below (b := b) hb)
  have H2 := Lib.hid (heap_alloc_new W (.cells #[.string { data := #[] }, .string { data := #[] }] 24))
  have NE2 := Lib.hid (show W.heap.size ≠ b from Nat.ne_of_gt HBW.out)
  clear hb
  clear ha hE hP hne hc0 hc1 hrr hq0 hq1 hk0 hk1 hT hy hz hd
  go_enter Tryz.func75, Tryz.ntmps75
  go_wp2_with fail
  refine (T1.out _ HA.out HC0.out HC1.out HE.out).mono ?_
  rintro e W1 ⟨rfl, hg⟩
  clear HA
  replace H2 := Lib.hid (kept_block H2.out hg NE2.out)
  replace HC0 := Lib.hid (HC0.out.kept hg NG.out)
  replace HC1 := Lib.hid (HC1.out.kept hg NG.out)
  replace HE := Lib.hid (HE.out.kept hg HP.out)
  replace HG := Lib.hid (kept_trans HG.out hg)
  clear hg
  obtain ⟨⟨x2_0, x2_1⟩, x2_f0, x2_f1⟩ := two_at H2.out
  have hF := set2_at H2.out (.string (numS rr)) (.string (denS rr))
  obtain ⟨⟨e0, e1⟩, _⟩ := two_at hF
  have HG2 := Lib.hid (kept2 HG.out (Nat.le_refl _) (.string (numS rr)) (.string (denS rr)))
  clear hF
  go_wp2
  refine bodyPost_ret (v := .agg #[.string (numS rr), .string (denS rr)]) (by simp [results, Tryz.results75, go_sem, e0, e1]) rfl ⟨rfl, HG2.out⟩

set_option linter.unusedSimpArgs false in
set_option linter.unusedVariables false in
set_option maxHeartbeats 4000000 in
set_option maxRecDepth 100000 in
theorem fn_trunc (q : Rat) (b g C : Nat) (W : World) (hq0 : fits q = true) (hT : fits (tenR 0) = true) (hy : fits (absR q * tenR 0) = true) (hz : fits (((absR q * tenR 0).floor : Int) : Rat) = true) (hd : fits ((((absR q * tenR 0).floor : Int) : Rat) / tenR 0) = true) (ha : ArgsAt W b (some ⟨g, 0, none⟩) 1 C 0) (hne : g ≠ b) (hc0 : NumCells W g (0 + 0 * 9) q) (hE : Env W) (hP : Past b) :
    Calls Tryz.prog 76 #[.pointer (some ⟨b, 0, none⟩)] W fun e w' => e = .returned (fracV (cutR false q 0)) ∧ W.grownBy w' (some b) := by
  have T1 := Lib.hid (fun W' ga gc0 ge => fn_cutd1 q b g C W' hq0 hT hy hz hd ga hne gc0 ge hP)
  obtain ⟨rr, hrr⟩ : ∃ z, cutR false q 0 = z := ⟨_, rfl⟩
  rw [hrr] at T1 ⊢
  rw [fracV_is rr] at T1 ⊢
  have HP := Lib.hid hP
  have HE0 := Lib.hid hE
  have NG := Lib.hid hne
  have HBW := Lib.hid (heap_lt ha)
  have hb : Below W.heap.size W (W.alloc (.cells #[.string { data := #[] }, .string { data := #[] }] 24)) := (Below.refl _ _).alloc (Nat.le_refl _) _
  have HA := Lib.hid (show ArgsAt (W.alloc (.cells #[.string { data := #[] }, .string { data := #[] }] 24)) b (some ⟨g, 0, none⟩) 1 C 0 from keep_block ha hb)
  have HC0 := Lib.hid (NumCells.below hc0 hb)
  have HE := Lib.hid (hE.below hb)
  have HG := Lib.hid (kept_below (b := b) hb)
  have H2 := Lib.hid (heap_alloc_new W (.cells #[.string { data := #[] }, .string { data := #[] }] 24))
  have NE2 := Lib.hid (show W.heap.size ≠ b from Nat.ne_of_gt HBW.out)
  clear hb
  clear ha hE hP hne hc0 hrr hq0 hT hy hz hd
  go_enter Tryz.func76, Tryz.ntmps76
  go_wp2_with fail
  refine (T1.out _ HA.out HC0.out HE.out).mono ?_
  rintro e W1 ⟨rfl, hg⟩
  clear HA
  replace H2 := Lib.hid (kept_block H2.out hg NE2.out)
  replace HC0 := Lib.hid (HC0.out.kept hg NG.out)
  replace HE := Lib.hid (HE.out.kept hg HP.out)
  replace HG := Lib.hid (kept_trans HG.out hg)
  clear hg
  obtain ⟨⟨x2_0, x2_1⟩, x2_f0, x2_f1⟩ := two_at H2.out
  have hF := set2_at H2.out (.string (numS rr)) (.string (denS rr))
  obtain ⟨⟨e0, e1⟩, _⟩ := two_at hF
  have HG2 := Lib.hid (kept2 HG.out (Nat.le_refl _) (.string (numS rr)) (.string (denS rr)))
  clear hF
  go_wp2
  refine bodyPost_ret (v := .agg #[.string (numS rr), .string (denS rr)]) (by simp [results, Tryz.results76, go_sem, e0, e1]) rfl ⟨rfl, HG2.out⟩

set_option linter.unusedVariables false in
/-- what the operations of region 7 yield -/
def LimdKs7 (W W2 : World) (q y nq dd ff mm rr : Rat) : List RK :=
  [.pure (.agg #[.string (numS y), .string (denS y)]),
   .pure (.agg #[.string (numS q), .string (denS q)]),
   .pure (.agg #[.string (numS y), .string (denS y)]),
   .pure (.agg #[.string (numS dd), .string (denS dd)]),
   .pure (.agg #[.string (numS ff), .string (denS ff)]),
   .pure (.agg #[.string (numS mm), .string (denS mm)]),
   .put 7,
   .box (some (W.heap.size)) #[.string { data := #[] }, .string { data := #[] }] #[.string (numS mm), .string (denS mm)] 24 6,
   .box (some (W2.heap.size)) #[.string (numS q), .string (denS q)] #[.string (numS q), .string (denS q)] 24 10,
   .box (some (W2.heap.size + 1)) #[.string (numS y), .string (denS y)] #[.string (numS y), .string (denS y)] 24 10]
set_option linter.unusedSimpArgs false in
set_option linter.unusedVariables false in
set_option maxHeartbeats 4000000 in
set_option maxRecDepth 100000 in
theorem fn_limd (q y : Rat) (b g C : Nat) (W : World) (hq0 : fits q = true) (hq1 : fits y = true) (hy0 : 0 < y) (h1 : fits (q / y) = true) (h2 : fits (((q / y).floor : Int) : Rat) = true) (h3 : fits (y * (((q / y).floor : Int) : Rat)) = true) (ha : ArgsAt W b (some ⟨g, 0, none⟩) 2 C 0) (hne : g ≠ b) (hc0 : NumCells W g (0 + 0 * 9) q) (hc1 : NumCells W g (0 + 1 * 9) y) (hE : Env W) (hP : Past b) :
    Calls Tryz.prog 81 #[.pointer (some ⟨b, 0, none⟩), .bool false] W fun e w' => e = .returned (fracV (y * (((q / y).floor : Int) : Rat))) ∧ W.grownBy w' (some b) := by
  have TN0 := Lib.hid (fun W' ga gc ge => argNum_any b g 0 2 C 0 q W' ga (by decide) (by decide) hne gc hq0 ge hP)
  rw [fracV_is q] at TN0
  have TN1 := Lib.hid (fun W' ga gc ge => argNum_any b g 0 2 C 1 y W' ga (by decide) (by decide) hne gc hq1 ge hP)
  rw [fracV_is y] at TN1
  have hab : absR y = y := if_neg (Rat.not_lt.2 (Rat.le_of_lt hy0))
  have hcm : cmpR y 0 = 1 := by
    unfold cmpR
    rw [if_neg (rat_ne hy0), if_neg (Rat.not_lt.2 (Rat.le_of_lt hy0))]
  have TA := Lib.hid (fun W g => fm_abs y W hq1 g)
  rw [hab] at TA
  have TSg := Lib.hid (fun W g => fm_sign y W hq1 g)
  rw [hcm] at TSg
  have TD := Lib.hid (fun W g => fm_div q y W hq0 hq1 (rat_ne hy0) h1 g)
  have TF := Lib.hid (fun W g => fm_floor (q / y) W h1 h2 g)
  have TM := Lib.hid (fun W g => fm_mul y (((q / y).floor : Int) : Rat) W hq1 h2 h3 g)
  obtain ⟨dd, hdd⟩ : ∃ z, q / y = z := ⟨_, rfl⟩
  rw [hdd] at TD TF TM ⊢
  obtain ⟨ff, hff⟩ : ∃ z, ((dd.floor : Int) : Rat) = z := ⟨_, rfl⟩
  rw [hff] at TF TM ⊢
  obtain ⟨mm, hmm⟩ : ∃ z, y * ff = z := ⟨_, rfl⟩
  rw [hmm] at TM ⊢
  rw [fracV_is y] at TA TSg TD TM
  rw [fracV_is q] at TD
  rw [fracV_is dd] at TD TF
  rw [fracV_is ff] at TF TM
  rw [fracV_is mm] at TM
  rw [fracV_is mm]
  have HP := Lib.hid hP
  have HE0 := Lib.hid hE
  have NG := Lib.hid hne
  have HBW := Lib.hid (heap_lt ha)
  have hb : Below W.heap.size W (W.alloc (.cells #[.string { data := #[] }, .string { data := #[] }] 24)) := (Below.refl _ _).alloc (Nat.le_refl _) _
  have HA := Lib.hid (show ArgsAt (W.alloc (.cells #[.string { data := #[] }, .string { data := #[] }] 24)) b (some ⟨g, 0, none⟩) 2 C 0 from keep_block ha hb)
  have HC0 := Lib.hid (NumCells.below hc0 hb)
  have HC1 := Lib.hid (NumCells.below hc1 hb)
  have HE := Lib.hid (hE.below hb)
  have HG := Lib.hid (kept_below (b := b) hb)
  have H4 := Lib.hid (heap_alloc_new W (.cells #[.string { data := #[] }, .string { data := #[] }] 24))
  have NE4 := Lib.hid (show W.heap.size ≠ b from Nat.ne_of_gt HBW.out)
  clear hb
  clear ha hE hP hne hc0 hc1 hq0 hq1 hy0 h1 h2 h3 hab hcm hdd hff hmm
  go_enter Tryz.func81, Tryz.ntmps81
  go_wp2_with fail
  refine (TN0.out _ HA.out HC0.out HE.out).mono ?_
  rintro e W1 ⟨rfl, ha, hg⟩
  replace HA := Lib.hid ha
  replace H4 := Lib.hid (kept_block H4.out hg NE4.out)
  replace HC0 := Lib.hid (HC0.out.kept hg NG.out)
  replace HC1 := Lib.hid (HC1.out.kept hg NG.out)
  replace HE := Lib.hid (HE.out.kept hg HP.out)
  replace HG := Lib.hid (kept_trans HG.out hg)
  clear ha hg
  go_wp2_with fail
  refine (TN1.out _ HA.out HC1.out HE.out).mono ?_
  rintro e W2 ⟨rfl, ha, hg⟩
  replace HA := Lib.hid ha
  replace H4 := Lib.hid (kept_block H4.out hg NE4.out)
  replace HC0 := Lib.hid (HC0.out.kept hg NG.out)
  replace HC1 := Lib.hid (HC1.out.kept hg NG.out)
  replace HE := Lib.hid (HE.out.kept hg HP.out)
  replace HG := Lib.hid (kept_trans HG.out hg)
  clear ha hg
  have L5_4 := Lib.hid (heap_lt H4.out)
  have G5 := Lib.hid (HG.out.size)
  have NE5 : Hid (W2.heap.size ≠ b) := Lib.hid (Nat.ne_of_gt (Nat.lt_of_lt_of_le HBW.out G5.out))
  have hb : Below W2.heap.size W2 (W2.alloc (.cells #[.string (numS q), .string (denS q)] 24)) := (Below.refl _ _).alloc (Nat.le_refl _) _
  replace H4 := Lib.hid (keep_block H4.out hb)
  replace HC0 := Lib.hid (NumCells.below HC0.out hb)
  replace HC1 := Lib.hid (NumCells.below HC1.out hb)
  replace HA := Lib.hid (keep_block HA.out hb)
  replace HE := Lib.hid (HE.out.below hb)
  replace HG := Lib.hid (kept_trans HG.out (kept_below hb))
  have H5 := Lib.hid (heap_alloc_new W2 (.cells #[.string (numS q), .string (denS q)] 24))
  clear hb
  have L6_4 := Lib.hid (show W.heap.size < W2.heap.size + 1 from by
    have h := heap_lt H4.out
    simp only [World.size_alloc] at h
    first | exact h | omega)
  have L6_5 := Lib.hid (show W2.heap.size < W2.heap.size + 1 from by
    have h := heap_lt H5.out
    simp only [World.size_alloc] at h
    first | exact h | omega)
  have G6 := Lib.hid (show W.heap.size ≤ W2.heap.size + 1 from by
    have h := HG.out.size
    simp only [World.size_alloc] at h
    first | exact h | omega)
  have NE6 : Hid (W2.heap.size + 1 ≠ b) := Lib.hid (Nat.ne_of_gt (Nat.lt_of_lt_of_le HBW.out G6.out))
  have hb : Below (W2.alloc (.cells #[.string (numS q), .string (denS q)] 24)).heap.size (W2.alloc (.cells #[.string (numS q), .string (denS q)] 24)) ((W2.alloc (.cells #[.string (numS q), .string (denS q)] 24)).alloc (.cells #[.string (numS y), .string (denS y)] 24)) := (Below.refl _ _).alloc (Nat.le_refl _) _
  replace H4 := Lib.hid (keep_block H4.out hb)
  replace H5 := Lib.hid (keep_block H5.out hb)
  replace HC0 := Lib.hid (NumCells.below HC0.out hb)
  replace HC1 := Lib.hid (NumCells.below HC1.out hb)
  replace HA := Lib.hid (keep_block HA.out hb)
  replace HE := Lib.hid (HE.out.below hb)
  replace HG := Lib.hid (kept_trans HG.out (kept_below hb))
  have H6 : Hid (((W2.alloc (.cells #[.string (numS q), .string (denS q)] 24)).alloc (.cells #[.string (numS y), .string (denS y)] 24)).heap[W2.heap.size + 1]? = some (.cells #[.string (numS y), .string (denS y)] 24 (0, 0))) := Lib.hid (by
    have h := heap_alloc_new (W2.alloc (.cells #[.string (numS q), .string (denS q)] 24)) (.cells #[.string (numS y), .string (denS y)] 24)
    simp only [World.size_alloc] at h
    exact h)
  clear hb
  clear HA HC0 HC1
  obtain ⟨⟨x6_0, x6_1⟩, x6_f0, x6_f1⟩ := two_at H6.out
  go_wp2_with fail
  refine (TA.out _ HE.out).mono ?_
  clear x6_0 x6_1 x6_f0 x6_f1
  rintro e W3 ⟨rfl, hb⟩
  replace H4 := Lib.hid (keep_block H4.out hb)
  replace H5 := Lib.hid (keep_block H5.out hb)
  replace H6 := Lib.hid (keep_block H6.out hb)
  replace HE := Lib.hid (HE.out.below hb)
  replace HG := Lib.hid (kept_trans HG.out (kept_below hb))
  clear hb
  obtain ⟨⟨x6_0, x6_1⟩, x6_f0, x6_f1⟩ := two_at H6.out
  have k4 : ((W3.setCell ⟨W2.heap.size + 1, 0, none⟩ (.string (numS y))).setCell ⟨W2.heap.size + 1, 1, none⟩ (.string (denS y))).heap[W.heap.size]? = some (.cells #[.string { data := #[] }, .string { data := #[] }] 24 (0, 0)) := (set2_other W3 (W2.heap.size + 1) (.string (numS y)) (.string (denS y)) (by have := L6_4.out; omega)).trans H4.out
  have k5 : ((W3.setCell ⟨W2.heap.size + 1, 0, none⟩ (.string (numS y))).setCell ⟨W2.heap.size + 1, 1, none⟩ (.string (denS y))).heap[W2.heap.size]? = some (.cells #[.string (numS q), .string (denS q)] 24 (0, 0)) := (set2_other W3 (W2.heap.size + 1) (.string (numS y)) (.string (denS y)) (by have := L6_5.out; omega)).trans H5.out
  have knew := set2_at H6.out (.string (numS y)) (.string (denS y))
  have kgr : W.grownBy ((W3.setCell ⟨W2.heap.size + 1, 0, none⟩ (.string (numS y))).setCell ⟨W2.heap.size + 1, 1, none⟩ (.string (denS y))) (some b) := below_only HG.out (put2_below G6.out W3 (.string (numS y)) (.string (denS y)))
  have kenv := HE0.out.kept kgr HP.out
  obtain ⟨WS1, hW⟩ : ∃ Z, ((W3.setCell ⟨W2.heap.size + 1, 0, none⟩ (.string (numS y))).setCell ⟨W2.heap.size + 1, 1, none⟩ (.string (denS y))) = Z := ⟨_, rfl⟩
  rw [hW] at knew kgr kenv k4 k5
  have EWS1 := Lib.hid hW
  replace H6 := Lib.hid knew
  replace HG := Lib.hid kgr
  replace HE := Lib.hid kenv
  replace H4 := Lib.hid k4
  replace H5 := Lib.hid k5
  clear hW knew kgr kenv k4 k5
  obtain ⟨⟨x6_0, x6_1⟩, x6_f0, x6_f1⟩ := two_at H6.out
  go_wp2_with fail
  rw [EWS1.out]
  clear x6_0 x6_1 x6_f0 x6_f1
  refine (TSg.out _ HE.out).mono ?_
  clear x6_0 x6_1 x6_f0 x6_f1
  rintro e W4 ⟨rfl, hb⟩
  replace H4 := Lib.hid (keep_block H4.out hb)
  replace H5 := Lib.hid (keep_block H5.out hb)
  replace H6 := Lib.hid (keep_block H6.out hb)
  replace HE := Lib.hid (HE.out.below hb)
  replace HG := Lib.hid (kept_trans HG.out (kept_below hb))
  clear hb
  go_wp2_with fail
  have := L5_4.out
  have := L6_4.out
  have := L6_5.out
  have := HG.out.size
  have := G5.out
  have := G6.out
  have hok : okB 7 (LimdKs7 W W2 q y q dd ff mm mm) = true := by kernel_rfl
  have hna := noAny_of (ks := (LimdKs7 W W2 q y q dd ff mm mm)) (by kernel_rfl)
  have hla := lasts_of hna
  refine wp_region_facts (row := (some b)) (w := W) 7 (LimdKs7 W W2 q y q dd ff mm mm) [some 26, some 27, some 28, some 29, some 30, some 31, none] (by kernel_rfl) (by kernel_rfl) rfl [undef, undef, undef, undef, undef, undef, undef, .pointer (some ⟨W.heap.size, 0, none⟩), .pointer (some ⟨W2.heap.size, 0, none⟩), .pointer (some ⟨W2.heap.size + 1, 0, none⟩)] ?h00 (Fs.start_olds hla rfl HG.out ⟨⟨_, rfl, fun _ h => Option.some.inj h, by omega, H4.out⟩, fun _ => ⟨fun _ => far_of (by omega), fun _ => far_of (by omega), trivial⟩, ⟨⟨_, rfl, fun _ h => Option.some.inj h, by omega, H5.out⟩, fun _ => ⟨fun _ => far_of (by omega), trivial⟩, ⟨⟨_, rfl, fun _ h => Option.some.inj h, by omega, H6.out⟩, fun _ => trivial, trivial⟩⟩⟩) ?hs ?hd
  case h00 => simp only [putO, layT_some, layT_none, layT_nil, List.setIfInBounds_toArray, List.set_cons_zero, List.set_cons_succ]
  case hs =>
    rintro listed vs Wr hF i hi hun hpre
    obtain ⟨s0, s1, s2, s3, s4, s5, s6, o0, o1, o2, hvs⟩ := exl_of 10 vs (fun l => vs = l) hF.len rfl
    subst hvs
    obtain ⟨_, eG0, hg0, gG0, hO0⟩ : ∃ G, o0 = .pointer (some ⟨G, 0, none⟩) ∧ (∀ k, some (W.heap.size) = some k → G = k) ∧ W.heap.size ≤ G ∧ Wr.heap[G]? = some (.cells (if listed.getD 6 false = true then #[.string (numS mm), .string (denS mm)] else #[.string { data := #[] }, .string { data := #[] }]) 24 (0, 0)) := hF.get 7 _ rfl (.inl (by decide))
    have hg0 := hg0 _ rfl
    subst hg0
    subst eG0
    obtain ⟨_, eG1, hg1, gG1, hO1⟩ : ∃ G, o1 = .pointer (some ⟨G, 0, none⟩) ∧ (∀ k, some (W2.heap.size) = some k → G = k) ∧ W.heap.size ≤ G ∧ Wr.heap[G]? = some (.cells (if listed.getD 10 false = true then #[.string (numS q), .string (denS q)] else #[.string (numS q), .string (denS q)]) 24 (0, 0)) := hF.get 8 _ rfl (.inl (by decide))
    have hg1 := hg1 _ rfl
    subst hg1
    subst eG1
    obtain ⟨_, eG2, hg2, gG2, hO2⟩ : ∃ G, o2 = .pointer (some ⟨G, 0, none⟩) ∧ (∀ k, some (W2.heap.size + 1) = some k → G = k) ∧ W.heap.size ≤ G ∧ Wr.heap[G]? = some (.cells (if listed.getD 10 false = true then #[.string (numS y), .string (denS y)] else #[.string (numS y), .string (denS y)]) 24 (0, 0)) := hF.get 9 _ rfl (.inl (by decide))
    have hg2 := hg2 _ rfl
    subst hg2
    subst eG2
    have hge := Nat.zero_le i
    simp only [putO, layT_some, layT_none, layT_nil, List.setIfInBounds_toArray, List.set_cons_zero, List.set_cons_succ]
    rcases Nat.lt_or_ge i 3 with hlt | hgt
    · replace hi := hlt
      clear hlt
      rcases Nat.lt_or_ge i 1 with hlt | hgt
      · replace hi := hlt
        clear hlt
        have he : i = 0 := Nat.le_antisymm (Nat.le_of_lt_succ hi) hge
        subst he
        rw [if_neg (hF.unst (by decide))] at hO2
        have hcc := (two_at (hO2)).1
        have cH60 := hcc.1
        have cH61 := hcc.2
        clear hcc
        refine step_of ⟨some 26, _, _, _, _, _⟩ rfl (fun K' hK => ?_)
        go_simp
        refine hK.out _ _ ⟨_, hF.pure hok hla hpre rfl (Below.refl _ _), ?fr⟩
        case fr => simp only [putO, layT_some, layT_none, layT_nil, List.setIfInBounds_toArray, List.set_cons_zero, List.set_cons_succ]
      · replace hge : 1 ≤ i := hgt
        clear hgt
        rcases Nat.lt_or_ge i 2 with hlt | hgt
        · replace hi := hlt
          clear hlt
          have he : i = 1 := Nat.le_antisymm (Nat.le_of_lt_succ hi) hge
          subst he
          rw [if_neg (hF.unst (by decide))] at hO1
          have hcc := (two_at (hO1)).1
          have cH50 := hcc.1
          have cH51 := hcc.2
          clear hcc
          refine step_of ⟨some 27, _, _, _, _, _⟩ rfl (fun K' hK => ?_)
          go_simp
          refine hK.out _ _ ⟨_, hF.pure hok hla hpre rfl (Below.refl _ _), ?fr⟩
          case fr => simp only [putO, layT_some, layT_none, layT_nil, List.setIfInBounds_toArray, List.set_cons_zero, List.set_cons_succ]
        · replace hge : 2 ≤ i := hgt
          clear hgt
          have he : i = 2 := Nat.le_antisymm (Nat.le_of_lt_succ hi) hge
          subst he
          rw [if_neg (hF.unst (by decide))] at hO2
          have hcc := (two_at (hO2)).1
          have cH60 := hcc.1
          have cH61 := hcc.2
          clear hcc
          refine step_of ⟨some 28, _, _, _, _, _⟩ rfl (fun K' hK => ?_)
          go_simp
          refine hK.out _ _ ⟨_, hF.pure hok hla hpre rfl (Below.refl _ _), ?fr⟩
          case fr => simp only [putO, layT_some, layT_none, layT_nil, List.setIfInBounds_toArray, List.set_cons_zero, List.set_cons_succ]
    · replace hge : 3 ≤ i := hgt
      clear hgt
      rcases Nat.lt_or_ge i 5 with hlt | hgt
      · replace hi := hlt
        clear hlt
        rcases Nat.lt_or_ge i 4 with hlt | hgt
        · replace hi := hlt
          clear hlt
          have he : i = 3 := Nat.le_antisymm (Nat.le_of_lt_succ hi) hge
          subst he
          have p1 := hpre 1 (by kernel_rfl)
          have e1 : s1 = .agg #[.string (numS q), .string (denS q)] := hF.get 1 _ rfl (.inr p1)
          subst e1
          have p2 := hpre 2 (by kernel_rfl)
          have e2 : s2 = .agg #[.string (numS y), .string (denS y)] := hF.get 2 _ rfl (.inr p2)
          subst e2
          refine step_of ⟨some 29, _, _, _, _, _⟩ rfl (fun K' hK => ?_)
          go_simp
          go_at_call 89
          (with_reducible refine (TD.out _ (HE0.out.kept hF.low HP.out)).mono ?_)
          rintro e Wq ⟨rfl, hq⟩
          refine hK.out _ _ ⟨_, hF.pure hok hla hpre rfl hq, ?fr⟩
          case fr => simp only [putO, layT_some, layT_none, layT_nil, List.setIfInBounds_toArray, List.set_cons_zero, List.set_cons_succ]
        · replace hge : 4 ≤ i := hgt
          clear hgt
          have he : i = 4 := Nat.le_antisymm (Nat.le_of_lt_succ hi) hge
          subst he
          have p3 := hpre 3 (by kernel_rfl)
          have e3 : s3 = .agg #[.string (numS dd), .string (denS dd)] := hF.get 3 _ rfl (.inr p3)
          subst e3
          refine step_of ⟨some 30, _, _, _, _, _⟩ rfl (fun K' hK => ?_)
          go_simp
          go_at_call 71
          (with_reducible refine (TF.out _ (HE0.out.kept hF.low HP.out)).mono ?_)
          rintro e Wq ⟨rfl, hq⟩
          refine hK.out _ _ ⟨_, hF.pure hok hla hpre rfl hq, ?fr⟩
          case fr => simp only [putO, layT_some, layT_none, layT_nil, List.setIfInBounds_toArray, List.set_cons_zero, List.set_cons_succ]
      · replace hge : 5 ≤ i := hgt
        clear hgt
        rcases Nat.lt_or_ge i 6 with hlt | hgt
        · replace hi := hlt
          clear hlt
          have he : i = 5 := Nat.le_antisymm (Nat.le_of_lt_succ hi) hge
          subst he
          have p0 := hpre 0 (by kernel_rfl)
          have e0 : s0 = .agg #[.string (numS y), .string (denS y)] := hF.get 0 _ rfl (.inr p0)
          subst e0
          have p4 := hpre 4 (by kernel_rfl)
          have e4 : s4 = .agg #[.string (numS ff), .string (denS ff)] := hF.get 4 _ rfl (.inr p4)
          subst e4
          refine step_of ⟨some 31, _, _, _, _, _⟩ rfl (fun K' hK => ?_)
          go_simp
          go_at_call 126
          (with_reducible refine (TM.out _ (HE0.out.kept hF.low HP.out)).mono ?_)
          rintro e Wq ⟨rfl, hq⟩
          refine hK.out _ _ ⟨_, hF.pure hok hla hpre rfl hq, ?fr⟩
          case fr => simp only [putO, layT_some, layT_none, layT_nil, List.setIfInBounds_toArray, List.set_cons_zero, List.set_cons_succ]
        · replace hge : 6 ≤ i := hgt
          clear hgt
          have he : i = 6 := Nat.le_antisymm (Nat.le_of_lt_succ hi) hge
          subst he
          have p5 := hpre 5 (by kernel_rfl)
          have e5 : s5 = .agg #[.string (numS mm), .string (denS mm)] := hF.get 5 _ rfl (.inr p5)
          subst e5
          rw [if_neg (bit_off hun)] at hO0
          have HGB := Lib.hid hO0
          obtain ⟨⟨y0, y1⟩, g0, g1⟩ := two_at HGB.out
          refine step_of ⟨none, _, _, _, _, _⟩ rfl (fun K' hK => ?_)
          go_simp
          refine hK.out _ _ ⟨undef, hF.put hok hna hpre hun rfl undef rfl (.inl (by decide)) rfl (set2_at HGB.out (.string (numS mm)) (.string (denS mm))) (fun k hk => set2_other _ _ (.string (numS mm)) (.string (denS mm)) hk) (put2_below gG0 _ (.string (numS mm)) (.string (denS mm))), ?fr⟩
          case fr => simp only [putO, layT_some, layT_none, layT_nil, List.setIfInBounds_toArray, List.set_cons_zero, List.set_cons_succ]
  case hd =>
    rintro listed vs WC hF hall
    obtain ⟨s0, s1, s2, s3, s4, s5, s6, o0, o1, o2, hvs⟩ := exl_of 10 vs (fun l => vs = l) hF.len rfl
    subst hvs
    obtain ⟨_, eG0, hg0, gG0, hO0⟩ : ∃ G, o0 = .pointer (some ⟨G, 0, none⟩) ∧ (∀ k, some (W.heap.size) = some k → G = k) ∧ W.heap.size ≤ G ∧ WC.heap[G]? = some (.cells (if listed.getD 6 false = true then #[.string (numS mm), .string (denS mm)] else #[.string { data := #[] }, .string { data := #[] }]) 24 (0, 0)) := hF.get 7 _ rfl (.inl (by decide))
    have hg0 := hg0 _ rfl
    subst hg0
    subst eG0
    obtain ⟨_, eG1, hg1, gG1, hO1⟩ : ∃ G, o1 = .pointer (some ⟨G, 0, none⟩) ∧ (∀ k, some (W2.heap.size) = some k → G = k) ∧ W.heap.size ≤ G ∧ WC.heap[G]? = some (.cells (if listed.getD 10 false = true then #[.string (numS q), .string (denS q)] else #[.string (numS q), .string (denS q)]) 24 (0, 0)) := hF.get 8 _ rfl (.inl (by decide))
    have hg1 := hg1 _ rfl
    subst hg1
    subst eG1
    obtain ⟨_, eG2, hg2, gG2, hO2⟩ : ∃ G, o2 = .pointer (some ⟨G, 0, none⟩) ∧ (∀ k, some (W2.heap.size + 1) = some k → G = k) ∧ W.heap.size ≤ G ∧ WC.heap[G]? = some (.cells (if listed.getD 10 false = true then #[.string (numS y), .string (denS y)] else #[.string (numS y), .string (denS y)]) 24 (0, 0)) := hF.get 9 _ rfl (.inl (by decide))
    have hg2 := hg2 _ rfl
    subst hg2
    subst eG2
    rw [if_pos (hall 6 (by decide))] at hO0
    replace H4 := Lib.hid hO0
    clear hO0
    rw [if_neg (hF.unst (by decide))] at hO1
    replace H5 := Lib.hid hO1
    clear hO1
    rw [if_neg (hF.unst (by decide))] at hO2
    replace H6 := Lib.hid hO2
    clear hO2
    have HQ := Lib.hid hF.low
    clear hF hall hok hna hla
    simp only [putO, layT_some, layT_none, layT_nil, List.setIfInBounds_toArray, List.set_cons_zero, List.set_cons_succ]
    replace HG := HQ
    clear HQ
    replace HE := Lib.hid (HE0.out.kept HG.out HP.out)
    obtain ⟨⟨x4_0, x4_1⟩, x4_f0, x4_f1⟩ := two_at H4.out
    go_wp2
    refine bodyPost_ret (v := .agg #[.string (numS mm), .string (denS mm)]) (by simp [results, Tryz.results81, go_sem, x4_0, x4_1]) rfl ⟨rfl, HG.out⟩

set_option linter.unusedVariables false in
/-- what the operations of region 6 yield -/
def LimuKs6 (W W2 : World) (q y nq dd ff mm rr : Rat) : List RK :=
  [.pure (.agg #[.string (numS y), .string (denS y)]),
   .pure (.agg #[.string (numS q), .string (denS q)]),
   .pure (.agg #[.string (numS nq), .string (denS nq)]),
   .pure (.agg #[.string (numS y), .string (denS y)]),
   .pure (.agg #[.string (numS dd), .string (denS dd)]),
   .pure (.agg #[.string (numS ff), .string (denS ff)]),
   .pure (.agg #[.string (numS mm), .string (denS mm)]),
   .pure (.agg #[.string (numS rr), .string (denS rr)]),
   .put 9,
   .box (some (W.heap.size)) #[.string { data := #[] }, .string { data := #[] }] #[.string (numS rr), .string (denS rr)] 24 8,
   .box (some (W2.heap.size)) #[.string (numS q), .string (denS q)] #[.string (numS q), .string (denS q)] 24 12,
   .box (some (W2.heap.size + 1)) #[.string (numS y), .string (denS y)] #[.string (numS y), .string (denS y)] 24 12]
set_option linter.unusedSimpArgs false in
set_option linter.unusedVariables false in
set_option maxHeartbeats 4000000 in
set_option maxRecDepth 100000 in
theorem fn_limu (q y : Rat) (b g C : Nat) (W : World) (hq0 : fits q = true) (hq1 : fits y = true) (hy0 : 0 < y) (h1 : fits ((-q) / y) = true) (h2 : fits ((((-q) / y).floor : Int) : Rat) = true) (h3 : fits (y * ((((-q) / y).floor : Int) : Rat)) = true) (ha : ArgsAt W b (some ⟨g, 0, none⟩) 2 C 0) (hne : g ≠ b) (hc0 : NumCells W g (0 + 0 * 9) q) (hc1 : NumCells W g (0 + 1 * 9) y) (hE : Env W) (hP : Past b) :
    Calls Tryz.prog 81 #[.pointer (some ⟨b, 0, none⟩), .bool true] W fun e w' => e = .returned (fracV (-(y * ((((-q) / y).floor : Int) : Rat)))) ∧ W.grownBy w' (some b) := by
  have TN0 := Lib.hid (fun W' ga gc ge => argNum_any b g 0 2 C 0 q W' ga (by decide) (by decide) hne gc hq0 ge hP)
  rw [fracV_is q] at TN0
  have TN1 := Lib.hid (fun W' ga gc ge => argNum_any b g 0 2 C 1 y W' ga (by decide) (by decide) hne gc hq1 ge hP)
  rw [fracV_is y] at TN1
  have hab : absR y = y := if_neg (Rat.not_lt.2 (Rat.le_of_lt hy0))
  have hcm : cmpR y 0 = 1 := by
    unfold cmpR
    rw [if_neg (rat_ne hy0), if_neg (Rat.not_lt.2 (Rat.le_of_lt hy0))]
  have TA := Lib.hid (fun W g => fm_abs y W hq1 g)
  rw [hab] at TA
  have TSg := Lib.hid (fun W g => fm_sign y W hq1 g)
  rw [hcm] at TSg
  have TN := Lib.hid (fun W g => fm_neg q W hq0 g)
  have TD := Lib.hid (fun W g => fm_div (-q) y W (by rw [fits_neg]; exact hq0) hq1 (rat_ne hy0) h1 g)
  have TN2 := Lib.hid (fun W g => fm_neg (y * ((((-q) / y).floor : Int) : Rat)) W h3 g)
  have TF := Lib.hid (fun W g => fm_floor ((-q) / y) W h1 h2 g)
  have TM := Lib.hid (fun W g => fm_mul y ((((-q) / y).floor : Int) : Rat) W hq1 h2 h3 g)
  obtain ⟨nq, hnq⟩ : ∃ z, -q = z := ⟨_, rfl⟩
  rw [hnq] at TN TD TF TM TN2 ⊢
  obtain ⟨dd, hdd⟩ : ∃ z, nq / y = z := ⟨_, rfl⟩
  rw [hdd] at TD TF TM TN2 ⊢
  obtain ⟨ff, hff⟩ : ∃ z, ((dd.floor : Int) : Rat) = z := ⟨_, rfl⟩
  rw [hff] at TF TM TN2 ⊢
  obtain ⟨mm, hmm⟩ : ∃ z, y * ff = z := ⟨_, rfl⟩
  rw [hmm] at TM TN2 ⊢
  obtain ⟨rr, hrr⟩ : ∃ z, -mm = z := ⟨_, rfl⟩
  rw [hrr] at TN2 ⊢
  rw [fracV_is y] at TA TSg TD TM
  rw [fracV_is q] at TN
  rw [fracV_is dd] at TD TF
  rw [fracV_is ff] at TF TM
  rw [fracV_is mm] at TM TN2
  rw [fracV_is rr] at TN2 ⊢
  rw [fracV_is nq] at TN TD
  have HP := Lib.hid hP
  have HE0 := Lib.hid hE
  have NG := Lib.hid hne
  have HBW := Lib.hid (heap_lt ha)
  have hb : Below W.heap.size W (W.alloc (.cells #[.string { data := #[] }, .string { data := #[] }] 24)) := (Below.refl _ _).alloc (Nat.le_refl _) _
  have HA := Lib.hid (show ArgsAt (W.alloc (.cells #[.string { data := #[] }, .string { data := #[] }] 24)) b (some ⟨g, 0, none⟩) 2 C 0 from keep_block ha hb)
  have HC0 := Lib.hid (NumCells.below hc0 hb)
  have HC1 := Lib.hid (NumCells.below hc1 hb)
  have HE := Lib.hid (hE.below hb)
  have HG := Lib.hid (kept_below (b := b) hb)
  have H4 := Lib.hid (heap_alloc_new W (.cells #[.string { data := #[] }, .string { data := #[] }] 24))
  have NE4 := Lib.hid (show W.heap.size ≠ b from Nat.ne_of_gt HBW.out)
  clear hb
  clear ha hE hP hne hc0 hc1 hq0 hq1 hy0 h1 h2 h3 hab hcm hdd hff hmm hnq hrr
  go_enter Tryz.func81, Tryz.ntmps81
  go_wp2_with fail
  refine (TN0.out _ HA.out HC0.out HE.out).mono ?_
  rintro e W1 ⟨rfl, ha, hg⟩
  replace HA := Lib.hid ha
  replace H4 := Lib.hid (kept_block H4.out hg NE4.out)
  replace HC0 := Lib.hid (HC0.out.kept hg NG.out)
  replace HC1 := Lib.hid (HC1.out.kept hg NG.out)
  replace HE := Lib.hid (HE.out.kept hg HP.out)
  replace HG := Lib.hid (kept_trans HG.out hg)
  clear ha hg
  go_wp2_with fail
  refine (TN1.out _ HA.out HC1.out HE.out).mono ?_
  rintro e W2 ⟨rfl, ha, hg⟩
  replace HA := Lib.hid ha
  replace H4 := Lib.hid (kept_block H4.out hg NE4.out)
  replace HC0 := Lib.hid (HC0.out.kept hg NG.out)
  replace HC1 := Lib.hid (HC1.out.kept hg NG.out)
  replace HE := Lib.hid (HE.out.kept hg HP.out)
  replace HG := Lib.hid (kept_trans HG.out hg)
  clear ha hg
  have L5_4 := Lib.hid (heap_lt H4.out)
  have G5 := Lib.hid (HG.out.size)
  have NE5 : Hid (W2.heap.size ≠ b) := Lib.hid (Nat.ne_of_gt (Nat.lt_of_lt_of_le HBW.out G5.out))
  have hb : Below W2.heap.size W2 (W2.alloc (.cells #[.string (numS q), .string (denS q)] 24)) := (Below.refl _ _).alloc (Nat.le_refl _) _
  replace H4 := Lib.hid (keep_block H4.out hb)
  replace HC0 := Lib.hid (NumCells.below HC0.out hb)
  replace HC1 := Lib.hid (NumCells.below HC1.out hb)
  replace HA := Lib.hid (keep_block HA.out hb)
  replace HE := Lib.hid (HE.out.below hb)
  replace HG := Lib.hid (kept_trans HG.out (kept_below hb))
  have H5 := Lib.hid (heap_alloc_new W2 (.cells #[.string (numS q), .string (denS q)] 24))
  clear hb
  have L6_4 := Lib.hid (show W.heap.size < W2.heap.size + 1 from by
    have h := heap_lt H4.out
    simp only [World.size_alloc] at h
    first | exact h | omega)
  have L6_5 := Lib.hid (show W2.heap.size < W2.heap.size + 1 from by
    have h := heap_lt H5.out
    simp only [World.size_alloc] at h
    first | exact h | omega)
  have G6 := Lib.hid (show W.heap.size ≤ W2.heap.size + 1 from by
    have h := HG.out.size
    simp only [World.size_alloc] at h
    first | exact h | omega)
  have NE6 : Hid (W2.heap.size + 1 ≠ b) := Lib.hid (Nat.ne_of_gt (Nat.lt_of_lt_of_le HBW.out G6.out))
  have hb : Below (W2.alloc (.cells #[.string (numS q), .string (denS q)] 24)).heap.size (W2.alloc (.cells #[.string (numS q), .string (denS q)] 24)) ((W2.alloc (.cells #[.string (numS q), .string (denS q)] 24)).alloc (.cells #[.string (numS y), .string (denS y)] 24)) := (Below.refl _ _).alloc (Nat.le_refl _) _
  replace H4 := Lib.hid (keep_block H4.out hb)
  replace H5 := Lib.hid (keep_block H5.out hb)
  replace HC0 := Lib.hid (NumCells.below HC0.out hb)
  replace HC1 := Lib.hid (NumCells.below HC1.out hb)
  replace HA := Lib.hid (keep_block HA.out hb)
  replace HE := Lib.hid (HE.out.below hb)
  replace HG := Lib.hid (kept_trans HG.out (kept_below hb))
  have H6 : Hid (((W2.alloc (.cells #[.string (numS q), .string (denS q)] 24)).alloc (.cells #[.string (numS y), .string (denS y)] 24)).heap[W2.heap.size + 1]? = some (.cells #[.string (numS y), .string (denS y)] 24 (0, 0))) := Lib.hid (by
    have h := heap_alloc_new (W2.alloc (.cells #[.string (numS q), .string (denS q)] 24)) (.cells #[.string (numS y), .string (denS y)] 24)
    simp only [World.size_alloc] at h
    exact h)
  clear hb
  clear HA HC0 HC1
  obtain ⟨⟨x6_0, x6_1⟩, x6_f0, x6_f1⟩ := two_at H6.out
  go_wp2_with fail
  refine (TA.out _ HE.out).mono ?_
  clear x6_0 x6_1 x6_f0 x6_f1
  rintro e W3 ⟨rfl, hb⟩
  replace H4 := Lib.hid (keep_block H4.out hb)
  replace H5 := Lib.hid (keep_block H5.out hb)
  replace H6 := Lib.hid (keep_block H6.out hb)
  replace HE := Lib.hid (HE.out.below hb)
  replace HG := Lib.hid (kept_trans HG.out (kept_below hb))
  clear hb
  obtain ⟨⟨x6_0, x6_1⟩, x6_f0, x6_f1⟩ := two_at H6.out
  have k4 : ((W3.setCell ⟨W2.heap.size + 1, 0, none⟩ (.string (numS y))).setCell ⟨W2.heap.size + 1, 1, none⟩ (.string (denS y))).heap[W.heap.size]? = some (.cells #[.string { data := #[] }, .string { data := #[] }] 24 (0, 0)) := (set2_other W3 (W2.heap.size + 1) (.string (numS y)) (.string (denS y)) (by have := L6_4.out; omega)).trans H4.out
  have k5 : ((W3.setCell ⟨W2.heap.size + 1, 0, none⟩ (.string (numS y))).setCell ⟨W2.heap.size + 1, 1, none⟩ (.string (denS y))).heap[W2.heap.size]? = some (.cells #[.string (numS q), .string (denS q)] 24 (0, 0)) := (set2_other W3 (W2.heap.size + 1) (.string (numS y)) (.string (denS y)) (by have := L6_5.out; omega)).trans H5.out
  have knew := set2_at H6.out (.string (numS y)) (.string (denS y))
  have kgr : W.grownBy ((W3.setCell ⟨W2.heap.size + 1, 0, none⟩ (.string (numS y))).setCell ⟨W2.heap.size + 1, 1, none⟩ (.string (denS y))) (some b) := below_only HG.out (put2_below G6.out W3 (.string (numS y)) (.string (denS y)))
  have kenv := HE0.out.kept kgr HP.out
  obtain ⟨WS1, hW⟩ : ∃ Z, ((W3.setCell ⟨W2.heap.size + 1, 0, none⟩ (.string (numS y))).setCell ⟨W2.heap.size + 1, 1, none⟩ (.string (denS y))) = Z := ⟨_, rfl⟩
  rw [hW] at knew kgr kenv k4 k5
  have EWS1 := Lib.hid hW
  replace H6 := Lib.hid knew
  replace HG := Lib.hid kgr
  replace HE := Lib.hid kenv
  replace H4 := Lib.hid k4
  replace H5 := Lib.hid k5
  clear hW knew kgr kenv k4 k5
  obtain ⟨⟨x6_0, x6_1⟩, x6_f0, x6_f1⟩ := two_at H6.out
  go_wp2_with fail
  rw [EWS1.out]
  clear x6_0 x6_1 x6_f0 x6_f1
  refine (TSg.out _ HE.out).mono ?_
  clear x6_0 x6_1 x6_f0 x6_f1
  rintro e W4 ⟨rfl, hb⟩
  replace H4 := Lib.hid (keep_block H4.out hb)
  replace H5 := Lib.hid (keep_block H5.out hb)
  replace H6 := Lib.hid (keep_block H6.out hb)
  replace HE := Lib.hid (HE.out.below hb)
  replace HG := Lib.hid (kept_trans HG.out (kept_below hb))
  clear hb
  go_wp2_with fail
  have := L5_4.out
  have := L6_4.out
  have := L6_5.out
  have := HG.out.size
  have := G5.out
  have := G6.out
  have hok : okB 9 (LimuKs6 W W2 q y nq dd ff mm rr) = true := by kernel_rfl
  have hna := noAny_of (ks := (LimuKs6 W W2 q y nq dd ff mm rr)) (by kernel_rfl)
  have hla := lasts_of hna
  refine wp_region_facts (row := (some b)) (w := W) 9 (LimuKs6 W W2 q y nq dd ff mm rr) [some 18, some 19, some 20, some 21, some 22, some 23, some 24, some 25, none] (by kernel_rfl) (by kernel_rfl) rfl [undef, undef, undef, undef, undef, undef, undef, undef, undef, .pointer (some ⟨W.heap.size, 0, none⟩), .pointer (some ⟨W2.heap.size, 0, none⟩), .pointer (some ⟨W2.heap.size + 1, 0, none⟩)] ?h00 (Fs.start_olds hla rfl HG.out ⟨⟨_, rfl, fun _ h => Option.some.inj h, by omega, H4.out⟩, fun _ => ⟨fun _ => far_of (by omega), fun _ => far_of (by omega), trivial⟩, ⟨⟨_, rfl, fun _ h => Option.some.inj h, by omega, H5.out⟩, fun _ => ⟨fun _ => far_of (by omega), trivial⟩, ⟨⟨_, rfl, fun _ h => Option.some.inj h, by omega, H6.out⟩, fun _ => trivial, trivial⟩⟩⟩) ?hs ?hd
  case h00 => simp only [putO, layT_some, layT_none, layT_nil, List.setIfInBounds_toArray, List.set_cons_zero, List.set_cons_succ]
  case hs =>
    rintro listed vs Wr hF i hi hun hpre
    obtain ⟨s0, s1, s2, s3, s4, s5, s6, s7, s8, o0, o1, o2, hvs⟩ := exl_of 12 vs (fun l => vs = l) hF.len rfl
    subst hvs
    obtain ⟨_, eG0, hg0, gG0, hO0⟩ : ∃ G, o0 = .pointer (some ⟨G, 0, none⟩) ∧ (∀ k, some (W.heap.size) = some k → G = k) ∧ W.heap.size ≤ G ∧ Wr.heap[G]? = some (.cells (if listed.getD 8 false = true then #[.string (numS rr), .string (denS rr)] else #[.string { data := #[] }, .string { data := #[] }]) 24 (0, 0)) := hF.get 9 _ rfl (.inl (by decide))
    have hg0 := hg0 _ rfl
    subst hg0
    subst eG0
    obtain ⟨_, eG1, hg1, gG1, hO1⟩ : ∃ G, o1 = .pointer (some ⟨G, 0, none⟩) ∧ (∀ k, some (W2.heap.size) = some k → G = k) ∧ W.heap.size ≤ G ∧ Wr.heap[G]? = some (.cells (if listed.getD 12 false = true then #[.string (numS q), .string (denS q)] else #[.string (numS q), .string (denS q)]) 24 (0, 0)) := hF.get 10 _ rfl (.inl (by decide))
    have hg1 := hg1 _ rfl
    subst hg1
    subst eG1
    obtain ⟨_, eG2, hg2, gG2, hO2⟩ : ∃ G, o2 = .pointer (some ⟨G, 0, none⟩) ∧ (∀ k, some (W2.heap.size + 1) = some k → G = k) ∧ W.heap.size ≤ G ∧ Wr.heap[G]? = some (.cells (if listed.getD 12 false = true then #[.string (numS y), .string (denS y)] else #[.string (numS y), .string (denS y)]) 24 (0, 0)) := hF.get 11 _ rfl (.inl (by decide))
    have hg2 := hg2 _ rfl
    subst hg2
    subst eG2
    have hge := Nat.zero_le i
    simp only [putO, layT_some, layT_none, layT_nil, List.setIfInBounds_toArray, List.set_cons_zero, List.set_cons_succ]
    rcases Nat.lt_or_ge i 4 with hlt | hgt
    · replace hi := hlt
      clear hlt
      rcases Nat.lt_or_ge i 2 with hlt | hgt
      · replace hi := hlt
        clear hlt
        rcases Nat.lt_or_ge i 1 with hlt | hgt
        · replace hi := hlt
          clear hlt
          have he : i = 0 := Nat.le_antisymm (Nat.le_of_lt_succ hi) hge
          subst he
          rw [if_neg (hF.unst (by decide))] at hO2
          have hcc := (two_at (hO2)).1
          have cH60 := hcc.1
          have cH61 := hcc.2
          clear hcc
          refine step_of ⟨some 18, _, _, _, _, _⟩ rfl (fun K' hK => ?_)
          go_simp
          refine hK.out _ _ ⟨_, hF.pure hok hla hpre rfl (Below.refl _ _), ?fr⟩
          case fr => simp only [putO, layT_some, layT_none, layT_nil, List.setIfInBounds_toArray, List.set_cons_zero, List.set_cons_succ]
        · replace hge : 1 ≤ i := hgt
          clear hgt
          have he : i = 1 := Nat.le_antisymm (Nat.le_of_lt_succ hi) hge
          subst he
          rw [if_neg (hF.unst (by decide))] at hO1
          have hcc := (two_at (hO1)).1
          have cH50 := hcc.1
          have cH51 := hcc.2
          clear hcc
          refine step_of ⟨some 19, _, _, _, _, _⟩ rfl (fun K' hK => ?_)
          go_simp
          refine hK.out _ _ ⟨_, hF.pure hok hla hpre rfl (Below.refl _ _), ?fr⟩
          case fr => simp only [putO, layT_some, layT_none, layT_nil, List.setIfInBounds_toArray, List.set_cons_zero, List.set_cons_succ]
      · replace hge : 2 ≤ i := hgt
        clear hgt
        rcases Nat.lt_or_ge i 3 with hlt | hgt
        · replace hi := hlt
          clear hlt
          have he : i = 2 := Nat.le_antisymm (Nat.le_of_lt_succ hi) hge
          subst he
          have p1 := hpre 1 (by kernel_rfl)
          have e1 : s1 = .agg #[.string (numS q), .string (denS q)] := hF.get 1 _ rfl (.inr p1)
          subst e1
          refine step_of ⟨some 20, _, _, _, _, _⟩ rfl (fun K' hK => ?_)
          go_simp
          go_at_call 118
          (with_reducible refine (TN.out _ (HE0.out.kept hF.low HP.out)).mono ?_)
          rintro e Wq ⟨rfl, hq⟩
          refine hK.out _ _ ⟨_, hF.pure hok hla hpre rfl hq, ?fr⟩
          case fr => simp only [putO, layT_some, layT_none, layT_nil, List.setIfInBounds_toArray, List.set_cons_zero, List.set_cons_succ]
        · replace hge : 3 ≤ i := hgt
          clear hgt
          have he : i = 3 := Nat.le_antisymm (Nat.le_of_lt_succ hi) hge
          subst he
          rw [if_neg (hF.unst (by decide))] at hO2
          have hcc := (two_at (hO2)).1
          have cH60 := hcc.1
          have cH61 := hcc.2
          clear hcc
          refine step_of ⟨some 21, _, _, _, _, _⟩ rfl (fun K' hK => ?_)
          go_simp
          refine hK.out _ _ ⟨_, hF.pure hok hla hpre rfl (Below.refl _ _), ?fr⟩
          case fr => simp only [putO, layT_some, layT_none, layT_nil, List.setIfInBounds_toArray, List.set_cons_zero, List.set_cons_succ]
    · replace hge : 4 ≤ i := hgt
      clear hgt
      rcases Nat.lt_or_ge i 6 with hlt | hgt
      · replace hi := hlt
        clear hlt
        rcases Nat.lt_or_ge i 5 with hlt | hgt
        · replace hi := hlt
          clear hlt
          have he : i = 4 := Nat.le_antisymm (Nat.le_of_lt_succ hi) hge
          subst he
          have p2 := hpre 2 (by kernel_rfl)
          have e2 : s2 = .agg #[.string (numS nq), .string (denS nq)] := hF.get 2 _ rfl (.inr p2)
          subst e2
          have p3 := hpre 3 (by kernel_rfl)
          have e3 : s3 = .agg #[.string (numS y), .string (denS y)] := hF.get 3 _ rfl (.inr p3)
          subst e3
          refine step_of ⟨some 22, _, _, _, _, _⟩ rfl (fun K' hK => ?_)
          go_simp
          go_at_call 89
          (with_reducible refine (TD.out _ (HE0.out.kept hF.low HP.out)).mono ?_)
          rintro e Wq ⟨rfl, hq⟩
          refine hK.out _ _ ⟨_, hF.pure hok hla hpre rfl hq, ?fr⟩
          case fr => simp only [putO, layT_some, layT_none, layT_nil, List.setIfInBounds_toArray, List.set_cons_zero, List.set_cons_succ]
        · replace hge : 5 ≤ i := hgt
          clear hgt
          have he : i = 5 := Nat.le_antisymm (Nat.le_of_lt_succ hi) hge
          subst he
          have p4 := hpre 4 (by kernel_rfl)
          have e4 : s4 = .agg #[.string (numS dd), .string (denS dd)] := hF.get 4 _ rfl (.inr p4)
          subst e4
          refine step_of ⟨some 23, _, _, _, _, _⟩ rfl (fun K' hK => ?_)
          go_simp
          go_at_call 71
          (with_reducible refine (TF.out _ (HE0.out.kept hF.low HP.out)).mono ?_)
          rintro e Wq ⟨rfl, hq⟩
          refine hK.out _ _ ⟨_, hF.pure hok hla hpre rfl hq, ?fr⟩
          case fr => simp only [putO, layT_some, layT_none, layT_nil, List.setIfInBounds_toArray, List.set_cons_zero, List.set_cons_succ]
      · replace hge : 6 ≤ i := hgt
        clear hgt
        rcases Nat.lt_or_ge i 7 with hlt | hgt
        · replace hi := hlt
          clear hlt
          have he : i = 6 := Nat.le_antisymm (Nat.le_of_lt_succ hi) hge
          subst he
          have p0 := hpre 0 (by kernel_rfl)
          have e0 : s0 = .agg #[.string (numS y), .string (denS y)] := hF.get 0 _ rfl (.inr p0)
          subst e0
          have p5 := hpre 5 (by kernel_rfl)
          have e5 : s5 = .agg #[.string (numS ff), .string (denS ff)] := hF.get 5 _ rfl (.inr p5)
          subst e5
          refine step_of ⟨some 24, _, _, _, _, _⟩ rfl (fun K' hK => ?_)
          go_simp
          go_at_call 126
          (with_reducible refine (TM.out _ (HE0.out.kept hF.low HP.out)).mono ?_)
          rintro e Wq ⟨rfl, hq⟩
          refine hK.out _ _ ⟨_, hF.pure hok hla hpre rfl hq, ?fr⟩
          case fr => simp only [putO, layT_some, layT_none, layT_nil, List.setIfInBounds_toArray, List.set_cons_zero, List.set_cons_succ]
        · replace hge : 7 ≤ i := hgt
          clear hgt
          rcases Nat.lt_or_ge i 8 with hlt | hgt
          · replace hi := hlt
            clear hlt
            have he : i = 7 := Nat.le_antisymm (Nat.le_of_lt_succ hi) hge
            subst he
            have p6 := hpre 6 (by kernel_rfl)
            have e6 : s6 = .agg #[.string (numS mm), .string (denS mm)] := hF.get 6 _ rfl (.inr p6)
            subst e6
            refine step_of ⟨some 25, _, _, _, _, _⟩ rfl (fun K' hK => ?_)
            go_simp
            go_at_call 118
            (with_reducible refine (TN2.out _ (HE0.out.kept hF.low HP.out)).mono ?_)
            rintro e Wq ⟨rfl, hq⟩
            refine hK.out _ _ ⟨_, hF.pure hok hla hpre rfl hq, ?fr⟩
            case fr => simp only [putO, layT_some, layT_none, layT_nil, List.setIfInBounds_toArray, List.set_cons_zero, List.set_cons_succ]
          · replace hge : 8 ≤ i := hgt
            clear hgt
            have he : i = 8 := Nat.le_antisymm (Nat.le_of_lt_succ hi) hge
            subst he
            have p7 := hpre 7 (by kernel_rfl)
            have e7 : s7 = .agg #[.string (numS rr), .string (denS rr)] := hF.get 7 _ rfl (.inr p7)
            subst e7
            rw [if_neg (bit_off hun)] at hO0
            have HGB := Lib.hid hO0
            obtain ⟨⟨y0, y1⟩, g0, g1⟩ := two_at HGB.out
            refine step_of ⟨none, _, _, _, _, _⟩ rfl (fun K' hK => ?_)
            go_simp
            refine hK.out _ _ ⟨undef, hF.put hok hna hpre hun rfl undef rfl (.inl (by decide)) rfl (set2_at HGB.out (.string (numS rr)) (.string (denS rr))) (fun k hk => set2_other _ _ (.string (numS rr)) (.string (denS rr)) hk) (put2_below gG0 _ (.string (numS rr)) (.string (denS rr))), ?fr⟩
            case fr => simp only [putO, layT_some, layT_none, layT_nil, List.setIfInBounds_toArray, List.set_cons_zero, List.set_cons_succ]
  case hd =>
    rintro listed vs WC hF hall
    obtain ⟨s0, s1, s2, s3, s4, s5, s6, s7, s8, o0, o1, o2, hvs⟩ := exl_of 12 vs (fun l => vs = l) hF.len rfl
    subst hvs
    obtain ⟨_, eG0, hg0, gG0, hO0⟩ : ∃ G, o0 = .pointer (some ⟨G, 0, none⟩) ∧ (∀ k, some (W.heap.size) = some k → G = k) ∧ W.heap.size ≤ G ∧ WC.heap[G]? = some (.cells (if listed.getD 8 false = true then #[.string (numS rr), .string (denS rr)] else #[.string { data := #[] }, .string { data := #[] }]) 24 (0, 0)) := hF.get 9 _ rfl (.inl (by decide))
    have hg0 := hg0 _ rfl
    subst hg0
    subst eG0
    obtain ⟨_, eG1, hg1, gG1, hO1⟩ : ∃ G, o1 = .pointer (some ⟨G, 0, none⟩) ∧ (∀ k, some (W2.heap.size) = some k → G = k) ∧ W.heap.size ≤ G ∧ WC.heap[G]? = some (.cells (if listed.getD 12 false = true then #[.string (numS q), .string (denS q)] else #[.string (numS q), .string (denS q)]) 24 (0, 0)) := hF.get 10 _ rfl (.inl (by decide))
    have hg1 := hg1 _ rfl
    subst hg1
    subst eG1
    obtain ⟨_, eG2, hg2, gG2, hO2⟩ : ∃ G, o2 = .pointer (some ⟨G, 0, none⟩) ∧ (∀ k, some (W2.heap.size + 1) = some k → G = k) ∧ W.heap.size ≤ G ∧ WC.heap[G]? = some (.cells (if listed.getD 12 false = true then #[.string (numS y), .string (denS y)] else #[.string (numS y), .string (denS y)]) 24 (0, 0)) := hF.get 11 _ rfl (.inl (by decide))
    have hg2 := hg2 _ rfl
    subst hg2
    subst eG2
    rw [if_pos (hall 8 (by decide))] at hO0
    replace H4 := Lib.hid hO0
    clear hO0
    rw [if_neg (hF.unst (by decide))] at hO1
    replace H5 := Lib.hid hO1
    clear hO1
    rw [if_neg (hF.unst (by decide))] at hO2
    replace H6 := Lib.hid hO2
    clear hO2
    have HQ := Lib.hid hF.low
    clear hF hall hok hna hla
    simp only [putO, layT_some, layT_none, layT_nil, List.setIfInBounds_toArray, List.set_cons_zero, List.set_cons_succ]
    replace HG := HQ
    clear HQ
    replace HE := Lib.hid (HE0.out.kept HG.out HP.out)
    obtain ⟨⟨x4_0, x4_1⟩, x4_f0, x4_f1⟩ := two_at H4.out
    go_wp2
    refine bodyPost_ret (v := .agg #[.string (numS rr), .string (denS rr)]) (by simp [results, Tryz.results81, go_sem, x4_0, x4_1]) rfl ⟨rfl, HG.out⟩

end Go.Proofs.YtcgglmoeneiokaaGreatDoor.Num
