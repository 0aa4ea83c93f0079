/- Numbers as texts of digits, fractions, values and the functions of fmath: contracts of the program's functions, joined from smaller texts. Conditions stand at each theorem. -/
import Derived.Test.YtemdjmaakajhjaaGreatDoorFtcA
import Derived.Test.YtemdjmaakajhjaaGreatDoorFtbA

/- package fstat: COVAR over its arguments. Conditions: what read gives; the tables lie as they are laid. -/
namespace Go.Proofs.YtemdjmaakajhjaaGreatDoor.Num.Ft
open Go.RowKit Go.Lib Num

attribute [local irreducible] wpOp
set_option linter.unusedSimpArgs false in
set_option linter.unusedVariables false in
set_option maxHeartbeats 8000000 in
set_option maxRecDepth 100000 in
theorem covar_walk (b g C n : Nat) (va vb : Val) (mx my sxx syy sxy nn q : Rat) (w : World)
    (hread : ∀ W, w.grownBy W (some b) → Env W → Calls Tryz.prog 175 #[.agg #[.int .i64 va.k, .string va.n, .string va.d, .string va.t, .bool va.on, .int .i64 va.c, .int .i64 va.r, .int .i64 va.s, .slice va.A va.L va.C], .agg #[.int .i64 vb.k, .string vb.n, .string vb.d, .string vb.t, .bool vb.on, .int .i64 vb.c, .int .i64 vb.r, .int .i64 vb.s, .slice vb.A vb.L vb.C]] W fun e w' => (∃ A1 c1 A2 c2, e = .returned (.agg #[.slice A1 n c1, .slice A2 n c2, .string (numS mx), .string (denS mx), .string (numS my), .string (denS my), .string (numS sxx), .string (denS sxx), .string (numS syy), .string (denS syy), .string (numS sxy), .string (denS sxy)])) ∧ Below W.heap.size W w')
    (c0 : Fun1 29 (.int .i64 (n : Int)) (fracV nn)) (c1 : Fun2 51 (fracV sxy) (fracV nn) (fracV q))
    (ha : ArgsAt w b (some ⟨g, 0, none⟩) 2 C 0) (hv : ValsAt w g 0 [va, vb]) (hgb : g ≠ b) (hE : Env w) (hP : Past b) :
    Calls Tryz.prog 174 #[.pointer (some ⟨b, 0, none⟩)] w fun e w' => e = .returned (fracV q) ∧ w.grownBy w' (some b) := by
  have hg0 : g < w.heap.size := cell_lt (hv.at 0 (show 0 < 2 from by decide)).1
  have hb : Below w.heap.size w (w.alloc (.cells #[.string { data := #[] }, .string { data := #[] }] 24)) := (Below.refl _ _).alloc (Nat.le_refl _) _
  have HX := Lib.hid (heap_alloc_new w (.cells #[.string { data := #[] }, .string { data := #[] }] 24))
  have HA := Lib.hid (show ArgsAt (w.alloc (.cells #[.string { data := #[] }, .string { data := #[] }] 24)) b (some ⟨g, 0, none⟩) 2 C 0 from keep_block ha hb)
  have HV := Lib.hid (hv.below hb)
  have HE := Lib.hid (hE.below hb)
  have HG := Lib.hid (kept_below (b := b) hb)
  have NE := Lib.hid (show w.heap.size ≠ b from Nat.ne_of_gt (heap_lt ha))
  have HGB := Lib.hid hgb
  have HP := Lib.hid hP
  have HG0 := Lib.hid hg0
  have HRD := Lib.hid hread
  have TV1 := Lib.hid (fun W ga gc => value_any b g 0 2 C 0 va.k va.n va.d va.t va.on va.c va.r va.s va.A va.L va.C W ga (by decide) (by decide) hgb gc)
  have TV2 := Lib.hid (fun W ga gc => value_any b g 0 2 C 1 vb.k vb.n vb.d vb.t vb.on vb.c vb.r vb.s vb.A vb.L vb.C W ga (by decide) (by decide) hgb gc)
  have T0 := Lib.hid c0
  unfold Fun1 at T0
  have T1 := Lib.hid c1
  unfold Fun2 at T1
  rw [fracV_is nn] at T0 T1
  rw [fracV_is sxy, fracV_is q] at T1
  rw [fracV_is q]
  obtain ⟨W0, hW0⟩ : ∃ Z, (w.alloc (.cells #[.string { data := #[] }, .string { data := #[] }] 24)) = Z := ⟨_, rfl⟩
  rw [hW0] at HX HA HV HE HG
  have hsz0 : g < W0.heap.size := by rw [← hW0]; simp; omega
  have HSZ := Lib.hid hsz0
  have EW0 := Lib.hid hW0
  clear hb ha hv hgb hE hP hg0 hread c0 c1 hW0 hsz0
  go_enter Tryz.func174, Tryz.ntmps174
  go_wp2_with fail
  rw [EW0.out]
  refine (TV1.out _ HA.out (HV.out.at 0 (show 0 < 2 from by decide))).mono ?_
  rintro e W1 ⟨rfl, ha, hg⟩
  replace HA := Lib.hid ha
  replace HV := Lib.hid (vals_kept HV.out hg HGB.out HSZ.out)
  replace HX := Lib.hid (kept_block HX.out hg NE.out)
  replace HE := Lib.hid (HE.out.kept hg HP.out)
  replace HG := Lib.hid (kept_trans HG.out hg)
  clear ha hg
  go_wp2_with fail
  refine (TV2.out _ HA.out (HV.out.at 1 (show 1 < 2 from by decide))).mono ?_
  rintro e W2 ⟨rfl, ha, hg⟩
  replace HX := Lib.hid (kept_block HX.out hg NE.out)
  replace HE := Lib.hid (HE.out.kept hg HP.out)
  replace HG := Lib.hid (kept_trans HG.out hg)
  clear ha hg HA HV
  go_wp2_with fail
  refine (HRD.out _ HG.out HE.out).mono ?_
  rintro e W3 ⟨⟨A1, c1, A2, c2, rfl⟩, hq⟩
  replace HX := Lib.hid (keep_block HX.out hq)
  replace HE := Lib.hid (HE.out.below hq)
  replace HG := Lib.hid (kept_trans HG.out (kept_below hq))
  clear hq
  go_upto_region 2 with fail
  have hb2 : Below W3.heap.size W3 (W3.alloc (.cells #[.slice A1 n c1, .slice A2 n c2, .string (numS mx), .string (denS mx), .string (numS my), .string (denS my), .string (numS sxx), .string (denS sxx), .string (numS syy), .string (denS syy), .string (numS sxy), .string (denS sxy)] 147)) := (Below.refl _ _).alloc (Nat.le_refl _) _
  have HB := Lib.hid (heap_alloc_new W3 (.cells #[.slice A1 n c1, .slice A2 n c2, .string (numS mx), .string (denS mx), .string (numS my), .string (denS my), .string (numS sxx), .string (denS sxx), .string (numS syy), .string (denS syy), .string (numS sxy), .string (denS sxy)] 147))
  replace HX := Lib.hid (keep_block HX.out hb2)
  replace HE := Lib.hid (HE.out.below hb2)
  replace HG := Lib.hid (kept_trans HG.out (kept_below hb2))
  obtain ⟨W4, hW4⟩ : ∃ Z, W3.alloc (.cells #[.slice A1 n c1, .slice A2 n c2, .string (numS mx), .string (denS mx), .string (numS my), .string (denS my), .string (numS sxx), .string (denS sxx), .string (numS syy), .string (denS syy), .string (numS sxy), .string (denS sxy)] 147) = Z := ⟨_, rfl⟩
  rw [hW4] at HB HX HE HG ⊢
  obtain ⟨B, hB⟩ : ∃ B, W3.heap.size = B := ⟨_, rfl⟩
  rw [hB] at HB ⊢
  clear hb2 hW4 hB TV1 TV2 HRD HSZ HG0 HGB EW0
  refine wp_region_rest 0 (fun _ a W => a = _ ∧ W = W4.drew) (by kernel_rfl) (by kernel_rfl) (Nat.zero_le _) (by kernel_rfl) ⟨rfl, rfl⟩ (fun _ _ _ _ i hi => absurd hi (Nat.not_lt_zero _)) ?_
  rintro listed a W ⟨rfl, rfl⟩ _
  have hq : Below W4.heap.size W4 W4.drew := (Below.refl _ _).drew
  replace HX := Lib.hid (keep_block HX.out hq)
  replace HB := Lib.hid (keep_block HB.out hq)
  replace HE := Lib.hid (HE.out.below hq)
  replace HG := Lib.hid (kept_trans HG.out (kept_below hq))
  obtain ⟨V0, hV0⟩ : ∃ Z, W4.drew = Z := ⟨_, rfl⟩
  rw [hV0] at HX HB HE HG ⊢
  clear hq hV0
  show restOps _ _ _ 8 [0, 1, 2, 3, 4, 5, 6, 7] _ _
  refine rest_two 0 2 ⟨some 9, _, _, _, _, _⟩ ⟨some 11, _, _, _, _, _⟩ rfl rfl (by kernel_rfl) rfl rfl (fun K' hK => ?_) (fun K' hK => ?_)
  · go_simp
    refine hK.out _ _ ?_
    refine rest_two 1 2 ⟨some 10, _, _, _, _, _⟩ ⟨some 11, _, _, _, _, _⟩ rfl rfl (by kernel_rfl) rfl rfl (fun K' hK => ?_) (fun K' hK => ?_)
    · obtain ⟨⟨x0, x1, x2, x3, x4, x5, x6, x7, x8, x9, x10, x11⟩, _⟩ := twelve_at HB.out
      go_simp
      clear x0 x1 x2 x3 x4 x5 x6 x7 x8 x9 x10 x11
      refine hK.out _ _ ?_
      refine rest_one 2 ⟨some 11, _, _, _, _, _⟩ rfl (by kernel_rfl) rfl (fun K' hK => ?_)
      go_simp
      refine hK.out _ _ ?_
      refine rest_one 3 ⟨some 12, _, _, _, _, _⟩ rfl (by kernel_rfl) rfl (fun K' hK => ?_)
      obtain ⟨⟨x0, x1, x2, x3, x4, x5, x6, x7, x8, x9, x10, x11⟩, _⟩ := twelve_at HB.out
      go_simp
      clear x0 x1 x2 x3 x4 x5 x6 x7 x8 x9 x10 x11
      refine hK.out _ _ ?_
      refine rest_one 4 ⟨some 13, _, _, _, _, _⟩ rfl (by kernel_rfl) rfl (fun K' hK => ?_)
      go_simp
      refine hK.out _ _ ?_
      refine rest_one 5 ⟨some 14, _, _, _, _, _⟩ rfl (by kernel_rfl) rfl (fun K' hK => ?_)
      go_simp
      go_at_call 29
      (with_reducible refine (T0.out _ HE.out).mono ?_)
      rintro e V5 ⟨rfl, hq⟩
      replace HX := Lib.hid (keep_block HX.out hq)
      replace HB := Lib.hid (keep_block HB.out hq)
      replace HE := Lib.hid (HE.out.below hq)
      replace HG := Lib.hid (kept_trans HG.out (kept_below hq))
      clear hq
      refine hK.out _ _ ?_
      refine rest_one 6 ⟨some 15, _, _, _, _, _⟩ rfl (by kernel_rfl) rfl (fun K' hK => ?_)
      go_simp
      go_at_call 51
      (with_reducible refine (T1.out _ HE.out).mono ?_)
      rintro e V6 ⟨rfl, hq⟩
      replace HX := Lib.hid (keep_block HX.out hq)
      replace HB := Lib.hid (keep_block HB.out hq)
      replace HE := Lib.hid (HE.out.below hq)
      replace HG := Lib.hid (kept_trans HG.out (kept_below hq))
      clear hq
      refine hK.out _ _ ?_
      refine rest_one 7 ⟨none, _, _, _, _, _⟩ rfl (by kernel_rfl) rfl (fun K' hK => ?_)
      obtain ⟨⟨x0, x1⟩, y0, y1⟩ := two_at HX.out
      have HFI := Lib.hid (set2_at HX.out (.string (numS q)) (.string (denS q)))
      have HG2 := Lib.hid (kept2 HG.out (Nat.le_refl _) (.string (numS q)) (.string (denS q)))
      go_simp
      refine hK.out _ _ ?_
      refine rest_end ?_
      obtain ⟨⟨z0, z1⟩, _⟩ := two_at HFI.out
      go_wp2
      refine bodyPost_ret (v := .agg #[.string (numS q), .string (denS q)]) (by simp [results, Tryz.results174, go_sem, z0, z1]) rfl ⟨rfl, HG2.out⟩
    · go_simp
      refine hK.out _ _ ?_
      refine rest_two 1 3 ⟨some 10, _, _, _, _, _⟩ ⟨some 12, _, _, _, _, _⟩ rfl rfl (by kernel_rfl) rfl rfl (fun K' hK => ?_) (fun K' hK => ?_)
      · obtain ⟨⟨x0, x1, x2, x3, x4, x5, x6, x7, x8, x9, x10, x11⟩, _⟩ := twelve_at HB.out
        go_simp
        clear x0 x1 x2 x3 x4 x5 x6 x7 x8 x9 x10 x11
        refine hK.out _ _ ?_
        refine rest_one 3 ⟨some 12, _, _, _, _, _⟩ rfl (by kernel_rfl) rfl (fun K' hK => ?_)
        obtain ⟨⟨x0, x1, x2, x3, x4, x5, x6, x7, x8, x9, x10, x11⟩, _⟩ := twelve_at HB.out
        go_simp
        clear x0 x1 x2 x3 x4 x5 x6 x7 x8 x9 x10 x11
        refine hK.out _ _ ?_
        refine rest_one 4 ⟨some 13, _, _, _, _, _⟩ rfl (by kernel_rfl) rfl (fun K' hK => ?_)
        go_simp
        refine hK.out _ _ ?_
        refine rest_one 5 ⟨some 14, _, _, _, _, _⟩ rfl (by kernel_rfl) rfl (fun K' hK => ?_)
        go_simp
        go_at_call 29
        (with_reducible refine (T0.out _ HE.out).mono ?_)
        rintro e V5 ⟨rfl, hq⟩
        replace HX := Lib.hid (keep_block HX.out hq)
        replace HB := Lib.hid (keep_block HB.out hq)
        replace HE := Lib.hid (HE.out.below hq)
        replace HG := Lib.hid (kept_trans HG.out (kept_below hq))
        clear hq
        refine hK.out _ _ ?_
        refine rest_one 6 ⟨some 15, _, _, _, _, _⟩ rfl (by kernel_rfl) rfl (fun K' hK => ?_)
        go_simp
        go_at_call 51
        (with_reducible refine (T1.out _ HE.out).mono ?_)
        rintro e V6 ⟨rfl, hq⟩
        replace HX := Lib.hid (keep_block HX.out hq)
        replace HB := Lib.hid (keep_block HB.out hq)
        replace HE := Lib.hid (HE.out.below hq)
        replace HG := Lib.hid (kept_trans HG.out (kept_below hq))
        clear hq
        refine hK.out _ _ ?_
        refine rest_one 7 ⟨none, _, _, _, _, _⟩ rfl (by kernel_rfl) rfl (fun K' hK => ?_)
        obtain ⟨⟨x0, x1⟩, y0, y1⟩ := two_at HX.out
        have HFI := Lib.hid (set2_at HX.out (.string (numS q)) (.string (denS q)))
        have HG2 := Lib.hid (kept2 HG.out (Nat.le_refl _) (.string (numS q)) (.string (denS q)))
        go_simp
        refine hK.out _ _ ?_
        refine rest_end ?_
        obtain ⟨⟨z0, z1⟩, _⟩ := two_at HFI.out
        go_wp2
        refine bodyPost_ret (v := .agg #[.string (numS q), .string (denS q)]) (by simp [results, Tryz.results174, go_sem, z0, z1]) rfl ⟨rfl, HG2.out⟩
      · obtain ⟨⟨x0, x1, x2, x3, x4, x5, x6, x7, x8, x9, x10, x11⟩, _⟩ := twelve_at HB.out
        go_simp
        clear x0 x1 x2 x3 x4 x5 x6 x7 x8 x9 x10 x11
        refine hK.out _ _ ?_
        refine rest_two 1 4 ⟨some 10, _, _, _, _, _⟩ ⟨some 13, _, _, _, _, _⟩ rfl rfl (by kernel_rfl) rfl rfl (fun K' hK => ?_) (fun K' hK => ?_)
        · obtain ⟨⟨x0, x1, x2, x3, x4, x5, x6, x7, x8, x9, x10, x11⟩, _⟩ := twelve_at HB.out
          go_simp
          clear x0 x1 x2 x3 x4 x5 x6 x7 x8 x9 x10 x11
          refine hK.out _ _ ?_
          refine rest_one 4 ⟨some 13, _, _, _, _, _⟩ rfl (by kernel_rfl) rfl (fun K' hK => ?_)
          go_simp
          refine hK.out _ _ ?_
          refine rest_one 5 ⟨some 14, _, _, _, _, _⟩ rfl (by kernel_rfl) rfl (fun K' hK => ?_)
          go_simp
          go_at_call 29
          (with_reducible refine (T0.out _ HE.out).mono ?_)
          rintro e V5 ⟨rfl, hq⟩
          replace HX := Lib.hid (keep_block HX.out hq)
          replace HB := Lib.hid (keep_block HB.out hq)
          replace HE := Lib.hid (HE.out.below hq)
          replace HG := Lib.hid (kept_trans HG.out (kept_below hq))
          clear hq
          refine hK.out _ _ ?_
          refine rest_one 6 ⟨some 15, _, _, _, _, _⟩ rfl (by kernel_rfl) rfl (fun K' hK => ?_)
          go_simp
          go_at_call 51
          (with_reducible refine (T1.out _ HE.out).mono ?_)
          rintro e V6 ⟨rfl, hq⟩
          replace HX := Lib.hid (keep_block HX.out hq)
          replace HB := Lib.hid (keep_block HB.out hq)
          replace HE := Lib.hid (HE.out.below hq)
          replace HG := Lib.hid (kept_trans HG.out (kept_below hq))
          clear hq
          refine hK.out _ _ ?_
          refine rest_one 7 ⟨none, _, _, _, _, _⟩ rfl (by kernel_rfl) rfl (fun K' hK => ?_)
          obtain ⟨⟨x0, x1⟩, y0, y1⟩ := two_at HX.out
          have HFI := Lib.hid (set2_at HX.out (.string (numS q)) (.string (denS q)))
          have HG2 := Lib.hid (kept2 HG.out (Nat.le_refl _) (.string (numS q)) (.string (denS q)))
          go_simp
          refine hK.out _ _ ?_
          refine rest_end ?_
          obtain ⟨⟨z0, z1⟩, _⟩ := two_at HFI.out
          go_wp2
          refine bodyPost_ret (v := .agg #[.string (numS q), .string (denS q)]) (by simp [results, Tryz.results174, go_sem, z0, z1]) rfl ⟨rfl, HG2.out⟩
        · go_simp
          refine hK.out _ _ ?_
          refine rest_two 1 5 ⟨some 10, _, _, _, _, _⟩ ⟨some 14, _, _, _, _, _⟩ rfl rfl (by kernel_rfl) rfl rfl (fun K' hK => ?_) (fun K' hK => ?_)
          · obtain ⟨⟨x0, x1, x2, x3, x4, x5, x6, x7, x8, x9, x10, x11⟩, _⟩ := twelve_at HB.out
            go_simp
            clear x0 x1 x2 x3 x4 x5 x6 x7 x8 x9 x10 x11
            refine hK.out _ _ ?_
            refine rest_one 5 ⟨some 14, _, _, _, _, _⟩ rfl (by kernel_rfl) rfl (fun K' hK => ?_)
            go_simp
            go_at_call 29
            (with_reducible refine (T0.out _ HE.out).mono ?_)
            rintro e V5 ⟨rfl, hq⟩
            replace HX := Lib.hid (keep_block HX.out hq)
            replace HB := Lib.hid (keep_block HB.out hq)
            replace HE := Lib.hid (HE.out.below hq)
            replace HG := Lib.hid (kept_trans HG.out (kept_below hq))
            clear hq
            refine hK.out _ _ ?_
            refine rest_one 6 ⟨some 15, _, _, _, _, _⟩ rfl (by kernel_rfl) rfl (fun K' hK => ?_)
            go_simp
            go_at_call 51
            (with_reducible refine (T1.out _ HE.out).mono ?_)
            rintro e V6 ⟨rfl, hq⟩
            replace HX := Lib.hid (keep_block HX.out hq)
            replace HB := Lib.hid (keep_block HB.out hq)
            replace HE := Lib.hid (HE.out.below hq)
            replace HG := Lib.hid (kept_trans HG.out (kept_below hq))
            clear hq
            refine hK.out _ _ ?_
            refine rest_one 7 ⟨none, _, _, _, _, _⟩ rfl (by kernel_rfl) rfl (fun K' hK => ?_)
            obtain ⟨⟨x0, x1⟩, y0, y1⟩ := two_at HX.out
            have HFI := Lib.hid (set2_at HX.out (.string (numS q)) (.string (denS q)))
            have HG2 := Lib.hid (kept2 HG.out (Nat.le_refl _) (.string (numS q)) (.string (denS q)))
            go_simp
            refine hK.out _ _ ?_
            refine rest_end ?_
            obtain ⟨⟨z0, z1⟩, _⟩ := two_at HFI.out
            go_wp2
            refine bodyPost_ret (v := .agg #[.string (numS q), .string (denS q)]) (by simp [results, Tryz.results174, go_sem, z0, z1]) rfl ⟨rfl, HG2.out⟩
          · go_simp
            go_at_call 29
            (with_reducible refine (T0.out _ HE.out).mono ?_)
            rintro e V5 ⟨rfl, hq⟩
            replace HX := Lib.hid (keep_block HX.out hq)
            replace HB := Lib.hid (keep_block HB.out hq)
            replace HE := Lib.hid (HE.out.below hq)
            replace HG := Lib.hid (kept_trans HG.out (kept_below hq))
            clear hq
            refine hK.out _ _ ?_
            refine rest_one 1 ⟨some 10, _, _, _, _, _⟩ rfl (by kernel_rfl) rfl (fun K' hK => ?_)
            obtain ⟨⟨x0, x1, x2, x3, x4, x5, x6, x7, x8, x9, x10, x11⟩, _⟩ := twelve_at HB.out
            go_simp
            clear x0 x1 x2 x3 x4 x5 x6 x7 x8 x9 x10 x11
            refine hK.out _ _ ?_
            refine rest_one 6 ⟨some 15, _, _, _, _, _⟩ rfl (by kernel_rfl) rfl (fun K' hK => ?_)
            go_simp
            go_at_call 51
            (with_reducible refine (T1.out _ HE.out).mono ?_)
            rintro e V6 ⟨rfl, hq⟩
            replace HX := Lib.hid (keep_block HX.out hq)
            replace HB := Lib.hid (keep_block HB.out hq)
            replace HE := Lib.hid (HE.out.below hq)
            replace HG := Lib.hid (kept_trans HG.out (kept_below hq))
            clear hq
            refine hK.out _ _ ?_
            refine rest_one 7 ⟨none, _, _, _, _, _⟩ rfl (by kernel_rfl) rfl (fun K' hK => ?_)
            obtain ⟨⟨x0, x1⟩, y0, y1⟩ := two_at HX.out
            have HFI := Lib.hid (set2_at HX.out (.string (numS q)) (.string (denS q)))
            have HG2 := Lib.hid (kept2 HG.out (Nat.le_refl _) (.string (numS q)) (.string (denS q)))
            go_simp
            refine hK.out _ _ ?_
            refine rest_end ?_
            obtain ⟨⟨z0, z1⟩, _⟩ := two_at HFI.out
            go_wp2
            refine bodyPost_ret (v := .agg #[.string (numS q), .string (denS q)]) (by simp [results, Tryz.results174, go_sem, z0, z1]) rfl ⟨rfl, HG2.out⟩
  · go_simp
    refine hK.out _ _ ?_
    refine rest_two 0 3 ⟨some 9, _, _, _, _, _⟩ ⟨some 12, _, _, _, _, _⟩ rfl rfl (by kernel_rfl) rfl rfl (fun K' hK => ?_) (fun K' hK => ?_)
    · go_simp
      refine hK.out _ _ ?_
      refine rest_two 1 3 ⟨some 10, _, _, _, _, _⟩ ⟨some 12, _, _, _, _, _⟩ rfl rfl (by kernel_rfl) rfl rfl (fun K' hK => ?_) (fun K' hK => ?_)
      · obtain ⟨⟨x0, x1, x2, x3, x4, x5, x6, x7, x8, x9, x10, x11⟩, _⟩ := twelve_at HB.out
        go_simp
        clear x0 x1 x2 x3 x4 x5 x6 x7 x8 x9 x10 x11
        refine hK.out _ _ ?_
        refine rest_one 3 ⟨some 12, _, _, _, _, _⟩ rfl (by kernel_rfl) rfl (fun K' hK => ?_)
        obtain ⟨⟨x0, x1, x2, x3, x4, x5, x6, x7, x8, x9, x10, x11⟩, _⟩ := twelve_at HB.out
        go_simp
        clear x0 x1 x2 x3 x4 x5 x6 x7 x8 x9 x10 x11
        refine hK.out _ _ ?_
        refine rest_one 4 ⟨some 13, _, _, _, _, _⟩ rfl (by kernel_rfl) rfl (fun K' hK => ?_)
        go_simp
        refine hK.out _ _ ?_
        refine rest_one 5 ⟨some 14, _, _, _, _, _⟩ rfl (by kernel_rfl) rfl (fun K' hK => ?_)
        go_simp
        go_at_call 29
        (with_reducible refine (T0.out _ HE.out).mono ?_)
        rintro e V5 ⟨rfl, hq⟩
        replace HX := Lib.hid (keep_block HX.out hq)
        replace HB := Lib.hid (keep_block HB.out hq)
        replace HE := Lib.hid (HE.out.below hq)
        replace HG := Lib.hid (kept_trans HG.out (kept_below hq))
        clear hq
        refine hK.out _ _ ?_
        refine rest_one 6 ⟨some 15, _, _, _, _, _⟩ rfl (by kernel_rfl) rfl (fun K' hK => ?_)
        go_simp
        go_at_call 51
        (with_reducible refine (T1.out _ HE.out).mono ?_)
        rintro e V6 ⟨rfl, hq⟩
        replace HX := Lib.hid (keep_block HX.out hq)
        replace HB := Lib.hid (keep_block HB.out hq)
        replace HE := Lib.hid (HE.out.below hq)
        replace HG := Lib.hid (kept_trans HG.out (kept_below hq))
        clear hq
        refine hK.out _ _ ?_
        refine rest_one 7 ⟨none, _, _, _, _, _⟩ rfl (by kernel_rfl) rfl (fun K' hK => ?_)
        obtain ⟨⟨x0, x1⟩, y0, y1⟩ := two_at HX.out
        have HFI := Lib.hid (set2_at HX.out (.string (numS q)) (.string (denS q)))
        have HG2 := Lib.hid (kept2 HG.out (Nat.le_refl _) (.string (numS q)) (.string (denS q)))
        go_simp
        refine hK.out _ _ ?_
        refine rest_end ?_
        obtain ⟨⟨z0, z1⟩, _⟩ := two_at HFI.out
        go_wp2
        refine bodyPost_ret (v := .agg #[.string (numS q), .string (denS q)]) (by simp [results, Tryz.results174, go_sem, z0, z1]) rfl ⟨rfl, HG2.out⟩
      · obtain ⟨⟨x0, x1, x2, x3, x4, x5, x6, x7, x8, x9, x10, x11⟩, _⟩ := twelve_at HB.out
        go_simp
        clear x0 x1 x2 x3 x4 x5 x6 x7 x8 x9 x10 x11
        refine hK.out _ _ ?_
        refine rest_two 1 4 ⟨some 10, _, _, _, _, _⟩ ⟨some 13, _, _, _, _, _⟩ rfl rfl (by kernel_rfl) rfl rfl (fun K' hK => ?_) (fun K' hK => ?_)
        · obtain ⟨⟨x0, x1, x2, x3, x4, x5, x6, x7, x8, x9, x10, x11⟩, _⟩ := twelve_at HB.out
          go_simp
          clear x0 x1 x2 x3 x4 x5 x6 x7 x8 x9 x10 x11
          refine hK.out _ _ ?_
          refine rest_one 4 ⟨some 13, _, _, _, _, _⟩ rfl (by kernel_rfl) rfl (fun K' hK => ?_)
          go_simp
          refine hK.out _ _ ?_
          refine rest_one 5 ⟨some 14, _, _, _, _, _⟩ rfl (by kernel_rfl) rfl (fun K' hK => ?_)
          go_simp
          go_at_call 29
          (with_reducible refine (T0.out _ HE.out).mono ?_)
          rintro e V5 ⟨rfl, hq⟩
          replace HX := Lib.hid (keep_block HX.out hq)
          replace HB := Lib.hid (keep_block HB.out hq)
          replace HE := Lib.hid (HE.out.below hq)
          replace HG := Lib.hid (kept_trans HG.out (kept_below hq))
          clear hq
          refine hK.out _ _ ?_
          refine rest_one 6 ⟨some 15, _, _, _, _, _⟩ rfl (by kernel_rfl) rfl (fun K' hK => ?_)
          go_simp
          go_at_call 51
          (with_reducible refine (T1.out _ HE.out).mono ?_)
          rintro e V6 ⟨rfl, hq⟩
          replace HX := Lib.hid (keep_block HX.out hq)
          replace HB := Lib.hid (keep_block HB.out hq)
          replace HE := Lib.hid (HE.out.below hq)
          replace HG := Lib.hid (kept_trans HG.out (kept_below hq))
          clear hq
          refine hK.out _ _ ?_
          refine rest_one 7 ⟨none, _, _, _, _, _⟩ rfl (by kernel_rfl) rfl (fun K' hK => ?_)
          obtain ⟨⟨x0, x1⟩, y0, y1⟩ := two_at HX.out
          have HFI := Lib.hid (set2_at HX.out (.string (numS q)) (.string (denS q)))
          have HG2 := Lib.hid (kept2 HG.out (Nat.le_refl _) (.string (numS q)) (.string (denS q)))
          go_simp
          refine hK.out _ _ ?_
          refine rest_end ?_
          obtain ⟨⟨z0, z1⟩, _⟩ := two_at HFI.out
          go_wp2
          refine bodyPost_ret (v := .agg #[.string (numS q), .string (denS q)]) (by simp [results, Tryz.results174, go_sem, z0, z1]) rfl ⟨rfl, HG2.out⟩
        · go_simp
          refine hK.out _ _ ?_
          refine rest_two 1 5 ⟨some 10, _, _, _, _, _⟩ ⟨some 14, _, _, _, _, _⟩ rfl rfl (by kernel_rfl) rfl rfl (fun K' hK => ?_) (fun K' hK => ?_)
          · obtain ⟨⟨x0, x1, x2, x3, x4, x5, x6, x7, x8, x9, x10, x11⟩, _⟩ := twelve_at HB.out
            go_simp
            clear x0 x1 x2 x3 x4 x5 x6 x7 x8 x9 x10 x11
            refine hK.out _ _ ?_
            refine rest_one 5 ⟨some 14, _, _, _, _, _⟩ rfl (by kernel_rfl) rfl (fun K' hK => ?_)
            go_simp
            go_at_call 29
            (with_reducible refine (T0.out _ HE.out).mono ?_)
            rintro e V5 ⟨rfl, hq⟩
            replace HX := Lib.hid (keep_block HX.out hq)
            replace HB := Lib.hid (keep_block HB.out hq)
            replace HE := Lib.hid (HE.out.below hq)
            replace HG := Lib.hid (kept_trans HG.out (kept_below hq))
            clear hq
            refine hK.out _ _ ?_
            refine rest_one 6 ⟨some 15, _, _, _, _, _⟩ rfl (by kernel_rfl) rfl (fun K' hK => ?_)
            go_simp
            go_at_call 51
            (with_reducible refine (T1.out _ HE.out).mono ?_)
            rintro e V6 ⟨rfl, hq⟩
            replace HX := Lib.hid (keep_block HX.out hq)
            replace HB := Lib.hid (keep_block HB.out hq)
            replace HE := Lib.hid (HE.out.below hq)
            replace HG := Lib.hid (kept_trans HG.out (kept_below hq))
            clear hq
            refine hK.out _ _ ?_
            refine rest_one 7 ⟨none, _, _, _, _, _⟩ rfl (by kernel_rfl) rfl (fun K' hK => ?_)
            obtain ⟨⟨x0, x1⟩, y0, y1⟩ := two_at HX.out
            have HFI := Lib.hid (set2_at HX.out (.string (numS q)) (.string (denS q)))
            have HG2 := Lib.hid (kept2 HG.out (Nat.le_refl _) (.string (numS q)) (.string (denS q)))
            go_simp
            refine hK.out _ _ ?_
            refine rest_end ?_
            obtain ⟨⟨z0, z1⟩, _⟩ := two_at HFI.out
            go_wp2
            refine bodyPost_ret (v := .agg #[.string (numS q), .string (denS q)]) (by simp [results, Tryz.results174, go_sem, z0, z1]) rfl ⟨rfl, HG2.out⟩
          · go_simp
            go_at_call 29
            (with_reducible refine (T0.out _ HE.out).mono ?_)
            rintro e V5 ⟨rfl, hq⟩
            replace HX := Lib.hid (keep_block HX.out hq)
            replace HB := Lib.hid (keep_block HB.out hq)
            replace HE := Lib.hid (HE.out.below hq)
            replace HG := Lib.hid (kept_trans HG.out (kept_below hq))
            clear hq
            refine hK.out _ _ ?_
            refine rest_one 1 ⟨some 10, _, _, _, _, _⟩ rfl (by kernel_rfl) rfl (fun K' hK => ?_)
            obtain ⟨⟨x0, x1, x2, x3, x4, x5, x6, x7, x8, x9, x10, x11⟩, _⟩ := twelve_at HB.out
            go_simp
            clear x0 x1 x2 x3 x4 x5 x6 x7 x8 x9 x10 x11
            refine hK.out _ _ ?_
            refine rest_one 6 ⟨some 15, _, _, _, _, _⟩ rfl (by kernel_rfl) rfl (fun K' hK => ?_)
            go_simp
            go_at_call 51
            (with_reducible refine (T1.out _ HE.out).mono ?_)
            rintro e V6 ⟨rfl, hq⟩
            replace HX := Lib.hid (keep_block HX.out hq)
            replace HB := Lib.hid (keep_block HB.out hq)
            replace HE := Lib.hid (HE.out.below hq)
            replace HG := Lib.hid (kept_trans HG.out (kept_below hq))
            clear hq
            refine hK.out _ _ ?_
            refine rest_one 7 ⟨none, _, _, _, _, _⟩ rfl (by kernel_rfl) rfl (fun K' hK => ?_)
            obtain ⟨⟨x0, x1⟩, y0, y1⟩ := two_at HX.out
            have HFI := Lib.hid (set2_at HX.out (.string (numS q)) (.string (denS q)))
            have HG2 := Lib.hid (kept2 HG.out (Nat.le_refl _) (.string (numS q)) (.string (denS q)))
            go_simp
            refine hK.out _ _ ?_
            refine rest_end ?_
            obtain ⟨⟨z0, z1⟩, _⟩ := two_at HFI.out
            go_wp2
            refine bodyPost_ret (v := .agg #[.string (numS q), .string (denS q)]) (by simp [results, Tryz.results174, go_sem, z0, z1]) rfl ⟨rfl, HG2.out⟩
    · obtain ⟨⟨x0, x1, x2, x3, x4, x5, x6, x7, x8, x9, x10, x11⟩, _⟩ := twelve_at HB.out
      go_simp
      clear x0 x1 x2 x3 x4 x5 x6 x7 x8 x9 x10 x11
      refine hK.out _ _ ?_
      refine rest_two 0 4 ⟨some 9, _, _, _, _, _⟩ ⟨some 13, _, _, _, _, _⟩ rfl rfl (by kernel_rfl) rfl rfl (fun K' hK => ?_) (fun K' hK => ?_)
      · go_simp
        refine hK.out _ _ ?_
        refine rest_two 1 4 ⟨some 10, _, _, _, _, _⟩ ⟨some 13, _, _, _, _, _⟩ rfl rfl (by kernel_rfl) rfl rfl (fun K' hK => ?_) (fun K' hK => ?_)
        · obtain ⟨⟨x0, x1, x2, x3, x4, x5, x6, x7, x8, x9, x10, x11⟩, _⟩ := twelve_at HB.out
          go_simp
          clear x0 x1 x2 x3 x4 x5 x6 x7 x8 x9 x10 x11
          refine hK.out _ _ ?_
          refine rest_one 4 ⟨some 13, _, _, _, _, _⟩ rfl (by kernel_rfl) rfl (fun K' hK => ?_)
          go_simp
          refine hK.out _ _ ?_
          refine rest_one 5 ⟨some 14, _, _, _, _, _⟩ rfl (by kernel_rfl) rfl (fun K' hK => ?_)
          go_simp
          go_at_call 29
          (with_reducible refine (T0.out _ HE.out).mono ?_)
          rintro e V5 ⟨rfl, hq⟩
          replace HX := Lib.hid (keep_block HX.out hq)
          replace HB := Lib.hid (keep_block HB.out hq)
          replace HE := Lib.hid (HE.out.below hq)
          replace HG := Lib.hid (kept_trans HG.out (kept_below hq))
          clear hq
          refine hK.out _ _ ?_
          refine rest_one 6 ⟨some 15, _, _, _, _, _⟩ rfl (by kernel_rfl) rfl (fun K' hK => ?_)
          go_simp
          go_at_call 51
          (with_reducible refine (T1.out _ HE.out).mono ?_)
          rintro e V6 ⟨rfl, hq⟩
          replace HX := Lib.hid (keep_block HX.out hq)
          replace HB := Lib.hid (keep_block HB.out hq)
          replace HE := Lib.hid (HE.out.below hq)
          replace HG := Lib.hid (kept_trans HG.out (kept_below hq))
          clear hq
          refine hK.out _ _ ?_
          refine rest_one 7 ⟨none, _, _, _, _, _⟩ rfl (by kernel_rfl) rfl (fun K' hK => ?_)
          obtain ⟨⟨x0, x1⟩, y0, y1⟩ := two_at HX.out
          have HFI := Lib.hid (set2_at HX.out (.string (numS q)) (.string (denS q)))
          have HG2 := Lib.hid (kept2 HG.out (Nat.le_refl _) (.string (numS q)) (.string (denS q)))
          go_simp
          refine hK.out _ _ ?_
          refine rest_end ?_
          obtain ⟨⟨z0, z1⟩, _⟩ := two_at HFI.out
          go_wp2
          refine bodyPost_ret (v := .agg #[.string (numS q), .string (denS q)]) (by simp [results, Tryz.results174, go_sem, z0, z1]) rfl ⟨rfl, HG2.out⟩
        · go_simp
          refine hK.out _ _ ?_
          refine rest_two 1 5 ⟨some 10, _, _, _, _, _⟩ ⟨some 14, _, _, _, _, _⟩ rfl rfl (by kernel_rfl) rfl rfl (fun K' hK => ?_) (fun K' hK => ?_)
          · obtain ⟨⟨x0, x1, x2, x3, x4, x5, x6, x7, x8, x9, x10, x11⟩, _⟩ := twelve_at HB.out
            go_simp
            clear x0 x1 x2 x3 x4 x5 x6 x7 x8 x9 x10 x11
            refine hK.out _ _ ?_
            refine rest_one 5 ⟨some 14, _, _, _, _, _⟩ rfl (by kernel_rfl) rfl (fun K' hK => ?_)
            go_simp
            go_at_call 29
            (with_reducible refine (T0.out _ HE.out).mono ?_)
            rintro e V5 ⟨rfl, hq⟩
            replace HX := Lib.hid (keep_block HX.out hq)
            replace HB := Lib.hid (keep_block HB.out hq)
            replace HE := Lib.hid (HE.out.below hq)
            replace HG := Lib.hid (kept_trans HG.out (kept_below hq))
            clear hq
            refine hK.out _ _ ?_
            refine rest_one 6 ⟨some 15, _, _, _, _, _⟩ rfl (by kernel_rfl) rfl (fun K' hK => ?_)
            go_simp
            go_at_call 51
            (with_reducible refine (T1.out _ HE.out).mono ?_)
            rintro e V6 ⟨rfl, hq⟩
            replace HX := Lib.hid (keep_block HX.out hq)
            replace HB := Lib.hid (keep_block HB.out hq)
            replace HE := Lib.hid (HE.out.below hq)
            replace HG := Lib.hid (kept_trans HG.out (kept_below hq))
            clear hq
            refine hK.out _ _ ?_
            refine rest_one 7 ⟨none, _, _, _, _, _⟩ rfl (by kernel_rfl) rfl (fun K' hK => ?_)
            obtain ⟨⟨x0, x1⟩, y0, y1⟩ := two_at HX.out
            have HFI := Lib.hid (set2_at HX.out (.string (numS q)) (.string (denS q)))
            have HG2 := Lib.hid (kept2 HG.out (Nat.le_refl _) (.string (numS q)) (.string (denS q)))
            go_simp
            refine hK.out _ _ ?_
            refine rest_end ?_
            obtain ⟨⟨z0, z1⟩, _⟩ := two_at HFI.out
            go_wp2
            refine bodyPost_ret (v := .agg #[.string (numS q), .string (denS q)]) (by simp [results, Tryz.results174, go_sem, z0, z1]) rfl ⟨rfl, HG2.out⟩
          · go_simp
            go_at_call 29
            (with_reducible refine (T0.out _ HE.out).mono ?_)
            rintro e V5 ⟨rfl, hq⟩
            replace HX := Lib.hid (keep_block HX.out hq)
            replace HB := Lib.hid (keep_block HB.out hq)
            replace HE := Lib.hid (HE.out.below hq)
            replace HG := Lib.hid (kept_trans HG.out (kept_below hq))
            clear hq
            refine hK.out _ _ ?_
            refine rest_one 1 ⟨some 10, _, _, _, _, _⟩ rfl (by kernel_rfl) rfl (fun K' hK => ?_)
            obtain ⟨⟨x0, x1, x2, x3, x4, x5, x6, x7, x8, x9, x10, x11⟩, _⟩ := twelve_at HB.out
            go_simp
            clear x0 x1 x2 x3 x4 x5 x6 x7 x8 x9 x10 x11
            refine hK.out _ _ ?_
            refine rest_one 6 ⟨some 15, _, _, _, _, _⟩ rfl (by kernel_rfl) rfl (fun K' hK => ?_)
            go_simp
            go_at_call 51
            (with_reducible refine (T1.out _ HE.out).mono ?_)
            rintro e V6 ⟨rfl, hq⟩
            replace HX := Lib.hid (keep_block HX.out hq)
            replace HB := Lib.hid (keep_block HB.out hq)
            replace HE := Lib.hid (HE.out.below hq)
            replace HG := Lib.hid (kept_trans HG.out (kept_below hq))
            clear hq
            refine hK.out _ _ ?_
            refine rest_one 7 ⟨none, _, _, _, _, _⟩ rfl (by kernel_rfl) rfl (fun K' hK => ?_)
            obtain ⟨⟨x0, x1⟩, y0, y1⟩ := two_at HX.out
            have HFI := Lib.hid (set2_at HX.out (.string (numS q)) (.string (denS q)))
            have HG2 := Lib.hid (kept2 HG.out (Nat.le_refl _) (.string (numS q)) (.string (denS q)))
            go_simp
            refine hK.out _ _ ?_
            refine rest_end ?_
            obtain ⟨⟨z0, z1⟩, _⟩ := two_at HFI.out
            go_wp2
            refine bodyPost_ret (v := .agg #[.string (numS q), .string (denS q)]) (by simp [results, Tryz.results174, go_sem, z0, z1]) rfl ⟨rfl, HG2.out⟩
      · go_simp
        refine hK.out _ _ ?_
        refine rest_two 0 5 ⟨some 9, _, _, _, _, _⟩ ⟨some 14, _, _, _, _, _⟩ rfl rfl (by kernel_rfl) rfl rfl (fun K' hK => ?_) (fun K' hK => ?_)
        · go_simp
          refine hK.out _ _ ?_
          refine rest_two 1 5 ⟨some 10, _, _, _, _, _⟩ ⟨some 14, _, _, _, _, _⟩ rfl rfl (by kernel_rfl) rfl rfl (fun K' hK => ?_) (fun K' hK => ?_)
          · obtain ⟨⟨x0, x1, x2, x3, x4, x5, x6, x7, x8, x9, x10, x11⟩, _⟩ := twelve_at HB.out
            go_simp
            clear x0 x1 x2 x3 x4 x5 x6 x7 x8 x9 x10 x11
            refine hK.out _ _ ?_
            refine rest_one 5 ⟨some 14, _, _, _, _, _⟩ rfl (by kernel_rfl) rfl (fun K' hK => ?_)
            go_simp
            go_at_call 29
            (with_reducible refine (T0.out _ HE.out).mono ?_)
            rintro e V5 ⟨rfl, hq⟩
            replace HX := Lib.hid (keep_block HX.out hq)
            replace HB := Lib.hid (keep_block HB.out hq)
            replace HE := Lib.hid (HE.out.below hq)
            replace HG := Lib.hid (kept_trans HG.out (kept_below hq))
            clear hq
            refine hK.out _ _ ?_
            refine rest_one 6 ⟨some 15, _, _, _, _, _⟩ rfl (by kernel_rfl) rfl (fun K' hK => ?_)
            go_simp
            go_at_call 51
            (with_reducible refine (T1.out _ HE.out).mono ?_)
            rintro e V6 ⟨rfl, hq⟩
            replace HX := Lib.hid (keep_block HX.out hq)
            replace HB := Lib.hid (keep_block HB.out hq)
            replace HE := Lib.hid (HE.out.below hq)
            replace HG := Lib.hid (kept_trans HG.out (kept_below hq))
            clear hq
            refine hK.out _ _ ?_
            refine rest_one 7 ⟨none, _, _, _, _, _⟩ rfl (by kernel_rfl) rfl (fun K' hK => ?_)
            obtain ⟨⟨x0, x1⟩, y0, y1⟩ := two_at HX.out
            have HFI := Lib.hid (set2_at HX.out (.string (numS q)) (.string (denS q)))
            have HG2 := Lib.hid (kept2 HG.out (Nat.le_refl _) (.string (numS q)) (.string (denS q)))
            go_simp
            refine hK.out _ _ ?_
            refine rest_end ?_
            obtain ⟨⟨z0, z1⟩, _⟩ := two_at HFI.out
            go_wp2
            refine bodyPost_ret (v := .agg #[.string (numS q), .string (denS q)]) (by simp [results, Tryz.results174, go_sem, z0, z1]) rfl ⟨rfl, HG2.out⟩
          · go_simp
            go_at_call 29
            (with_reducible refine (T0.out _ HE.out).mono ?_)
            rintro e V5 ⟨rfl, hq⟩
            replace HX := Lib.hid (keep_block HX.out hq)
            replace HB := Lib.hid (keep_block HB.out hq)
            replace HE := Lib.hid (HE.out.below hq)
            replace HG := Lib.hid (kept_trans HG.out (kept_below hq))
            clear hq
            refine hK.out _ _ ?_
            refine rest_one 1 ⟨some 10, _, _, _, _, _⟩ rfl (by kernel_rfl) rfl (fun K' hK => ?_)
            obtain ⟨⟨x0, x1, x2, x3, x4, x5, x6, x7, x8, x9, x10, x11⟩, _⟩ := twelve_at HB.out
            go_simp
            clear x0 x1 x2 x3 x4 x5 x6 x7 x8 x9 x10 x11
            refine hK.out _ _ ?_
            refine rest_one 6 ⟨some 15, _, _, _, _, _⟩ rfl (by kernel_rfl) rfl (fun K' hK => ?_)
            go_simp
            go_at_call 51
            (with_reducible refine (T1.out _ HE.out).mono ?_)
            rintro e V6 ⟨rfl, hq⟩
            replace HX := Lib.hid (keep_block HX.out hq)
            replace HB := Lib.hid (keep_block HB.out hq)
            replace HE := Lib.hid (HE.out.below hq)
            replace HG := Lib.hid (kept_trans HG.out (kept_below hq))
            clear hq
            refine hK.out _ _ ?_
            refine rest_one 7 ⟨none, _, _, _, _, _⟩ rfl (by kernel_rfl) rfl (fun K' hK => ?_)
            obtain ⟨⟨x0, x1⟩, y0, y1⟩ := two_at HX.out
            have HFI := Lib.hid (set2_at HX.out (.string (numS q)) (.string (denS q)))
            have HG2 := Lib.hid (kept2 HG.out (Nat.le_refl _) (.string (numS q)) (.string (denS q)))
            go_simp
            refine hK.out _ _ ?_
            refine rest_end ?_
            obtain ⟨⟨z0, z1⟩, _⟩ := two_at HFI.out
            go_wp2
            refine bodyPost_ret (v := .agg #[.string (numS q), .string (denS q)]) (by simp [results, Tryz.results174, go_sem, z0, z1]) rfl ⟨rfl, HG2.out⟩
        · go_simp
          go_at_call 29
          (with_reducible refine (T0.out _ HE.out).mono ?_)
          rintro e V5 ⟨rfl, hq⟩
          replace HX := Lib.hid (keep_block HX.out hq)
          replace HB := Lib.hid (keep_block HB.out hq)
          replace HE := Lib.hid (HE.out.below hq)
          replace HG := Lib.hid (kept_trans HG.out (kept_below hq))
          clear hq
          refine hK.out _ _ ?_
          refine rest_one 0 ⟨some 9, _, _, _, _, _⟩ rfl (by kernel_rfl) rfl (fun K' hK => ?_)
          go_simp
          refine hK.out _ _ ?_
          refine rest_one 1 ⟨some 10, _, _, _, _, _⟩ rfl (by kernel_rfl) rfl (fun K' hK => ?_)
          obtain ⟨⟨x0, x1, x2, x3, x4, x5, x6, x7, x8, x9, x10, x11⟩, _⟩ := twelve_at HB.out
          go_simp
          clear x0 x1 x2 x3 x4 x5 x6 x7 x8 x9 x10 x11
          refine hK.out _ _ ?_
          refine rest_one 6 ⟨some 15, _, _, _, _, _⟩ rfl (by kernel_rfl) rfl (fun K' hK => ?_)
          go_simp
          go_at_call 51
          (with_reducible refine (T1.out _ HE.out).mono ?_)
          rintro e V6 ⟨rfl, hq⟩
          replace HX := Lib.hid (keep_block HX.out hq)
          replace HB := Lib.hid (keep_block HB.out hq)
          replace HE := Lib.hid (HE.out.below hq)
          replace HG := Lib.hid (kept_trans HG.out (kept_below hq))
          clear hq
          refine hK.out _ _ ?_
          refine rest_one 7 ⟨none, _, _, _, _, _⟩ rfl (by kernel_rfl) rfl (fun K' hK => ?_)
          obtain ⟨⟨x0, x1⟩, y0, y1⟩ := two_at HX.out
          have HFI := Lib.hid (set2_at HX.out (.string (numS q)) (.string (denS q)))
          have HG2 := Lib.hid (kept2 HG.out (Nat.le_refl _) (.string (numS q)) (.string (denS q)))
          go_simp
          refine hK.out _ _ ?_
          refine rest_end ?_
          obtain ⟨⟨z0, z1⟩, _⟩ := two_at HFI.out
          go_wp2
          refine bodyPost_ret (v := .agg #[.string (numS q), .string (denS q)]) (by simp [results, Tryz.results174, go_sem, z0, z1]) rfl ⟨rfl, HG2.out⟩
end Go.Proofs.YtemdjmaakajhjaaGreatDoor.Num.Ft

/- package fstat: the law's stat at a row over its arguments, where these are numbers and arrays. Conditions: all numbers fit; the tables lie as they are laid. -/
namespace Go.Proofs.YtemdjmaakajhjaaGreatDoor.Num.Ft
open Go.RowKit Go.Lib Go.MapKept Num

/-- the law's stat at a row over its arguments: all that lay below the call's world stays -/
theorem stat_v (i : Nat) (r : Row) (hi : i < allRows.length) (hr : allRows[i] = r) (hraw : isRaw r.fn = false) (hkd : r.kinds = { data := #[97] }) (hfr : ∀ j (hj : j < i), (allRows[i].name == (allRows[j]'(by omega)).name) = false) (hnum : r.num = false) (eF : ∀ args w, (callFunc r.fn args).run Tryz.prog w = .ok (.enter r.fn args) w) (vs : List Val) (qss : List (List Rat)) (ab ao C : Nat) (q : Rat) (w : World) (h0 : 0 < vs.length) (h9 : vs.length ≤ 300) (hc1 : r.least ≤ vs.length) (hc2 : (vs.length : Int) ≤ r.most) (hv : ValsAt w ab ao vs) (hA : Args2 w vs qss) (hE : Env w) (hqs : ∀ qs ∈ qss, ∀ q ∈ qs, fits q = true) (hq : fits q = true)
    (hF : ∀ W b g cap, Below w.heap.size w W → w.heap.size ≤ b → Env W → Past b → ArgsAt W b (some ⟨g, 0, none⟩) vs.length cap 0 → ValsAt W g 0 vs → g ≠ b → Calls Tryz.prog r.fn #[.pointer (some ⟨b, 0, none⟩)] W fun e w' => e = .returned (fracV q) ∧ W.grownBy w' (some b)) :
    Calls Tryz.prog 9 #[.string r.name, .slice (some ⟨ab, ao, none⟩) vs.length C] w fun e w' => e = .returned (numVal q) ∧ Below w.heap.size w w' :=
  math_of r.name (.slice (some ⟨ab, ao, none⟩) vs.length C) (numVal' q) w ⟨_, _, _, rfl⟩ (fun W b hb hT =>
    run_a_val i r hi hr hraw hkd hfr vs b ab ao C (numVal' q) W h0 h9 hc1 hc2 (hv.below hb) (hE.below hb) hT ⟨rfl, rfl, rfl, rfl, rfl⟩ (fun W g => check_num q W hq g)
      (fun v hv' W' h => by
        obtain ⟨j, hj, rfl⟩ := List.mem_iff_getElem.1 hv'
        have hj' : j < qss.length := by rw [hA.1]; exact hj
        exact ((hA.below (hb.trans (h.mono hb.size))).2 j hj hj').check (hqs _ (List.getElem_mem hj')) ((hE.below hb).below h))
      (fun W' e g cap hb' hE' hfn hva => entryn2_val r g cap e vs q W' hnum hfn eF hE' hva hq (fun W'' b' hb'' hE'' hP hbl _ ha hva' hne =>
        hF W'' b' g cap (hb.trans ((hb'.trans (hb''.mono hb'.size)).mono hb.size)) (Nat.le_trans hb.size (Nat.le_trans hb'.size hbl)) hE'' hP ha hva' hne) h0))

/-- the law's stat at COVAR of two arrays, for what read gives of them -/
theorem s_COVAR (ab ao C n : Nat) (va vb : Val) (qa qb : List Rat) (mx my sxx syy sxy nn q : Rat) (w : World) (hA : Args2 w [va, vb] [qa, qb]) (hqs : ∀ qs ∈ [qa, qb], ∀ q ∈ qs, fits q = true) (hq : fits q = true)
    (hread : ∀ W b, Below w.heap.size w W → w.heap.size ≤ b → Past b → ∀ W', W.grownBy W' (some b) → Env W' → Calls Tryz.prog 175 #[va.agg, vb.agg] W' fun e w' => (∃ A1 c1 A2 c2, e = .returned (.agg #[.slice A1 n c1, .slice A2 n c2, .string (numS mx), .string (denS mx), .string (numS my), .string (denS my), .string (numS sxx), .string (denS sxx), .string (numS syy), .string (denS syy), .string (numS sxy), .string (denS sxy)])) ∧ Below W'.heap.size W' w')
    (c0 : Fun1 29 (.int .i64 (n : Int)) (fracV nn)) (c1 : Fun2 51 (fracV sxy) (fracV nn) (fracV q))
    (hv : ValsAt w ab ao [va, vb]) (hE : Env w) :
    Calls Tryz.prog 9 #[.string { data := #[67, 79, 86, 65, 82] }, .slice (some ⟨ab, ao, none⟩) 2 C] w fun e w' => e = .returned (numVal q) ∧ Below w.heap.size w w' :=
  stat_v 27 ⟨{ data := #[67, 79, 86, 65, 82] }, 2, 2, { data := #[97] }, false, 174⟩ (by decide) rfl (by kernel_rfl) rfl (fr_of 27 (by decide) (by kernel_rfl)) rfl (enters_of Tryz.func174 (by kernel_rfl) rfl) [va, vb] [qa, qb] ab ao C q w (show 0 < 2 from by decide) (show 2 ≤ 300 from by decide) (show (2 : Int) ≤ 2 from by decide) (show (2 : Int) ≤ 2 from by decide) hv hA hE hqs hq
    (fun W b g cap hb hge hE' hP ha hva hne => covar_walk b g cap n va vb mx my sxx syy sxy nn q W (fun W' hg hE'' => hread W b hb hge hP W' hg hE'') c0 c1 ha hva hne hE' hP)
end Go.Proofs.YtemdjmaakajhjaaGreatDoor.Num.Ft
