/- Numbers as texts of digits, fractions, values and the functions of fmath: contracts of the program's functions, joined from smaller texts. Conditions stand at each theorem. -/
import Derived.Test.YtgponoogifeopaaGreatDoorFtbA
import Derived.Test.YtgponoogifeopaaGreatDoorNumF
import Derived.Test.YtgponoogifeopaaGreatDoorFtaC
import Derived.Test.YtgponoogifeopaaGreatDoorFtpB
import Derived.Test.YtgponoogifeopaaGreatDoorFtcA

/- package fstat: many's closure, and the law's stat at its row, where the row's function leans on a package variable as well. Conditions: one array of numbers; the tables lie as they are laid. -/
namespace Go.Proofs.YtgponoogifeopaaGreatDoor.Num.Ft
open Go.RowKit Go.Lib Go.MapKept Num
attribute [local irreducible] wpOp
set_option linter.unusedSimpArgs false in
set_option linter.unusedVariables false in
set_option maxHeartbeats 8000000 in
set_option maxRecDepth 100000 in
theorem many1_keep (b f : Nat) (F : FuncId) (qs : List Rat) (q : Rat) (r s : Int) (gi Ci g C : Nat) (w : World) (hf : w.cell? ⟨f, 0, none⟩ = some (.func (.func F) #[] #[])) (hfb : f ≠ b) (eF : ∀ args w, (callFunc F args).run Tryz.prog w = .ok (.enter F args) w) (hR : ∀ (W : World) (g C : Nat), FracsAt W g qs → EnvY W → w.grownBy W (some b) → Calls Tryz.prog F #[.slice (some ⟨g, 0, none⟩) qs.length C] W fun e w' => e = .returned (fracV q) ∧ Below W.heap.size W w') (hqs : ∀ x ∈ qs, fits x = true) (h0 : 0 < qs.length) (h9 : qs.length ≤ 1000) (ha : ArgsAt w b (some ⟨g, 0, none⟩) 1 C 0) (hv : ValsAt w g 0 [arrVal' r s gi qs.length Ci]) (hav : ValsAt w gi 0 (numVals qs)) (hne : g ≠ b) (hgi : gi ≠ b) (hE : Env w) (hP : Past b) :
    Calls Tryz.prog 185 #[.pointer (some ⟨b, 0, none⟩), .pointer (some ⟨f, 0, none⟩)] w fun e w' => e = .returned (fracV q) ∧ w.grownBy w' (some b) := by
  have hgl : g < w.heap.size := cell_lt (hv.at 0 (show 0 < 1 by decide)).1
  have hgil : gi < w.heap.size := cell_lt (hav.at 0 (by rw [numVals_len]; exact h0)).1
  have hbl : b < w.heap.size := heap_lt ha
  have hb : Below w.heap.size w (w.alloc (.cells #[.string { data := #[] }, .string { data := #[] }] 24)) := (Below.refl _ _).alloc (Nat.le_refl _) _
  have hpart : ∀ (W : World), Below w.heap.size w W → ∀ j (h : j < ([arrVal' r s gi qs.length Ci] : List Val).length) (h' : j < ([qs] : List (List Rat)).length), NArg W b W.heap.size ([arrVal' r s gi qs.length Ci] : List Val)[j] ([qs] : List (List Rat))[j] := by
    intro W hw j h h'
    have h2 : j < 1 := h'
    obtain rfl : j = 0 := by omega
    exact .inr ⟨r, s, gi, Ci, rfl, h0, h9, Nat.lt_of_lt_of_le hgil hw.size, hgi, hav.below hw⟩
  have TN := Lib.hid (fun (W : World) (hw : Below w.heap.size w W) (ga : ArgsAt W b (some ⟨g, 0, none⟩) 1 C 0) (ge : Env W) => numbers_mix [arrVal' r s gi qs.length Ci] [qs] b g C W (show 1 ≤ 300 by decide) rfl (by intro x hx; simp only [List.mem_cons, List.not_mem_nil, or_false] at hx; subst hx; exact h9) (by intro x hx; simp only [List.mem_cons, List.not_mem_nil, or_false] at hx; subst hx; exact hqs) ga (hv.below hw) (hpart W hw) hne (Nat.lt_of_lt_of_le hgl hw.size) ge hP)
  rw [show (([qs] : List (List Rat)).flatten) = qs by simp] at TN
  have TR := Lib.hid hR
  have HX := Lib.hid (heap_alloc_new w (.cells #[.string { data := #[] }, .string { data := #[] }] 24))
  have HF := Lib.hid (cell_below hf hb)
  have hfl : f < w.heap.size := cell_lt hf
  have HL := Lib.hid hb
  have HA := Lib.hid (show ArgsAt _ b (some ⟨g, 0, none⟩) 1 C 0 from keep_block ha hb)
  have HE := Lib.hid (hE.below hb)
  have HP := Lib.hid hP
  have H0 := Lib.hid h0
  have HFB := Lib.hid hfb
  have NE := Lib.hid (show w.heap.size ≠ b from Nat.ne_of_gt hbl)
  rw [fracV_is q] at TR ⊢
  obtain ⟨W0, hW0⟩ : ∃ Z, w.alloc (.cells #[.string { data := #[] }, .string { data := #[] }] 24) = Z := ⟨_, rfl⟩
  rw [hW0] at HX HF HL HA HE
  have EW0 := Lib.hid hW0
  clear hf hR hqs h0 h9 ha hv hav hne hgi hE hP hb hpart hgl hgil hbl hfb hfl hW0
  go_enter Tryz.func185, Tryz.ntmps185
  go_upto_region 1 with fail
  rw [EW0.out]
  refine wp_region_rest 0 (fun _ a W => a = _ ∧ W = W0.drew) (by kernel_rfl) (by kernel_rfl) (Nat.zero_le _) (by kernel_rfl) ⟨rfl, rfl⟩ (fun _ _ _ _ i hi => absurd hi (Nat.not_lt_zero _)) ?_
  rintro listed a W ⟨rfl, rfl⟩ _
  have hq : Below W0.heap.size W0 W0.drew := (Below.refl _ _).drew
  replace HX := Lib.hid (keep_block HX.out hq)
  replace HF := Lib.hid (cell_below HF.out hq)
  replace HA := Lib.hid (show ArgsAt _ b (some ⟨g, 0, none⟩) 1 C 0 from keep_block HA.out hq)
  replace HE := Lib.hid (HE.out.below hq)
  replace HL := Lib.hid (HL.out.trans (hq.mono HL.out.size))
  obtain ⟨V0, hV0⟩ : ∃ Z, W0.drew = Z := ⟨_, rfl⟩
  rw [hV0] at HX HF HA HE HL ⊢
  clear hq hV0
  show restOps _ _ _ 6 [0, 1, 2, 3, 4, 5] _ _
  refine rest_two 0 1 ⟨some 4, _, _, _, _, _⟩ ⟨some 5, _, _, _, _, _⟩ rfl rfl (by kernel_rfl) rfl rfl (fun K' hK => ?_) (fun K' hK => ?_)
  · have xf := HF.out
    go_simp
    refine hK.out _ _ ?_
    clear xf
    refine rest_one 1 ⟨some 5, _, _, _, _, _⟩ rfl (by kernel_rfl) rfl (fun K' hK => ?_)
    go_simp
    refine hK.out _ _ ?_
    refine rest_one 2 ⟨some 6, _, _, _, _, _⟩ rfl (by kernel_rfl) rfl (fun K' hK => ?_)
    go_simp
    go_at_call 80
    (with_reducible refine (TN.out _ HL.out HA.out HE.out).mono ?_)
    rintro e V1 ⟨v, rfl, hown, hE1, hg⟩
    obtain ⟨gF, cap, rfl, hgF, hrow⟩ := hown.rowB H0.out
    have HRW := Lib.hid hrow
    replace HX := Lib.hid (kept_block HX.out hg NE.out)
    replace HF := Lib.hid (kept_cell HF.out hg HFB.out)
    have HG := Lib.hid (kept_trans (kept_below (b := b) HL.out) hg)
    replace HE := Lib.hid hE1
    clear hown hrow hgF hg hE1 HA HL
    refine hK.out _ _ ?_
    refine rest_one 3 ⟨some 7, _, _, _, _, _⟩ rfl (by kernel_rfl) rfl (fun K' hK => ?_)
    go_simp
    go_at_call 186
    (with_reducible refine (some_any _ _ _ _ H0.out).mono ?_)
    rintro e V2 ⟨rfl, hw⟩
    replace hw := hw.symm
    subst hw
    refine hK.out _ _ ?_
    refine rest_one 4 ⟨some 8, _, _, _, _, _⟩ rfl (by kernel_rfl) rfl (fun K' hK => ?_)
    go_simp
    refine (TR.out _ _ _ HRW.out.fracs HE.out HG.out).mono ?_
    rintro e V3 ⟨rfl, hq⟩
    replace HX := Lib.hid (keep_block HX.out hq)
    replace HG := Lib.hid (kept_trans HG.out (kept_below hq))
    clear hq
    refine hK.out _ _ ?_
    refine rest_one 5 ⟨none, _, _, _, _, _⟩ rfl (by kernel_rfl) rfl (fun K' hK => ?_)
    obtain ⟨⟨x0, x1⟩, y0, y1⟩ := two_at HX.out
    have HFI := Lib.hid (set2_at HX.out (.string (numS q)) (.string (denS q)))
    have HG2 := Lib.hid (kept2 HG.out (Nat.le_refl _) (.string (numS q)) (.string (denS q)))
    go_simp
    refine hK.out _ _ ?_
    refine rest_end ?_
    obtain ⟨⟨z0, z1⟩, _⟩ := two_at HFI.out
    go_wp2
    refine bodyPost_ret (v := .agg #[.string (numS q), .string (denS q)]) (by simp [results, Tryz.results185, go_sem, z0, z1]) rfl ⟨rfl, HG2.out⟩
  · go_simp
    refine hK.out _ _ ?_
    refine rest_two 0 2 ⟨some 4, _, _, _, _, _⟩ ⟨some 6, _, _, _, _, _⟩ rfl rfl (by kernel_rfl) rfl rfl (fun K' hK => ?_) (fun K' hK => ?_)
    · have xf := HF.out
      go_simp
      refine hK.out _ _ ?_
      clear xf
      refine rest_one 2 ⟨some 6, _, _, _, _, _⟩ rfl (by kernel_rfl) rfl (fun K' hK => ?_)
      go_simp
      go_at_call 80
      (with_reducible refine (TN.out _ HL.out HA.out HE.out).mono ?_)
      rintro e V1 ⟨v, rfl, hown, hE1, hg⟩
      obtain ⟨gF, cap, rfl, hgF, hrow⟩ := hown.rowB H0.out
      have HRW := Lib.hid hrow
      replace HX := Lib.hid (kept_block HX.out hg NE.out)
      replace HF := Lib.hid (kept_cell HF.out hg HFB.out)
      have HG := Lib.hid (kept_trans (kept_below (b := b) HL.out) hg)
      replace HE := Lib.hid hE1
      clear hown hrow hgF hg hE1 HA HL
      refine hK.out _ _ ?_
      refine rest_one 3 ⟨some 7, _, _, _, _, _⟩ rfl (by kernel_rfl) rfl (fun K' hK => ?_)
      go_simp
      go_at_call 186
      (with_reducible refine (some_any _ _ _ _ H0.out).mono ?_)
      rintro e V2 ⟨rfl, hw⟩
      replace hw := hw.symm
      subst hw
      refine hK.out _ _ ?_
      refine rest_one 4 ⟨some 8, _, _, _, _, _⟩ rfl (by kernel_rfl) rfl (fun K' hK => ?_)
      go_simp
      refine (TR.out _ _ _ HRW.out.fracs HE.out HG.out).mono ?_
      rintro e V3 ⟨rfl, hq⟩
      replace HX := Lib.hid (keep_block HX.out hq)
      replace HG := Lib.hid (kept_trans HG.out (kept_below hq))
      clear hq
      refine hK.out _ _ ?_
      refine rest_one 5 ⟨none, _, _, _, _, _⟩ rfl (by kernel_rfl) rfl (fun K' hK => ?_)
      obtain ⟨⟨x0, x1⟩, y0, y1⟩ := two_at HX.out
      have HFI := Lib.hid (set2_at HX.out (.string (numS q)) (.string (denS q)))
      have HG2 := Lib.hid (kept2 HG.out (Nat.le_refl _) (.string (numS q)) (.string (denS q)))
      go_simp
      refine hK.out _ _ ?_
      refine rest_end ?_
      obtain ⟨⟨z0, z1⟩, _⟩ := two_at HFI.out
      go_wp2
      refine bodyPost_ret (v := .agg #[.string (numS q), .string (denS q)]) (by simp [results, Tryz.results185, go_sem, z0, z1]) rfl ⟨rfl, HG2.out⟩
    · go_simp
      go_at_call 80
      (with_reducible refine (TN.out _ HL.out HA.out HE.out).mono ?_)
      rintro e V1 ⟨v, rfl, hown, hE1, hg⟩
      obtain ⟨gF, cap, rfl, hgF, hrow⟩ := hown.rowB H0.out
      have HRW := Lib.hid hrow
      replace HX := Lib.hid (kept_block HX.out hg NE.out)
      replace HF := Lib.hid (kept_cell HF.out hg HFB.out)
      have HG := Lib.hid (kept_trans (kept_below (b := b) HL.out) hg)
      replace HE := Lib.hid hE1
      clear hown hrow hgF hg hE1 HA HL
      refine hK.out _ _ ?_
      refine rest_two 0 3 ⟨some 4, _, _, _, _, _⟩ ⟨some 7, _, _, _, _, _⟩ rfl rfl (by kernel_rfl) rfl rfl (fun K' hK => ?_) (fun K' hK => ?_)
      · have xf := HF.out
        go_simp
        refine hK.out _ _ ?_
        clear xf
        refine rest_one 3 ⟨some 7, _, _, _, _, _⟩ rfl (by kernel_rfl) rfl (fun K' hK => ?_)
        go_simp
        go_at_call 186
        (with_reducible refine (some_any _ _ _ _ H0.out).mono ?_)
        rintro e V2 ⟨rfl, hw⟩
        replace hw := hw.symm
        subst hw
        refine hK.out _ _ ?_
        refine rest_one 4 ⟨some 8, _, _, _, _, _⟩ rfl (by kernel_rfl) rfl (fun K' hK => ?_)
        go_simp
        refine (TR.out _ _ _ HRW.out.fracs HE.out HG.out).mono ?_
        rintro e V3 ⟨rfl, hq⟩
        replace HX := Lib.hid (keep_block HX.out hq)
        replace HG := Lib.hid (kept_trans HG.out (kept_below hq))
        clear hq
        refine hK.out _ _ ?_
        refine rest_one 5 ⟨none, _, _, _, _, _⟩ rfl (by kernel_rfl) rfl (fun K' hK => ?_)
        obtain ⟨⟨x0, x1⟩, y0, y1⟩ := two_at HX.out
        have HFI := Lib.hid (set2_at HX.out (.string (numS q)) (.string (denS q)))
        have HG2 := Lib.hid (kept2 HG.out (Nat.le_refl _) (.string (numS q)) (.string (denS q)))
        go_simp
        refine hK.out _ _ ?_
        refine rest_end ?_
        obtain ⟨⟨z0, z1⟩, _⟩ := two_at HFI.out
        go_wp2
        refine bodyPost_ret (v := .agg #[.string (numS q), .string (denS q)]) (by simp [results, Tryz.results185, go_sem, z0, z1]) rfl ⟨rfl, HG2.out⟩
      · go_simp
        go_at_call 186
        (with_reducible refine (some_any _ _ _ _ H0.out).mono ?_)
        rintro e V2 ⟨rfl, hw⟩
        replace hw := hw.symm
        subst hw
        refine hK.out _ _ ?_
        refine rest_one 0 ⟨some 4, _, _, _, _, _⟩ rfl (by kernel_rfl) rfl (fun K' hK => ?_)
        have xf := HF.out
        go_simp
        refine hK.out _ _ ?_
        clear xf
        refine rest_one 4 ⟨some 8, _, _, _, _, _⟩ rfl (by kernel_rfl) rfl (fun K' hK => ?_)
        go_simp
        refine (TR.out _ _ _ HRW.out.fracs HE.out HG.out).mono ?_
        rintro e V3 ⟨rfl, hq⟩
        replace HX := Lib.hid (keep_block HX.out hq)
        replace HG := Lib.hid (kept_trans HG.out (kept_below hq))
        clear hq
        refine hK.out _ _ ?_
        refine rest_one 5 ⟨none, _, _, _, _, _⟩ rfl (by kernel_rfl) rfl (fun K' hK => ?_)
        obtain ⟨⟨x0, x1⟩, y0, y1⟩ := two_at HX.out
        have HFI := Lib.hid (set2_at HX.out (.string (numS q)) (.string (denS q)))
        have HG2 := Lib.hid (kept2 HG.out (Nat.le_refl _) (.string (numS q)) (.string (denS q)))
        go_simp
        refine hK.out _ _ ?_
        refine rest_end ?_
        obtain ⟨⟨z0, z1⟩, _⟩ := two_at HFI.out
        go_wp2
        refine bodyPost_ret (v := .agg #[.string (numS q), .string (denS q)]) (by simp [results, Tryz.results185, go_sem, z0, z1]) rfl ⟨rfl, HG2.out⟩

/-- the law's stat at a row that 'many' wraps, over one array -/
theorem stat_mk (i : Nat) (r : Row) (hi : i < allRows.length) (hr : allRows[i] = r) (hraw : isRaw r.fn = false) (hkd : r.kinds = { data := #[97] }) (hfr : ∀ j (hj : j < i), (allRows[i].name == (allRows[j]'(by omega)).name) = false) (hnum : r.num = true) (hc1 : r.least = 1) (hc2 : r.most = 255) (eF : ∀ args w, (callFunc r.fn args).run Tryz.prog w = .ok (.enter r.fn args) w) (qs : List Rat) (q : Rat) (rr ss : Int) (gi Ci ab ao C : Nat) (w : World) (K : World → Prop) (hKb : ∀ W W' b, K W → Below w.heap.size w W → w.heap.size ≤ b → W.grownBy W' (some b) → K W') (hKw : ∀ W, Below w.heap.size w W → K W) (hRow : ∀ (W : World) (g C : Nat), FracsAt W g qs → EnvY W → K W → Calls Tryz.prog r.fn #[.slice (some ⟨g, 0, none⟩) qs.length C] W fun e w' => e = .returned (fracV q) ∧ Below W.heap.size W w') (hA : AArg w (arrVal' rr ss gi qs.length Ci) qs) (hav : ValsAt w gi 0 (numVals qs)) (h0 : 0 < qs.length) (h9 : qs.length ≤ 1000) (hqs : ∀ x ∈ qs, fits x = true) (hq : fits q = true) (hv : ValsAt w ab ao [arrVal' rr ss gi qs.length Ci]) (hE : Env w) :
    Calls Tryz.prog 10 #[.string r.name, .slice (some ⟨ab, ao, none⟩) 1 C] w fun e w' => e = .returned (numVal q) ∧ Below w.heap.size w w' :=
  math_of r.name (.slice (some ⟨ab, ao, none⟩) 1 C) (numVal' q) w ⟨_, _, _, rfl⟩ (fun W b hb hT =>
    run_a_val i r hi hr hraw hkd hfr [arrVal' rr ss gi qs.length Ci] b ab ao C (numVal' q) W (show 0 < 1 by decide) (show 1 ≤ 300 by decide) (by rw [hc1]; exact (show (1 : Int) ≤ ((1 : Nat) : Int) by decide)) (by rw [hc2]; exact (show ((1 : Nat) : Int) ≤ 255 by decide)) (hv.below hb) (hE.below hb) hT ⟨rfl, rfl, rfl, rfl, rfl⟩ (fun W g => check_num q W hq g)
      (fun v hv' W' h => by
        simp only [List.mem_cons, List.not_mem_nil, or_false] at hv'
        subst hv'
        exact (hA.below (hb.trans (h.mono hb.size))).check hqs ((hE.below hb).below h))
      (fun W' e g cap hb' hE' hfn hva => entrym_val r g cap e [arrVal' rr ss gi qs.length Ci] q W' hnum hfn hE' hva hq (fun W'' b' hb'' hE'' hP hbl hlt ha hva' hne f hfb hf =>
        have hB := hb.trans ((hb'.trans (hb''.mono hb'.size)).mono hb.size)
        have hgi : gi ≠ b' := by
          have h2 : gi < w.heap.size := cell_lt (hav.at 0 (by rw [numVals_len]; exact h0)).1
          have h3 := hb.size
          have h4 := hb'.size
          omega
        many1_keep b' f r.fn qs q rr ss gi Ci g cap W'' hf hfb eF (fun W g C h1 h2 h3 => hRow W g C h1 h2 (hKb _ _ b' (hKw W'' hB) hB (Nat.le_trans hb.size (Nat.le_trans hb'.size hbl)) h3)) hqs h0 h9 ha hva' (hav.below hB) hne hgi hE'' hP) (show 0 < 1 by decide)))
end Go.Proofs.YtgponoogifeopaaGreatDoor.Num.Ft

/- package value: Lift at the kinds 'as' where no argument is lifted. Conditions: the tables lie as they are laid. -/
namespace Go.Proofs.YtgponoogifeopaaGreatDoor.Num
open Go.RowKit Go.Lib

set_option maxHeartbeats 1000000 in
theorem letter_as0 (i : Nat) (hi : i = 0) (w : World) : Calls Tryz.prog 121 #[.string { data := #[97, 115] }, .int .i64 (i : Int)] w fun e w' => e = .returned (.int .u8 97) ∧ w' = w := by
  have hm : min (i : Int) 1 = 0 := by omega
  go_enter Tryz.func121, Tryz.ntmps121
  go_wp2
  go_ret
  exact ⟨by first | rfl | simp, rfl⟩

set_option maxHeartbeats 1000000 in
theorem letter_as1 (i : Nat) (h0 : 1 ≤ i) (hi : i ≤ 1000000) (w : World) : Calls Tryz.prog 121 #[.string { data := #[97, 115] }, .int .i64 (i : Int)] w fun e w' => e = .returned (.int .u8 115) ∧ w' = w := by
  have hm : min (i : Int) 1 = 1 := by omega
  go_enter Tryz.func121, Tryz.ntmps121
  go_wp2
  go_ret
  exact ⟨by first | rfl | simp, rfl⟩

set_option maxHeartbeats 8000000 in
set_option maxRecDepth 100000 in
theorem lift_as (vs : List Val) (ab ao C pb : Nat) (q : Val) (w : World) (h0 : 0 < vs.length) (h9 : vs.length ≤ 300)  (hnoL : ∀ (i : Nat) (h : i < vs.length), 1 ≤ i → (vs[i].k == 5) = false) (hv : ValsAt w ab ao vs) (hE : Env w) (hq : q.A = none ∧ q.L = 0 ∧ q.C = 0)
    (hC : ∀ v ∈ vs, ∀ W, Below w.heap.size w W → Calls Tryz.prog 28 #[v.agg] W fun e w' => e = .returned (.int .i64 0) ∧ Below W.heap.size W w')
    (hO : ∀ W, Env W → Calls Tryz.prog 28 #[q.agg] W fun e w' => e = .returned (.int .i64 0) ∧ Below W.heap.size W w')
    (hF : ∀ W g cap, Below w.heap.size w W → ValsAt W g 0 vs → Calls Tryz.prog 36 #[.slice (some ⟨g, 0, none⟩) vs.length cap, .pointer (some ⟨pb, 0, none⟩)] W fun e w' => e = .returned q.agg ∧ Below W.heap.size W w') :
    Calls Tryz.prog 35 #[.string { data := #[97, 115] }, .slice (some ⟨ab, ao, none⟩) vs.length C, .func (.func 36) #[] #[.pointer (some ⟨pb, 0, none⟩)]] w fun e w' => e = .returned (.tuple #[q.agg, .int .i64 0]) ∧ Below w.heap.size w w' := by
  obtain ⟨qk, qn, qd, qt, qon, qc, qr, qs, qA, qL, qC⟩ := q
  obtain ⟨rfl, rfl, rfl⟩ := hq
  have hb : Below w.heap.size w (w.alloc (.cells #[.int .i64 0, .string { data := #[] }, .string { data := #[] }, .string { data := #[] }, .bool false, .int .i64 0, .int .i64 0, .int .i64 0, .slice none 0 0] 27)) := (Below.refl _ _).alloc (Nat.le_refl _) _
  have HR := Lib.hid (heap_alloc_new w (.cells #[.int .i64 0, .string { data := #[] }, .string { data := #[] }, .string { data := #[] }, .bool false, .int .i64 0, .int .i64 0, .int .i64 0, .slice none 0 0] 27))
  have HV := Lib.hid (hv.below hb)
  have HE := Lib.hid (hE.below hb)
  have HL := Lib.hid hb
  have HC := Lib.hid hC
  have HO := Lib.hid (fun W g => valid_of qk qn qd qt qon qc qr qs none 0 0 W hO g)
  have HF := Lib.hid hF
  obtain ⟨L, hL⟩ : ∃ L, vs.length = L := ⟨_, rfl⟩
  have HLL := Lib.hid hL
  rw [hL] at h0 h9 HF ⊢
  have htr := fun W => Any.strings_Trim_laid Tryz.lays160 (by kernel_rfl) { data := #[97, 115] } { data := #[115, 97] } W (by decide) (by decide) (ascii_of_all (by decide))
  rw [show Lib.trimS ({ data := #[97, 115] } : ByteArray).data.toList ({ data := #[115, 97] } : ByteArray).data.toList = [] from by decide] at htr
  have HTR := Lib.hid htr
  have hem : ({ data := #[] } : ByteArray).toList.isEmpty = true := by rw [Lib.toList_data]; rfl
  obtain ⟨B, hB⟩ : ∃ B, w.heap.size = B := ⟨_, rfl⟩
  have HB := Lib.hid hB
  clear hb hv hE hC hO hF hL htr hB
  go_enter Tryz.func35, Tryz.ntmps35
  go_wp2_with fail
  refine (HTR.out _).mono ?_
  rintro e w1 ⟨rfl, hb⟩
  replace HR := Lib.hid (keep_block HR.out hb)
  replace HV := Lib.hid (HV.out.below hb)
  replace HE := Lib.hid (HE.out.below hb)
  replace HL := Lib.hid (HL.out.trans (hb.mono HL.out.size))
  clear hb
  have LI := Lib.hid (show LiftI w ab ao vs w1 from ⟨HR.out, HV.out, HE.out, HL.out⟩)
  clear HR HV HE HL
  go_wp2_with fail
  go_loopg [29] L (fun g v29 wx => ∃ i : Nat, v29 = .int .i64 (i : Int) ∧ i ≤ L ∧ g = L - i ∧ LiftI w ab ao vs wx)
  case atStart => exact ⟨0, rfl, Nat.zero_le _, rfl, LI.out⟩
  case round =>
    obtain ⟨i, rfl, hi, rfl, hli⟩ := hrel
    have HLI := Lib.hid hli
    clear hli LI
    by_cases hlt : i < L
    · have hd : decide ((i : Int) < (L : Int)) = true := decide_eq_true (by omega)
      have hd2 : decide (i < L) = true := decide_eq_true hlt
      have hii : i < vs.length := by rw [HLL.out]; exact hlt
      obtain ⟨c0, c1, c2, c3, c4, c5, c6, c7, c8⟩ := HLI.out.2.1.at i hii
      have hi0 : (0 : Int) ≤ (i : Int) := by omega
      have hi1 : (i : Int) < (L : Int) := by omega
      have TC := Lib.hid (HC.out vs[i] (List.getElem_mem hii))
      have HA := Lib.hid (HLI.out.2.2.2.trans ((Below.refl wr.heap.size wr).alloc (Nat.le_refl _) (.cells #[.int .i64 vs[i].k, .string vs[i].n, .string vs[i].d, .string vs[i].t, .bool vs[i].on, .int .i64 vs[i].c, .int .i64 vs[i].r, .int .i64 vs[i].s, .slice vs[i].A vs[i].L vs[i].C] 27) |>.mono HLI.out.2.2.2.size))
      go_wp2_with fail
      refine (TC.out _ HA.out).mono ?_
      rintro e w2 ⟨rfl, hb⟩
      have HLI2 := Lib.hid ((HLI.out.step ((Below.refl wr.heap.size wr).alloc (Nat.le_refl _) (.cells #[.int .i64 vs[i].k, .string vs[i].n, .string vs[i].d, .string vs[i].t, .bool vs[i].on, .int .i64 vs[i].c, .int .i64 vs[i].r, .int .i64 vs[i].s, .slice vs[i].A vs[i].L vs[i].C] 27))).step hb)
      clear hb c0 c1 c2 c3 c4 c5 c6 c7 c8
      go_wp2
      go_roundg (L - (i + 1))
      case measure => omega
      case rel => exact ⟨i + 1, by go_num, by omega, by omega, HLI2.out⟩
    · have hd : decide ((i : Int) < (L : Int)) = false := decide_eq_false (by omega)
      have hd2 : decide (i < L) = false := decide_eq_false hlt
      clear hlt
      go_wp2_with fail
      go_loopg [11, 12, 42] L (fun g v11 v12 v42 wx => ∃ i : Nat, v11 = .int .i64 0 ∧ v12 = .int .i64 0 ∧ v42 = .int .i64 (i : Int) ∧ i ≤ L ∧ g = L - i ∧ LiftI w ab ao vs wx)
      case atStart => exact ⟨0, rfl, rfl, rfl, Nat.zero_le _, rfl, HLI.out⟩
      case round =>
        clear HLI hd hd2 hi
        obtain ⟨i, rfl, rfl, rfl, hi, rfl, hli⟩ := hrel
        have HLI := Lib.hid hli
        clear hli
        by_cases hlt : i < L
        · have hd : decide ((i : Int) < (L : Int)) = true := decide_eq_true (by omega)
          have hd2 : decide (i < L) = true := decide_eq_true hlt
          have hii : i < vs.length := by rw [HLL.out]; exact hlt
          obtain ⟨c0, c1, c2, c3, c4, c5, c6, c7, c8⟩ := HLI.out.2.1.at i hii
          have hi0 : (0 : Int) ≤ (i : Int) := by omega
          have hi1 : (i : Int) < (L : Int) := by omega
          by_cases h0 : i = 0
          · skip
            have hI := Lib.hid h0
            clear h0
            go_wp2_with fail
            refine (letter_as0 i hI.out _).mono ?_
            rintro e w2 ⟨rfl, rfl⟩
            have HLI2 := Lib.hid (HLI.out.step ((Below.refl wr.heap.size wr).alloc (Nat.le_refl _) (.cells #[.int .i64 vs[i].k, .string vs[i].n, .string vs[i].d, .string vs[i].t, .bool vs[i].on, .int .i64 vs[i].c, .int .i64 vs[i].r, .int .i64 vs[i].s, .slice vs[i].A vs[i].L vs[i].C] 27)))
            go_wp2
            go_roundg (L - (i + 1))
            case measure => omega
            case rel => exact ⟨i + 1, rfl, rfl, by go_num, by omega, by omega, HLI2.out⟩
          · skip
            have hgt : 1 ≤ i := by omega
            have hkf := hnoL i hii hgt
            go_wp2_with fail
            refine (letter_as1 i hgt (by omega) _).mono ?_
            rintro e w2 ⟨rfl, rfl⟩
            have HLI2 := Lib.hid (HLI.out.step ((Below.refl wr.heap.size wr).alloc (Nat.le_refl _) (.cells #[.int .i64 vs[i].k, .string vs[i].n, .string vs[i].d, .string vs[i].t, .bool vs[i].on, .int .i64 vs[i].c, .int .i64 vs[i].r, .int .i64 vs[i].s, .slice vs[i].A vs[i].L vs[i].C] 27)))
            go_wp2
            go_roundg (L - (i + 1))
            case measure => omega
            case rel => exact ⟨i + 1, rfl, rfl, by go_num, by omega, by omega, HLI2.out⟩
        · have hd : decide ((i : Int) < (L : Int)) = false := decide_eq_false (by omega)
          have hd2 : decide (i < L) = false := decide_eq_false hlt
          clear hlt
          obtain ⟨i0, hi0', hz0, hz1, hz2⟩ := info_val
          have hfl : (flat vs).length = L * 9 := by rw [flat_len, HLL.out]
          have hvals := HLI.out.2.1
          have hml : 0 + L ≤ maxLen := by unfold maxLen; omega
          clear hi
          go_wp2_with (at_builtin; refine wpList_append_own _ rfl _ _ 25 rfl w.heap.size 27 i0 _ 9 112 Tryz.underlying25 hi0' hz0 hz1 hz2 rfl (by decide) (.slice none 0 0) 0 [] rfl (World.ownsRow_nil _ _ _ _) ⟨ab, ao, none⟩ L C (flat vs) rfl hfl hvals (flat_one vs) hml (by omega) HLI.out.2.2.2.size ?_)
          intro v5 w5 hown5 hgrow5 _
          obtain ⟨g, cap, rfl, hg, hcap, hva⟩ := vals_of_owns hown5 HLL.out h0
          have HLI5 := Lib.hid (HLI.out.step (below_none hgrow5))
          have HVA := Lib.hid hva
          clear hown5 hgrow5 hg hcap hva hvals hfl hml hi0' hz0 hz1 hz2
          go_wp2_with fail
          refine (HF.out _ g cap HLI5.out.2.2.2 HVA.out).mono ?_
          rintro e w6 ⟨rfl, hb⟩
          have HLI6 := Lib.hid (HLI5.out.step hb)
          clear hb
          unfold Val.agg
          simp only []
          go_wp2_with fail
          refine (HO.out _ HLI6.out.2.2.1).mono ?_
          rintro e w7 ⟨rfl, hb⟩
          have HLI7 := Lib.hid (HLI6.out.step hb)
          clear hb
          have HLI8 := Lib.hid (HLI7.out.step ((Below.refl w7.heap.size w7).alloc (Nat.le_refl _) (.cells #[.int .i64 qk, .string qn, .string qd, .string qt, .bool qon, .int .i64 qc, .int .i64 qr, .int .i64 qs, .slice none 0 0] 27)))
          obtain ⟨⟨a0, a1, a2, a3, a4, a5, a6, a7, a8⟩, b0, b1, b2, b3, b4, b5, b6, b7, b8⟩ := nine_at HLI7.out.1
          obtain ⟨⟨r0, r1, r2, r3, r4, r5, r6, r7, r8⟩, g0, g1, g2, g3, g4, g5, g6, g7, g8⟩ := nine_at HLI8.out.1
          have hlt7 := heap_lt HLI7.out.1
          have HF1 := Lib.hid (set9_at HLI7.out.1 (.int .i64 qk) (.string qn) (.string qd) (.string qt) (.bool qon) (.int .i64 qc) (.int .i64 qr) (.int .i64 qs) (.slice none 0 0))
          have HF2 := Lib.hid ((Below.heap_alloc _ (.cells #[.int .i64 qk, .string qn, .string qd, .string qt, .bool qon, .int .i64 qc, .int .i64 qr, .int .i64 qs, .slice none 0 0] 27) _ (heap_lt HF1.out)).trans HF1.out)
          have HB2 := Lib.hid (nine_end (x0 := (.int .i64 qk)) (x1 := (.string qn)) (x2 := (.string qd)) (x3 := (.string qt)) (x4 := (.bool qon)) (x5 := (.int .i64 qc)) (x6 := (.int .i64 qr)) (x7 := (.int .i64 qs)) (x8 := (.slice none 0 0)) HLI7.out.1 HLI7.out.2.2.2 (Nat.le_refl _)).1
          have HZ2 := Lib.hid (HB2.out.alloc HB2.out.size (.cells #[.int .i64 qk, .string qn, .string qd, .string qt, .bool qon, .int .i64 qc, .int .i64 qr, .int .i64 qs, .slice none 0 0] 27))
          obtain ⟨⟨e0, e1, e2, e3, e4, e5, e6, e7, e8⟩, _⟩ := nine_at HF2.out
          go_wp2
          refine bodyPost_ret (v := .tuple #[.agg #[.int .i64 qk, .string qn, .string qd, .string qt, .bool qon, .int .i64 qc, .int .i64 qr, .int .i64 qs, .slice none 0 0], .int .i64 0]) (by simp [results, Tryz.results35, go_sem, e0, e1, e2, e3, e4, e5, e6, e7, e8]) rfl ⟨rfl, HZ2.out⟩
end Go.Proofs.YtgponoogifeopaaGreatDoor.Num

/- package value: Lift at the kinds 'sas' where no argument is lifted. Conditions: the tables lie as they are laid. -/
namespace Go.Proofs.YtgponoogifeopaaGreatDoor.Num
open Go.RowKit Go.Lib

set_option maxHeartbeats 1000000 in
theorem letter_sas0 (i : Nat) (hi : i = 0) (w : World) : Calls Tryz.prog 121 #[.string { data := #[115, 97, 115] }, .int .i64 (i : Int)] w fun e w' => e = .returned (.int .u8 115) ∧ w' = w := by
  have hm : min (i : Int) 2 = 0 := by omega
  go_enter Tryz.func121, Tryz.ntmps121
  go_wp2
  go_ret
  exact ⟨by first | rfl | simp, rfl⟩

set_option maxHeartbeats 1000000 in
theorem letter_sas1 (i : Nat) (hi : i = 1) (w : World) : Calls Tryz.prog 121 #[.string { data := #[115, 97, 115] }, .int .i64 (i : Int)] w fun e w' => e = .returned (.int .u8 97) ∧ w' = w := by
  have hm : min (i : Int) 2 = 1 := by omega
  go_enter Tryz.func121, Tryz.ntmps121
  go_wp2
  go_ret
  exact ⟨by first | rfl | simp, rfl⟩

set_option maxHeartbeats 1000000 in
theorem letter_sas2 (i : Nat) (h0 : 2 ≤ i) (hi : i ≤ 1000000) (w : World) : Calls Tryz.prog 121 #[.string { data := #[115, 97, 115] }, .int .i64 (i : Int)] w fun e w' => e = .returned (.int .u8 115) ∧ w' = w := by
  have hm : min (i : Int) 2 = 2 := by omega
  go_enter Tryz.func121, Tryz.ntmps121
  go_wp2
  go_ret
  exact ⟨by first | rfl | simp, rfl⟩

set_option maxHeartbeats 8000000 in
set_option maxRecDepth 100000 in
theorem lift_sas (vs : List Val) (ab ao C pb : Nat) (q : Val) (w : World) (h0 : 0 < vs.length) (h9 : vs.length ≤ 300) (hno0 : ∀ (h : 0 < vs.length), (vs[0].k == 5) = false) (hnoL : ∀ (i : Nat) (h : i < vs.length), 2 ≤ i → (vs[i].k == 5) = false) (hv : ValsAt w ab ao vs) (hE : Env w) (hq : q.A = none ∧ q.L = 0 ∧ q.C = 0)
    (hC : ∀ v ∈ vs, ∀ W, Below w.heap.size w W → Calls Tryz.prog 28 #[v.agg] W fun e w' => e = .returned (.int .i64 0) ∧ Below W.heap.size W w')
    (hO : ∀ W, Env W → Calls Tryz.prog 28 #[q.agg] W fun e w' => e = .returned (.int .i64 0) ∧ Below W.heap.size W w')
    (hF : ∀ W g cap, Below w.heap.size w W → ValsAt W g 0 vs → Calls Tryz.prog 36 #[.slice (some ⟨g, 0, none⟩) vs.length cap, .pointer (some ⟨pb, 0, none⟩)] W fun e w' => e = .returned q.agg ∧ Below W.heap.size W w') :
    Calls Tryz.prog 35 #[.string { data := #[115, 97, 115] }, .slice (some ⟨ab, ao, none⟩) vs.length C, .func (.func 36) #[] #[.pointer (some ⟨pb, 0, none⟩)]] w fun e w' => e = .returned (.tuple #[q.agg, .int .i64 0]) ∧ Below w.heap.size w w' := by
  obtain ⟨qk, qn, qd, qt, qon, qc, qr, qs, qA, qL, qC⟩ := q
  obtain ⟨rfl, rfl, rfl⟩ := hq
  have hb : Below w.heap.size w (w.alloc (.cells #[.int .i64 0, .string { data := #[] }, .string { data := #[] }, .string { data := #[] }, .bool false, .int .i64 0, .int .i64 0, .int .i64 0, .slice none 0 0] 27)) := (Below.refl _ _).alloc (Nat.le_refl _) _
  have HR := Lib.hid (heap_alloc_new w (.cells #[.int .i64 0, .string { data := #[] }, .string { data := #[] }, .string { data := #[] }, .bool false, .int .i64 0, .int .i64 0, .int .i64 0, .slice none 0 0] 27))
  have HV := Lib.hid (hv.below hb)
  have HE := Lib.hid (hE.below hb)
  have HL := Lib.hid hb
  have HC := Lib.hid hC
  have HO := Lib.hid (fun W g => valid_of qk qn qd qt qon qc qr qs none 0 0 W hO g)
  have HF := Lib.hid hF
  obtain ⟨L, hL⟩ : ∃ L, vs.length = L := ⟨_, rfl⟩
  have HLL := Lib.hid hL
  rw [hL] at h0 h9 HF ⊢
  have htr := fun W => Any.strings_Trim_laid Tryz.lays160 (by kernel_rfl) { data := #[115, 97, 115] } { data := #[115, 97] } W (by decide) (by decide) (ascii_of_all (by decide))
  rw [show Lib.trimS ({ data := #[115, 97, 115] } : ByteArray).data.toList ({ data := #[115, 97] } : ByteArray).data.toList = [] from by decide] at htr
  have HTR := Lib.hid htr
  have hem : ({ data := #[] } : ByteArray).toList.isEmpty = true := by rw [Lib.toList_data]; rfl
  obtain ⟨B, hB⟩ : ∃ B, w.heap.size = B := ⟨_, rfl⟩
  have HB := Lib.hid hB
  clear hb hv hE hC hO hF hL htr hB
  go_enter Tryz.func35, Tryz.ntmps35
  go_wp2_with fail
  refine (HTR.out _).mono ?_
  rintro e w1 ⟨rfl, hb⟩
  replace HR := Lib.hid (keep_block HR.out hb)
  replace HV := Lib.hid (HV.out.below hb)
  replace HE := Lib.hid (HE.out.below hb)
  replace HL := Lib.hid (HL.out.trans (hb.mono HL.out.size))
  clear hb
  have LI := Lib.hid (show LiftI w ab ao vs w1 from ⟨HR.out, HV.out, HE.out, HL.out⟩)
  clear HR HV HE HL
  go_wp2_with fail
  go_loopg [29] L (fun g v29 wx => ∃ i : Nat, v29 = .int .i64 (i : Int) ∧ i ≤ L ∧ g = L - i ∧ LiftI w ab ao vs wx)
  case atStart => exact ⟨0, rfl, Nat.zero_le _, rfl, LI.out⟩
  case round =>
    obtain ⟨i, rfl, hi, rfl, hli⟩ := hrel
    have HLI := Lib.hid hli
    clear hli LI
    by_cases hlt : i < L
    · have hd : decide ((i : Int) < (L : Int)) = true := decide_eq_true (by omega)
      have hd2 : decide (i < L) = true := decide_eq_true hlt
      have hii : i < vs.length := by rw [HLL.out]; exact hlt
      obtain ⟨c0, c1, c2, c3, c4, c5, c6, c7, c8⟩ := HLI.out.2.1.at i hii
      have hi0 : (0 : Int) ≤ (i : Int) := by omega
      have hi1 : (i : Int) < (L : Int) := by omega
      have TC := Lib.hid (HC.out vs[i] (List.getElem_mem hii))
      have HA := Lib.hid (HLI.out.2.2.2.trans ((Below.refl wr.heap.size wr).alloc (Nat.le_refl _) (.cells #[.int .i64 vs[i].k, .string vs[i].n, .string vs[i].d, .string vs[i].t, .bool vs[i].on, .int .i64 vs[i].c, .int .i64 vs[i].r, .int .i64 vs[i].s, .slice vs[i].A vs[i].L vs[i].C] 27) |>.mono HLI.out.2.2.2.size))
      go_wp2_with fail
      refine (TC.out _ HA.out).mono ?_
      rintro e w2 ⟨rfl, hb⟩
      have HLI2 := Lib.hid ((HLI.out.step ((Below.refl wr.heap.size wr).alloc (Nat.le_refl _) (.cells #[.int .i64 vs[i].k, .string vs[i].n, .string vs[i].d, .string vs[i].t, .bool vs[i].on, .int .i64 vs[i].c, .int .i64 vs[i].r, .int .i64 vs[i].s, .slice vs[i].A vs[i].L vs[i].C] 27))).step hb)
      clear hb c0 c1 c2 c3 c4 c5 c6 c7 c8
      go_wp2
      go_roundg (L - (i + 1))
      case measure => omega
      case rel => exact ⟨i + 1, by go_num, by omega, by omega, HLI2.out⟩
    · have hd : decide ((i : Int) < (L : Int)) = false := decide_eq_false (by omega)
      have hd2 : decide (i < L) = false := decide_eq_false hlt
      clear hlt
      go_wp2_with fail
      go_loopg [11, 12, 42] L (fun g v11 v12 v42 wx => ∃ i : Nat, v11 = .int .i64 0 ∧ v12 = .int .i64 0 ∧ v42 = .int .i64 (i : Int) ∧ i ≤ L ∧ g = L - i ∧ LiftI w ab ao vs wx)
      case atStart => exact ⟨0, rfl, rfl, rfl, Nat.zero_le _, rfl, HLI.out⟩
      case round =>
        clear HLI hd hd2 hi
        obtain ⟨i, rfl, rfl, rfl, hi, rfl, hli⟩ := hrel
        have HLI := Lib.hid hli
        clear hli
        by_cases hlt : i < L
        · have hd : decide ((i : Int) < (L : Int)) = true := decide_eq_true (by omega)
          have hd2 : decide (i < L) = true := decide_eq_true hlt
          have hii : i < vs.length := by rw [HLL.out]; exact hlt
          obtain ⟨c0, c1, c2, c3, c4, c5, c6, c7, c8⟩ := HLI.out.2.1.at i hii
          have hi0 : (0 : Int) ≤ (i : Int) := by omega
          have hi1 : (i : Int) < (L : Int) := by omega
          by_cases h0 : i = 0
          · skip
            have hkf : (vs[i].k == 5) = false := by subst h0; exact hno0 hii
            have hI := Lib.hid h0
            clear h0
            go_wp2_with fail
            refine (letter_sas0 i hI.out _).mono ?_
            rintro e w2 ⟨rfl, rfl⟩
            have HLI2 := Lib.hid (HLI.out.step ((Below.refl wr.heap.size wr).alloc (Nat.le_refl _) (.cells #[.int .i64 vs[i].k, .string vs[i].n, .string vs[i].d, .string vs[i].t, .bool vs[i].on, .int .i64 vs[i].c, .int .i64 vs[i].r, .int .i64 vs[i].s, .slice vs[i].A vs[i].L vs[i].C] 27)))
            go_wp2
            go_roundg (L - (i + 1))
            case measure => omega
            case rel => exact ⟨i + 1, rfl, rfl, by go_num, by omega, by omega, HLI2.out⟩
          · skip
            by_cases h1 : i = 1
            · skip
              have hI := Lib.hid h1
              clear h1
              go_wp2_with fail
              refine (letter_sas1 i hI.out _).mono ?_
              rintro e w2 ⟨rfl, rfl⟩
              have HLI2 := Lib.hid (HLI.out.step ((Below.refl wr.heap.size wr).alloc (Nat.le_refl _) (.cells #[.int .i64 vs[i].k, .string vs[i].n, .string vs[i].d, .string vs[i].t, .bool vs[i].on, .int .i64 vs[i].c, .int .i64 vs[i].r, .int .i64 vs[i].s, .slice vs[i].A vs[i].L vs[i].C] 27)))
              go_wp2
              go_roundg (L - (i + 1))
              case measure => omega
              case rel => exact ⟨i + 1, rfl, rfl, by go_num, by omega, by omega, HLI2.out⟩
            · skip
              have hgt : 2 ≤ i := by omega
              have hkf := hnoL i hii hgt
              go_wp2_with fail
              refine (letter_sas2 i hgt (by omega) _).mono ?_
              rintro e w2 ⟨rfl, rfl⟩
              have HLI2 := Lib.hid (HLI.out.step ((Below.refl wr.heap.size wr).alloc (Nat.le_refl _) (.cells #[.int .i64 vs[i].k, .string vs[i].n, .string vs[i].d, .string vs[i].t, .bool vs[i].on, .int .i64 vs[i].c, .int .i64 vs[i].r, .int .i64 vs[i].s, .slice vs[i].A vs[i].L vs[i].C] 27)))
              go_wp2
              go_roundg (L - (i + 1))
              case measure => omega
              case rel => exact ⟨i + 1, rfl, rfl, by go_num, by omega, by omega, HLI2.out⟩
        · have hd : decide ((i : Int) < (L : Int)) = false := decide_eq_false (by omega)
          have hd2 : decide (i < L) = false := decide_eq_false hlt
          clear hlt
          obtain ⟨i0, hi0', hz0, hz1, hz2⟩ := info_val
          have hfl : (flat vs).length = L * 9 := by rw [flat_len, HLL.out]
          have hvals := HLI.out.2.1
          have hml : 0 + L ≤ maxLen := by unfold maxLen; omega
          clear hi
          go_wp2_with (at_builtin; refine wpList_append_own _ rfl _ _ 25 rfl w.heap.size 27 i0 _ 9 112 Tryz.underlying25 hi0' hz0 hz1 hz2 rfl (by decide) (.slice none 0 0) 0 [] rfl (World.ownsRow_nil _ _ _ _) ⟨ab, ao, none⟩ L C (flat vs) rfl hfl hvals (flat_one vs) hml (by omega) HLI.out.2.2.2.size ?_)
          intro v5 w5 hown5 hgrow5 _
          obtain ⟨g, cap, rfl, hg, hcap, hva⟩ := vals_of_owns hown5 HLL.out h0
          have HLI5 := Lib.hid (HLI.out.step (below_none hgrow5))
          have HVA := Lib.hid hva
          clear hown5 hgrow5 hg hcap hva hvals hfl hml hi0' hz0 hz1 hz2
          go_wp2_with fail
          refine (HF.out _ g cap HLI5.out.2.2.2 HVA.out).mono ?_
          rintro e w6 ⟨rfl, hb⟩
          have HLI6 := Lib.hid (HLI5.out.step hb)
          clear hb
          unfold Val.agg
          simp only []
          go_wp2_with fail
          refine (HO.out _ HLI6.out.2.2.1).mono ?_
          rintro e w7 ⟨rfl, hb⟩
          have HLI7 := Lib.hid (HLI6.out.step hb)
          clear hb
          have HLI8 := Lib.hid (HLI7.out.step ((Below.refl w7.heap.size w7).alloc (Nat.le_refl _) (.cells #[.int .i64 qk, .string qn, .string qd, .string qt, .bool qon, .int .i64 qc, .int .i64 qr, .int .i64 qs, .slice none 0 0] 27)))
          obtain ⟨⟨a0, a1, a2, a3, a4, a5, a6, a7, a8⟩, b0, b1, b2, b3, b4, b5, b6, b7, b8⟩ := nine_at HLI7.out.1
          obtain ⟨⟨r0, r1, r2, r3, r4, r5, r6, r7, r8⟩, g0, g1, g2, g3, g4, g5, g6, g7, g8⟩ := nine_at HLI8.out.1
          have hlt7 := heap_lt HLI7.out.1
          have HF1 := Lib.hid (set9_at HLI7.out.1 (.int .i64 qk) (.string qn) (.string qd) (.string qt) (.bool qon) (.int .i64 qc) (.int .i64 qr) (.int .i64 qs) (.slice none 0 0))
          have HF2 := Lib.hid ((Below.heap_alloc _ (.cells #[.int .i64 qk, .string qn, .string qd, .string qt, .bool qon, .int .i64 qc, .int .i64 qr, .int .i64 qs, .slice none 0 0] 27) _ (heap_lt HF1.out)).trans HF1.out)
          have HB2 := Lib.hid (nine_end (x0 := (.int .i64 qk)) (x1 := (.string qn)) (x2 := (.string qd)) (x3 := (.string qt)) (x4 := (.bool qon)) (x5 := (.int .i64 qc)) (x6 := (.int .i64 qr)) (x7 := (.int .i64 qs)) (x8 := (.slice none 0 0)) HLI7.out.1 HLI7.out.2.2.2 (Nat.le_refl _)).1
          have HZ2 := Lib.hid (HB2.out.alloc HB2.out.size (.cells #[.int .i64 qk, .string qn, .string qd, .string qt, .bool qon, .int .i64 qc, .int .i64 qr, .int .i64 qs, .slice none 0 0] 27))
          obtain ⟨⟨e0, e1, e2, e3, e4, e5, e6, e7, e8⟩, _⟩ := nine_at HF2.out
          go_wp2
          refine bodyPost_ret (v := .tuple #[.agg #[.int .i64 qk, .string qn, .string qd, .string qt, .bool qon, .int .i64 qc, .int .i64 qr, .int .i64 qs, .slice none 0 0], .int .i64 0]) (by simp [results, Tryz.results35, go_sem, e0, e1, e2, e3, e4, e5, e6, e7, e8]) rfl ⟨rfl, HZ2.out⟩
end Go.Proofs.YtgponoogifeopaaGreatDoor.Num

/- package value: Run at a row of fstat's table with the kinds 'as'. Conditions: the tables lie as they are laid. -/
namespace Go.Proofs.YtgponoogifeopaaGreatDoor.Num.Ft
open Go.RowKit Go.Lib Go.MapKept Num
attribute [local go_sem] run_store_func

set_option maxHeartbeats 8000000 in
set_option maxRecDepth 100000 in
theorem run_as_val (i : Nat) (r : Row) (hi : i < allRows.length) (hr : allRows[i] = r) (hraw : isRaw r.fn = false) (hkd : r.kinds = { data := #[97, 115] }) (hfr : ∀ j (hj : j < i), (allRows[i].name == (allRows[j]'(by omega)).name) = false) (vs : List Val) (b ab ao C : Nat) (q : Val) (w : World) (h0 : 0 < vs.length) (h9 : vs.length ≤ 300) (hc1 : r.least ≤ vs.length) (hc2 : (vs.length : Int) ≤ r.most)  (hnoL : ∀ (i : Nat) (h : i < vs.length), 1 ≤ i → (vs[i].k == 5) = false) (hv : ValsAt w ab ao vs) (hE : Env w) (hT : TableAt w b allRows) (hq : q.A = none ∧ q.L = 0 ∧ q.C = 0 ∧ q.r = 0 ∧ q.s = 0)
    (hO : ∀ W, Env W → Calls Tryz.prog 28 #[q.agg] W fun e w' => e = .returned (.int .i64 0) ∧ Below W.heap.size W w') 
    (hC : ∀ v ∈ vs, ∀ W, Below w.heap.size w W → Calls Tryz.prog 28 #[v.agg] W fun e w' => e = .returned (.int .i64 0) ∧ Below W.heap.size W w')
    (hK : ∀ W e g cap, Below w.heap.size w W → Env W → FnAt W e r → ValsAt W g 0 vs → Calls Tryz.prog 180 #[.slice (some ⟨g, 0, none⟩) vs.length cap, .pointer (some ⟨e, 0, none⟩)] W fun e w' => e = .returned q.agg ∧ Below W.heap.size W w') :
    Calls Tryz.prog 25 #[.map (some b), .string r.name, .slice (some ⟨ab, ao, none⟩) vs.length C] w fun e w' => e = .returned (.tuple #[(q).agg, .int .i64 0]) ∧ Below w.heap.size w w' := by
  have hb : Below w.heap.size w (w.alloc (.cells #[.int .i64 0, .string { data := #[] }, .string { data := #[] }, .string { data := #[] }, .bool false, .int .i64 0, .int .i64 0, .int .i64 0, .slice none 0 0] 27)) := (Below.refl _ _).alloc (Nat.le_refl _) _
  have HR := Lib.hid (heap_alloc_new w (.cells #[.int .i64 0, .string { data := #[] }, .string { data := #[] }, .string { data := #[] }, .bool false, .int .i64 0, .int .i64 0, .int .i64 0, .slice none 0 0] 27))
  obtain ⟨v, hrf, hrun⟩ := (hT.below hb).look i hi hfr Tryz.underlying50 Tryz.underlying9
  rw [hr] at hrf hrun
  obtain ⟨e0, rfl, hfn⟩ := rowFn_at hrf hraw
  obtain ⟨name, least, most, kinds, num, F⟩ := r
  simp only at hkd hc1 hc2
  subst hkd
  simp only at hrun ⊢
  have HV := Lib.hid (hv.below hb)
  have HE := Lib.hid (hE.below hb)
  have HL := Lib.hid hb
  have HFN := Lib.hid hfn
  have d1 : decide ((vs.length : Int) < least) = false := decide_eq_false (by omega)
  have d2 : decide (most < (vs.length : Int)) = false := decide_eq_false (by omega)
  have hmf : ∀ (fn : Fn) (first cap : Array Value) (w : World), (Instr.makeFunc fn first cap).run Tryz.prog w = .ok (.func fn first cap) w := fun _ _ _ _ => rfl
  have hb : Below (w.alloc (.cells #[.int .i64 0, .string { data := #[] }, .string { data := #[] }, .string { data := #[] }, .bool false, .int .i64 0, .int .i64 0, .int .i64 0, .slice none 0 0] 27)).heap.size (w.alloc (.cells #[.int .i64 0, .string { data := #[] }, .string { data := #[] }, .string { data := #[] }, .bool false, .int .i64 0, .int .i64 0, .int .i64 0, .slice none 0 0] 27)) ((w.alloc (.cells #[.int .i64 0, .string { data := #[] }, .string { data := #[] }, .string { data := #[] }, .bool false, .int .i64 0, .int .i64 0, .int .i64 0, .slice none 0 0] 27)).alloc (.cells #[.int .i64 least, .int .i64 most, .string { data := #[97, 115] }, .func (.func 180) #[] #[.pointer (some ⟨e0, 0, none⟩)]] 63)) := (Below.refl _ _).alloc (Nat.le_refl _) _
  have HX := Lib.hid (Lib.cell_of_heap (heap_alloc_new (w.alloc (.cells #[.int .i64 0, .string { data := #[] }, .string { data := #[] }, .string { data := #[] }, .bool false, .int .i64 0, .int .i64 0, .int .i64 0, .slice none 0 0] 27)) (.cells #[.int .i64 least, .int .i64 most, .string { data := #[97, 115] }, .func (.func 180) #[] #[.pointer (some ⟨e0, 0, none⟩)]] 63)) 3)
  replace HR := Lib.hid (keep_block HR.out hb)
  replace HV := Lib.hid (HV.out.below hb)
  replace HE := Lib.hid (HE.out.below hb)
  replace HL := Lib.hid (HL.out.trans (hb.mono HL.out.size))
  replace HFN := Lib.hid (HFN.out.below hb)
  have hpos : (w.alloc (.cells #[.int .i64 0, .string { data := #[] }, .string { data := #[] }, .string { data := #[] }, .bool false, .int .i64 0, .int .i64 0, .int .i64 0, .slice none 0 0] 27)).heap.size = w.heap.size + 1 := by simp
  rw [hpos] at HX
  have TL := Lib.hid (lift_as vs ab ao C (w.heap.size + 1) (q) ((w.alloc (.cells #[.int .i64 0, .string { data := #[] }, .string { data := #[] }, .string { data := #[] }, .bool false, .int .i64 0, .int .i64 0, .int .i64 0, .slice none 0 0] 27)).alloc (.cells #[.int .i64 least, .int .i64 most, .string { data := #[97, 115] }, .func (.func 180) #[] #[.pointer (some ⟨e0, 0, none⟩)]] 63)) h0 h9 hnoL HV.out HE.out ⟨hq.1, hq.2.1, hq.2.2.1⟩
    (fun v hv W h => hC v hv W (HL.out.trans (h.mono HL.out.size))) (hO)
    (fun W g cap hbw hva => by
      have h := run1_value (w.heap.size + 1) 0 e0 (.slice (some ⟨g, 0, none⟩) vs.length cap) q.k q.n q.d q.t q.on q.c q.A q.L q.C W ⟨_, _, _, rfl⟩ (cell_below HX.out hbw) (HE.out.below hbw) (fun W' hb' => by
        have h2 := hK W' e0 g cap (HL.out.trans ((hbw.trans (hb'.mono hbw.size)).mono HL.out.size)) (HE.out.below (hbw.trans (hb'.mono hbw.size))) (HFN.out.below (hbw.trans (hb'.mono hbw.size))) (hva.below hb')
        unfold Val.agg at h2
        rw [hq.2.2.2.1, hq.2.2.2.2] at h2
        exact h2)
      unfold Val.agg
      rw [hq.2.2.2.1, hq.2.2.2.2]
      exact h))
  obtain ⟨qq, hqq⟩ : ∃ z, (q) = z := ⟨_, rfl⟩
  rw [hqq] at TL ⊢
  clear hqq hb hv hE hT hC hK hrf hfn hpos hfr hr hi h0 h9 hc1 hc2
  go_enter Tryz.func25, Tryz.ntmps25
  unfold Val.agg at TL ⊢
  go_wp2_with fail
  refine TL.out.mono ?_
  rintro e w2 ⟨rfl, hb2⟩
  replace HR := Lib.hid (keep_block HR.out hb2)
  replace HL := Lib.hid (HL.out.trans (hb2.mono HL.out.size))
  clear hb2
  obtain ⟨⟨r0, r1, r2, r3, r4, r5, r6, r7, r8⟩, g0, g1, g2, g3, g4, g5, g6, g7, g8⟩ := nine_at HR.out
  obtain ⟨nb, z0, z1, z2, z3, z4, z5, z6, z7, z8⟩ := nine_end (x0 := (.int .i64 qq.k)) (x1 := (.string qq.n)) (x2 := (.string qq.d)) (x3 := (.string qq.t)) (x4 := (.bool qq.on)) (x5 := (.int .i64 qq.c)) (x6 := (.int .i64 qq.r)) (x7 := (.int .i64 qq.s)) (x8 := (.slice qq.A qq.L qq.C)) HR.out HL.out (Nat.le_refl _)
  go_wp2
  refine bodyPost_ret (v := .tuple #[.agg #[.int .i64 qq.k, .string qq.n, .string qq.d, .string qq.t, .bool qq.on, .int .i64 qq.c, .int .i64 qq.r, .int .i64 qq.s, .slice qq.A qq.L qq.C], .int .i64 0]) (by simp [results, Tryz.results25, go_sem, z0, z1, z2, z3, z4, z5, z6, z7, z8]) rfl ⟨rfl, nb⟩

end Go.Proofs.YtgponoogifeopaaGreatDoor.Num.Ft

/- package value: Run at a row of fstat's table with the kinds 'sas'. Conditions: the tables lie as they are laid. -/
namespace Go.Proofs.YtgponoogifeopaaGreatDoor.Num.Ft
open Go.RowKit Go.Lib Go.MapKept Num
attribute [local go_sem] run_store_func

set_option maxHeartbeats 8000000 in
set_option maxRecDepth 100000 in
theorem run_sas_val (i : Nat) (r : Row) (hi : i < allRows.length) (hr : allRows[i] = r) (hraw : isRaw r.fn = false) (hkd : r.kinds = { data := #[115, 97, 115] }) (hfr : ∀ j (hj : j < i), (allRows[i].name == (allRows[j]'(by omega)).name) = false) (vs : List Val) (b ab ao C : Nat) (q : Val) (w : World) (h0 : 0 < vs.length) (h9 : vs.length ≤ 300) (hc1 : r.least ≤ vs.length) (hc2 : (vs.length : Int) ≤ r.most) (hno0 : ∀ (h : 0 < vs.length), (vs[0].k == 5) = false) (hnoL : ∀ (i : Nat) (h : i < vs.length), 2 ≤ i → (vs[i].k == 5) = false) (hv : ValsAt w ab ao vs) (hE : Env w) (hT : TableAt w b allRows) (hq : q.A = none ∧ q.L = 0 ∧ q.C = 0 ∧ q.r = 0 ∧ q.s = 0)
    (hO : ∀ W, Env W → Calls Tryz.prog 28 #[q.agg] W fun e w' => e = .returned (.int .i64 0) ∧ Below W.heap.size W w') 
    (hC : ∀ v ∈ vs, ∀ W, Below w.heap.size w W → Calls Tryz.prog 28 #[v.agg] W fun e w' => e = .returned (.int .i64 0) ∧ Below W.heap.size W w')
    (hK : ∀ W e g cap, Below w.heap.size w W → Env W → FnAt W e r → ValsAt W g 0 vs → Calls Tryz.prog 180 #[.slice (some ⟨g, 0, none⟩) vs.length cap, .pointer (some ⟨e, 0, none⟩)] W fun e w' => e = .returned q.agg ∧ Below W.heap.size W w') :
    Calls Tryz.prog 25 #[.map (some b), .string r.name, .slice (some ⟨ab, ao, none⟩) vs.length C] w fun e w' => e = .returned (.tuple #[(q).agg, .int .i64 0]) ∧ Below w.heap.size w w' := by
  have hb : Below w.heap.size w (w.alloc (.cells #[.int .i64 0, .string { data := #[] }, .string { data := #[] }, .string { data := #[] }, .bool false, .int .i64 0, .int .i64 0, .int .i64 0, .slice none 0 0] 27)) := (Below.refl _ _).alloc (Nat.le_refl _) _
  have HR := Lib.hid (heap_alloc_new w (.cells #[.int .i64 0, .string { data := #[] }, .string { data := #[] }, .string { data := #[] }, .bool false, .int .i64 0, .int .i64 0, .int .i64 0, .slice none 0 0] 27))
  obtain ⟨v, hrf, hrun⟩ := (hT.below hb).look i hi hfr Tryz.underlying50 Tryz.underlying9
  rw [hr] at hrf hrun
  obtain ⟨e0, rfl, hfn⟩ := rowFn_at hrf hraw
  obtain ⟨name, least, most, kinds, num, F⟩ := r
  simp only at hkd hc1 hc2
  subst hkd
  simp only at hrun ⊢
  have HV := Lib.hid (hv.below hb)
  have HE := Lib.hid (hE.below hb)
  have HL := Lib.hid hb
  have HFN := Lib.hid hfn
  have d1 : decide ((vs.length : Int) < least) = false := decide_eq_false (by omega)
  have d2 : decide (most < (vs.length : Int)) = false := decide_eq_false (by omega)
  have hmf : ∀ (fn : Fn) (first cap : Array Value) (w : World), (Instr.makeFunc fn first cap).run Tryz.prog w = .ok (.func fn first cap) w := fun _ _ _ _ => rfl
  have hb : Below (w.alloc (.cells #[.int .i64 0, .string { data := #[] }, .string { data := #[] }, .string { data := #[] }, .bool false, .int .i64 0, .int .i64 0, .int .i64 0, .slice none 0 0] 27)).heap.size (w.alloc (.cells #[.int .i64 0, .string { data := #[] }, .string { data := #[] }, .string { data := #[] }, .bool false, .int .i64 0, .int .i64 0, .int .i64 0, .slice none 0 0] 27)) ((w.alloc (.cells #[.int .i64 0, .string { data := #[] }, .string { data := #[] }, .string { data := #[] }, .bool false, .int .i64 0, .int .i64 0, .int .i64 0, .slice none 0 0] 27)).alloc (.cells #[.int .i64 least, .int .i64 most, .string { data := #[115, 97, 115] }, .func (.func 180) #[] #[.pointer (some ⟨e0, 0, none⟩)]] 63)) := (Below.refl _ _).alloc (Nat.le_refl _) _
  have HX := Lib.hid (Lib.cell_of_heap (heap_alloc_new (w.alloc (.cells #[.int .i64 0, .string { data := #[] }, .string { data := #[] }, .string { data := #[] }, .bool false, .int .i64 0, .int .i64 0, .int .i64 0, .slice none 0 0] 27)) (.cells #[.int .i64 least, .int .i64 most, .string { data := #[115, 97, 115] }, .func (.func 180) #[] #[.pointer (some ⟨e0, 0, none⟩)]] 63)) 3)
  replace HR := Lib.hid (keep_block HR.out hb)
  replace HV := Lib.hid (HV.out.below hb)
  replace HE := Lib.hid (HE.out.below hb)
  replace HL := Lib.hid (HL.out.trans (hb.mono HL.out.size))
  replace HFN := Lib.hid (HFN.out.below hb)
  have hpos : (w.alloc (.cells #[.int .i64 0, .string { data := #[] }, .string { data := #[] }, .string { data := #[] }, .bool false, .int .i64 0, .int .i64 0, .int .i64 0, .slice none 0 0] 27)).heap.size = w.heap.size + 1 := by simp
  rw [hpos] at HX
  have TL := Lib.hid (lift_sas vs ab ao C (w.heap.size + 1) (q) ((w.alloc (.cells #[.int .i64 0, .string { data := #[] }, .string { data := #[] }, .string { data := #[] }, .bool false, .int .i64 0, .int .i64 0, .int .i64 0, .slice none 0 0] 27)).alloc (.cells #[.int .i64 least, .int .i64 most, .string { data := #[115, 97, 115] }, .func (.func 180) #[] #[.pointer (some ⟨e0, 0, none⟩)]] 63)) h0 h9 hno0 hnoL HV.out HE.out ⟨hq.1, hq.2.1, hq.2.2.1⟩
    (fun v hv W h => hC v hv W (HL.out.trans (h.mono HL.out.size))) (hO)
    (fun W g cap hbw hva => by
      have h := run1_value (w.heap.size + 1) 0 e0 (.slice (some ⟨g, 0, none⟩) vs.length cap) q.k q.n q.d q.t q.on q.c q.A q.L q.C W ⟨_, _, _, rfl⟩ (cell_below HX.out hbw) (HE.out.below hbw) (fun W' hb' => by
        have h2 := hK W' e0 g cap (HL.out.trans ((hbw.trans (hb'.mono hbw.size)).mono HL.out.size)) (HE.out.below (hbw.trans (hb'.mono hbw.size))) (HFN.out.below (hbw.trans (hb'.mono hbw.size))) (hva.below hb')
        unfold Val.agg at h2
        rw [hq.2.2.2.1, hq.2.2.2.2] at h2
        exact h2)
      unfold Val.agg
      rw [hq.2.2.2.1, hq.2.2.2.2]
      exact h))
  obtain ⟨qq, hqq⟩ : ∃ z, (q) = z := ⟨_, rfl⟩
  rw [hqq] at TL ⊢
  clear hqq hb hv hE hT hC hK hrf hfn hpos hfr hr hi h0 h9 hc1 hc2
  go_enter Tryz.func25, Tryz.ntmps25
  unfold Val.agg at TL ⊢
  go_wp2_with fail
  refine TL.out.mono ?_
  rintro e w2 ⟨rfl, hb2⟩
  replace HR := Lib.hid (keep_block HR.out hb2)
  replace HL := Lib.hid (HL.out.trans (hb2.mono HL.out.size))
  clear hb2
  obtain ⟨⟨r0, r1, r2, r3, r4, r5, r6, r7, r8⟩, g0, g1, g2, g3, g4, g5, g6, g7, g8⟩ := nine_at HR.out
  obtain ⟨nb, z0, z1, z2, z3, z4, z5, z6, z7, z8⟩ := nine_end (x0 := (.int .i64 qq.k)) (x1 := (.string qq.n)) (x2 := (.string qq.d)) (x3 := (.string qq.t)) (x4 := (.bool qq.on)) (x5 := (.int .i64 qq.c)) (x6 := (.int .i64 qq.r)) (x7 := (.int .i64 qq.s)) (x8 := (.slice qq.A qq.L qq.C)) HR.out HL.out (Nat.le_refl _)
  go_wp2
  refine bodyPost_ret (v := .tuple #[.agg #[.int .i64 qq.k, .string qq.n, .string qq.d, .string qq.t, .bool qq.on, .int .i64 qq.c, .int .i64 qq.r, .int .i64 qq.s, .slice qq.A qq.L qq.C], .int .i64 0]) (by simp [results, Tryz.results25, go_sem, z0, z1, z2, z3, z4, z5, z6, z7, z8]) rfl ⟨rfl, nb⟩

end Go.Proofs.YtgponoogifeopaaGreatDoor.Num.Ft

/- package fstat: the law's stat at rows with the kinds 'as' and 'sas'. Conditions: the tables lie as they are laid. -/
namespace Go.Proofs.YtgponoogifeopaaGreatDoor.Num.Ft
open Go.RowKit Go.Lib Go.MapKept Num
/-- the law's stat at a row with the kinds 'as' -/
theorem stat_as (i : Nat) (r : Row) (hi : i < allRows.length) (hr : allRows[i] = r) (hraw : isRaw r.fn = false) (hkd : r.kinds = { data := #[97, 115] }) (hfr : ∀ j (hj : j < i), (allRows[i].name == (allRows[j]'(by omega)).name) = false) (hnum : r.num = false) (eF : ∀ args w, (callFunc r.fn args).run Tryz.prog w = .ok (.enter r.fn args) w) (vs : List Val) (ab ao C : Nat) (q : Rat) (w : World) (h0 : 0 < vs.length) (h9 : vs.length ≤ 300) (hc1 : r.least ≤ vs.length) (hc2 : (vs.length : Int) ≤ r.most) (hnoL : ∀ (i : Nat) (h : i < vs.length), 1 ≤ i → (vs[i].k == 5) = false) (hv : ValsAt w ab ao vs) (hE : Env w) (hq : fits q = true)
    (hC : ∀ v ∈ vs, ∀ W, Below w.heap.size w W → Env W → Calls Tryz.prog 28 #[v.agg] W fun e w' => e = .returned (.int .i64 0) ∧ Below W.heap.size W w')
    (hF : ∀ W b g cap, Below w.heap.size w W → w.heap.size ≤ b → Env W → Past b → ArgsAt W b (some ⟨g, 0, none⟩) vs.length cap 0 → ValsAt W g 0 vs → g ≠ b → Calls Tryz.prog r.fn #[.pointer (some ⟨b, 0, none⟩)] W fun e w' => e = .returned (fracV q) ∧ W.grownBy w' (some b)) :
    Calls Tryz.prog 10 #[.string r.name, .slice (some ⟨ab, ao, none⟩) vs.length C] w fun e w' => e = .returned (numVal q) ∧ Below w.heap.size w w' :=
  math_of r.name (.slice (some ⟨ab, ao, none⟩) vs.length C) (numVal' q) w ⟨_, _, _, rfl⟩ (fun W b hb hT =>
    run_as_val i r hi hr hraw hkd hfr vs b ab ao C (numVal' q) W h0 h9 hc1 hc2 hnoL (hv.below hb) (hE.below hb) hT ⟨rfl, rfl, rfl, rfl, rfl⟩ (fun W g => check_num q W hq g)
      (fun v hv' W' h => hC v hv' W' (hb.trans (h.mono hb.size)) ((hE.below hb).below h))
      (fun W' e g cap hb' hE' hfn hva => entryn2_val r g cap e vs q W' hnum hfn eF hE' hva hq (fun W'' b' hb'' hE'' hP hbl _ ha hva' hne =>
        hF W'' b' g cap (hb.trans ((hb'.trans (hb''.mono hb'.size)).mono hb.size)) (Nat.le_trans hb.size (Nat.le_trans hb'.size hbl)) hE'' hP ha hva' hne) h0))
/-- the law's stat at a row with the kinds 'sas' -/
theorem stat_sas (i : Nat) (r : Row) (hi : i < allRows.length) (hr : allRows[i] = r) (hraw : isRaw r.fn = false) (hkd : r.kinds = { data := #[115, 97, 115] }) (hfr : ∀ j (hj : j < i), (allRows[i].name == (allRows[j]'(by omega)).name) = false) (hnum : r.num = false) (eF : ∀ args w, (callFunc r.fn args).run Tryz.prog w = .ok (.enter r.fn args) w) (vs : List Val) (ab ao C : Nat) (q : Rat) (w : World) (h0 : 0 < vs.length) (h9 : vs.length ≤ 300) (hc1 : r.least ≤ vs.length) (hc2 : (vs.length : Int) ≤ r.most) (hno0 : ∀ (h : 0 < vs.length), (vs[0].k == 5) = false) (hnoL : ∀ (i : Nat) (h : i < vs.length), 2 ≤ i → (vs[i].k == 5) = false) (hv : ValsAt w ab ao vs) (hE : Env w) (hq : fits q = true)
    (hC : ∀ v ∈ vs, ∀ W, Below w.heap.size w W → Env W → Calls Tryz.prog 28 #[v.agg] W fun e w' => e = .returned (.int .i64 0) ∧ Below W.heap.size W w')
    (hF : ∀ W b g cap, Below w.heap.size w W → w.heap.size ≤ b → Env W → Past b → ArgsAt W b (some ⟨g, 0, none⟩) vs.length cap 0 → ValsAt W g 0 vs → g ≠ b → Calls Tryz.prog r.fn #[.pointer (some ⟨b, 0, none⟩)] W fun e w' => e = .returned (fracV q) ∧ W.grownBy w' (some b)) :
    Calls Tryz.prog 10 #[.string r.name, .slice (some ⟨ab, ao, none⟩) vs.length C] w fun e w' => e = .returned (numVal q) ∧ Below w.heap.size w w' :=
  math_of r.name (.slice (some ⟨ab, ao, none⟩) vs.length C) (numVal' q) w ⟨_, _, _, rfl⟩ (fun W b hb hT =>
    run_sas_val i r hi hr hraw hkd hfr vs b ab ao C (numVal' q) W h0 h9 hc1 hc2 hno0 hnoL (hv.below hb) (hE.below hb) hT ⟨rfl, rfl, rfl, rfl, rfl⟩ (fun W g => check_num q W hq g)
      (fun v hv' W' h => hC v hv' W' (hb.trans (h.mono hb.size)) ((hE.below hb).below h))
      (fun W' e g cap hb' hE' hfn hva => entryn2_val r g cap e vs q W' hnum hfn eF hE' hva hq (fun W'' b' hb'' hE'' hP hbl _ ha hva' hne =>
        hF W'' b' g cap (hb.trans ((hb'.trans (hb''.mono hb'.size)).mono hb.size)) (Nat.le_trans hb.size (Nat.le_trans hb'.size hbl)) hE'' hP ha hva' hne) h0))
end Go.Proofs.YtgponoogifeopaaGreatDoor.Num.Ft

/- package fstat: the law's stat at LARGE, SMALL, RANK, MIN, MAX, PERCENTILE, QUARTILE, MEDIAN, COUNT of one array of small numbers. Conditions: the tables lie as they are laid. -/
namespace Go.Proofs.YtgponoogifeopaaGreatDoor.Num.Ft
open Go.RowKit Go.Lib Go.MapKept Num

/-- the law's stat at an array and a number -/
theorem stat_as2 (i : Nat) (r : Row) (hi : i < allRows.length) (hr : allRows[i] = r) (hraw : isRaw r.fn = false) (hkd : r.kinds = { data := #[97, 115] }) (hfr : ∀ j (hj : j < i), (allRows[i].name == (allRows[j]'(by omega)).name) = false) (hnum : r.num = false) (hc1 : r.least = 2) (hc2 : r.most = 2) (eF : ∀ args w, (callFunc r.fn args).run Tryz.prog w = .ok (.enter r.fn args) w) (qs : List Rat) (q1 q : Rat) (rr ss : Int) (gi Ci ab ao C : Nat) (w : World) (hA : AArg w (arrVal' rr ss gi qs.length Ci) qs) (hav : ValsAt w gi 0 (numVals qs)) (h0 : 0 < qs.length) (hqs : ∀ x ∈ qs, fits x = true) (hq1 : fits q1 = true) (hq : fits q = true) (hF : ∀ (W : World) (b g cap : Nat), Env W → Past b → ArgsAt W b (some ⟨g, 0, none⟩) 2 cap 0 → ValsAt W g 0 [arrVal' rr ss gi qs.length Ci, numVal' q1] → ValsAt W gi 0 (numVals qs) → g ≠ b → gi ≠ b → Calls Tryz.prog r.fn #[.pointer (some ⟨b, 0, none⟩)] W fun e w' => e = .returned (fracV q) ∧ W.grownBy w' (some b)) (hv : ValsAt w ab ao [arrVal' rr ss gi qs.length Ci, numVal' q1]) (hE : Env w) :
    Calls Tryz.prog 10 #[.string r.name, .slice (some ⟨ab, ao, none⟩) 2 C] w fun e w' => e = .returned (numVal q) ∧ Below w.heap.size w w' :=
  stat_as i r hi hr hraw hkd hfr hnum eF [arrVal' rr ss gi qs.length Ci, numVal' q1] ab ao C q w (show 0 < 2 by decide) (show 2 ≤ 300 by decide) (by rw [hc1]; exact (show (2 : Int) ≤ ((2 : Nat) : Int) by decide)) (by rw [hc2]; exact (show ((2 : Nat) : Int) ≤ 2 by decide))
    (fun i h hge => by
      have h2 : i < 2 := h
      obtain rfl : i = 1 := by omega
      rfl) hv hE hq
    (fun v hv' W hb hE' => by
      simp only [List.mem_cons, List.not_mem_nil, or_false] at hv'
      rcases hv' with rfl | rfl
      · exact (hA.below hb).check hqs hE'
      · exact check_num _ W hq1 hE')
    (fun W b g cap hb hge hE' hP ha hva hne => hF W b g cap hE' hP ha hva (hav.below hb) hne (by
      have h2 : gi < w.heap.size := cell_lt (hav.at 0 (by rw [numVals_len]; exact h0)).1
      omega))
/-- the law's stat at a number and an array -/
theorem stat_sas2 (i : Nat) (r : Row) (hi : i < allRows.length) (hr : allRows[i] = r) (hraw : isRaw r.fn = false) (hkd : r.kinds = { data := #[115, 97, 115] }) (hfr : ∀ j (hj : j < i), (allRows[i].name == (allRows[j]'(by omega)).name) = false) (hnum : r.num = false) (hc1 : r.least = 2) (hc2 : r.most = 3) (eF : ∀ args w, (callFunc r.fn args).run Tryz.prog w = .ok (.enter r.fn args) w) (qs : List Rat) (q1 q : Rat) (rr ss : Int) (gi Ci ab ao C : Nat) (w : World) (hA : AArg w (arrVal' rr ss gi qs.length Ci) qs) (hav : ValsAt w gi 0 (numVals qs)) (h0 : 0 < qs.length) (hqs : ∀ x ∈ qs, fits x = true) (hq1 : fits q1 = true) (hq : fits q = true) (hF : ∀ (W : World) (b g cap : Nat), Env W → Past b → ArgsAt W b (some ⟨g, 0, none⟩) 2 cap 0 → ValsAt W g 0 [numVal' q1, arrVal' rr ss gi qs.length Ci] → ValsAt W gi 0 (numVals qs) → g ≠ b → gi ≠ b → Calls Tryz.prog r.fn #[.pointer (some ⟨b, 0, none⟩)] W fun e w' => e = .returned (fracV q) ∧ W.grownBy w' (some b)) (hv : ValsAt w ab ao [numVal' q1, arrVal' rr ss gi qs.length Ci]) (hE : Env w) :
    Calls Tryz.prog 10 #[.string r.name, .slice (some ⟨ab, ao, none⟩) 2 C] w fun e w' => e = .returned (numVal q) ∧ Below w.heap.size w w' :=
  stat_sas i r hi hr hraw hkd hfr hnum eF [numVal' q1, arrVal' rr ss gi qs.length Ci] ab ao C q w (show 0 < 2 by decide) (show 2 ≤ 300 by decide) (by rw [hc1]; exact (show (2 : Int) ≤ ((2 : Nat) : Int) by decide)) (by rw [hc2]; exact (show ((2 : Nat) : Int) ≤ 3 by decide))
    (fun _ => rfl)
    (fun i h hge => by
      have h2 : i < 2 := h
      omega) hv hE hq
    (fun v hv' W hb hE' => by
      simp only [List.mem_cons, List.not_mem_nil, or_false] at hv'
      rcases hv' with rfl | rfl
      · exact check_num _ W hq1 hE'
      · exact (hA.below hb).check hqs hE')
    (fun W b g cap hb hge hE' hP ha hva hne => hF W b g cap hE' hP ha hva (hav.below hb) hne (by
      have h2 : gi < w.heap.size := cell_lt (hav.at 0 (by rw [numVals_len]; exact h0)).1
      omega))
section
variable {qs : List Rat} (h0 : 0 < qs.length) (h9 : qs.length ≤ 1000) (hs : ∀ q ∈ qs, Sm q 1000 1) {w : World} {rr ss : Int} {gi Ci ab ao C : Nat} (hA : AArg w (arrVal' rr ss gi qs.length Ci) qs) (hav : ValsAt w gi 0 (numVals qs)) (hE : Env w)
include hs in
theorem each_fits : ∀ q ∈ qs, fits q = true := fun q hq => (hs q hq).fits (by decide +kernel) (by decide +kernel)
include hs in
theorem place_fits {m : Nat} (hm : m < qs.length) : fits ((sortL qs).getD m 0) = true := by
  have hl := sortL_len qs
  exact (ss_sm (sorted_sm hs) (by omega)).fits (by decide +kernel) (by decide +kernel)
include h0 h9 hs hA hav hE
theorem s_LARGE (k m : Nat) (hk : 1 ≤ k) (hkL : k ≤ qs.length) (hm : m + 1 = qs.length + 1 - k) (hv : ValsAt w ab ao [arrVal' rr ss gi qs.length Ci, numVal' ((k : Int) : Rat)]) :
    Calls Tryz.prog 10 #[.string { data := #[76, 65, 82, 71, 69] }, .slice (some ⟨ab, ao, none⟩) 2 C] w fun e w' => e = .returned (numVal ((sortL qs).getD m 0)) ∧ Below w.heap.size w w' :=
  stat_as2 11 ⟨{ data := #[76, 65, 82, 71, 69] }, 2, 2, { data := #[97, 115] }, false, 95⟩ (by decide) rfl (by kernel_rfl) rfl (fr_of 11 (by decide) (by kernel_rfl)) rfl rfl rfl (enters_of Tryz.func95 (by kernel_rfl) rfl) qs ((k : Int) : Rat) ((sortL qs).getD m 0) rr ss gi Ci ab ao C w hA hav h0 (each_fits hs) (fits_int _ (by omega)) (place_fits hs (by omega)) (fun W b g cap hE' hP ha hva hav' hne hgi => large_any k m _ qs rr ss gi Ci b g cap W hk hkL hm rfl (each_fits hs) h9 ha hva hav' hne hgi hE' hP) hv hE
theorem s_SMALL (k m : Nat) (hk : 1 ≤ k) (hkL : k ≤ qs.length) (hm : m + 1 = k) (hv : ValsAt w ab ao [arrVal' rr ss gi qs.length Ci, numVal' ((k : Int) : Rat)]) :
    Calls Tryz.prog 10 #[.string { data := #[83, 77, 65, 76, 76] }, .slice (some ⟨ab, ao, none⟩) 2 C] w fun e w' => e = .returned (numVal ((sortL qs).getD m 0)) ∧ Below w.heap.size w w' :=
  stat_as2 12 ⟨{ data := #[83, 77, 65, 76, 76] }, 2, 2, { data := #[97, 115] }, false, 97⟩ (by decide) rfl (by kernel_rfl) rfl (fr_of 12 (by decide) (by kernel_rfl)) rfl rfl rfl (enters_of Tryz.func97 (by kernel_rfl) rfl) qs ((k : Int) : Rat) ((sortL qs).getD m 0) rr ss gi Ci ab ao C w hA hav h0 (each_fits hs) (fits_int _ (by omega)) (place_fits hs (by omega)) (fun W b g cap hE' hP ha hva hav' hne hgi => small_any k m _ qs rr ss gi Ci b g cap W hk hkL hm rfl (each_fits hs) h9 ha hva hav' hne hgi hE' hP) hv hE
theorem s_PCTL {x v : Rat} (hx : Sm x 1 2) (hQ : QuantF qs x v) (hfv : fits v = true) (hv : ValsAt w ab ao [arrVal' rr ss gi qs.length Ci, numVal' x]) :
    Calls Tryz.prog 10 #[.string { data := #[80, 69, 82, 67, 69, 78, 84, 73, 76, 69] }, .slice (some ⟨ab, ao, none⟩) 2 C] w fun e w' => e = .returned (numVal v) ∧ Below w.heap.size w w' :=
  stat_as2 14 ⟨{ data := #[80, 69, 82, 67, 69, 78, 84, 73, 76, 69] }, 2, 2, { data := #[97, 115] }, false, 99⟩ (by decide) rfl (by kernel_rfl) rfl (fr_of 14 (by decide) (by kernel_rfl)) rfl rfl rfl (enters_of Tryz.func99 (by kernel_rfl) rfl) qs x v rr ss gi Ci ab ao C w hA hav h0 (each_fits hs) (hx.fits (by decide +kernel) (by decide +kernel)) hfv (fun W b g cap hE' hP ha hva hav' hne hgi => pctl_any x v qs rr ss gi Ci b g cap W hQ (hx.fits (by decide +kernel) (by decide +kernel)) h0 h9 ha hva hav' hne hgi hE' hP) hv hE
theorem s_QUART (hv : ValsAt w ab ao [arrVal' rr ss gi qs.length Ci, numVal' ((2 : Int) : Rat)]) :
    Calls Tryz.prog 10 #[.string { data := #[81, 85, 65, 82, 84, 73, 76, 69] }, .slice (some ⟨ab, ao, none⟩) 2 C] w fun e w' => e = .returned (numVal (percR (sortL qs) halfR ((qs.length - 1) / 2))) ∧ Below w.heap.size w w' :=
  stat_as2 15 ⟨{ data := #[81, 85, 65, 82, 84, 73, 76, 69] }, 2, 2, { data := #[97, 115] }, false, 103⟩ (by decide) rfl (by kernel_rfl) rfl (fr_of 15 (by decide) (by kernel_rfl)) rfl rfl rfl (enters_of Tryz.func103 (by kernel_rfl) rfl) qs ((2 : Int) : Rat) _ rr ss gi Ci ab ao C w hA hav h0 (each_fits hs) (fits_int _ (by decide)) (half_fits h0 h9 hs) (fun W b g cap hE' hP ha hva hav' hne hgi => quartile_any 2 halfR _ qs rr ss gi Ci b g cap W (by decide) half_four (half_sm.fits (by decide +kernel) (by decide +kernel)) (quant_half h0 h9 hs) h0 h9 ha hva hav' hne hgi hE' hP) hv hE
theorem s_RANK (x : Rat) (hx : x ∈ qs) (hv : ValsAt w ab ao [numVal' x, arrVal' rr ss gi qs.length Ci]) :
    Calls Tryz.prog 10 #[.string { data := #[82, 65, 78, 75] }, .slice (some ⟨ab, ao, none⟩) 2 C] w fun e w' => e = .returned (numVal (((1 + overN x qs qs.length : Nat) : Int) : Rat)) ∧ Below w.heap.size w w' :=
  stat_sas2 13 ⟨{ data := #[82, 65, 78, 75] }, 2, 3, { data := #[115, 97, 115] }, false, 98⟩ (by decide) rfl (by kernel_rfl) rfl (fr_of 13 (by decide) (by kernel_rfl)) rfl rfl rfl (enters_of Tryz.func98 (by kernel_rfl) rfl) qs x _ rr ss gi Ci ab ao C w hA hav h0 (each_fits hs) (each_fits hs x hx) (fits_int _ (by have := overN_le x qs qs.length; omega)) (fun W b g cap hE' hP ha hva hav' hne hgi => rank_any x qs rr ss gi Ci b g cap W hx (each_fits hs) h9 ha hva hav' hne hgi hE' hP) hv hE
theorem s_MIN (hv : ValsAt w ab ao [arrVal' rr ss gi qs.length Ci]) :
    Calls Tryz.prog 10 #[.string { data := #[77, 73, 78] }, .slice (some ⟨ab, ao, none⟩) 1 C] w fun e w' => e = .returned (numVal ((sortL qs).getD 0 0)) ∧ Below w.heap.size w w' :=
  stat_n 4 ⟨{ data := #[77, 73, 78] }, 1, 255, { data := #[97] }, false, 83⟩ (by decide) rfl (by kernel_rfl) rfl (fr_of 4 (by decide) (by kernel_rfl)) rfl rfl rfl (enters_of Tryz.func83 (by kernel_rfl) rfl) qs _ rr ss gi Ci ab ao C w hA hav h0 h9 (each_fits hs) (place_fits hs h0) (fun W b g cap hE' hP ha hva hav' hne hgi => min_any _ qs rr ss gi Ci b g cap W (end_first qs h0) (each_fits hs) h0 h9 ha hva hav' hne hgi hE' hP) hv hE
theorem s_MAX (hv : ValsAt w ab ao [arrVal' rr ss gi qs.length Ci]) :
    Calls Tryz.prog 10 #[.string { data := #[77, 65, 88] }, .slice (some ⟨ab, ao, none⟩) 1 C] w fun e w' => e = .returned (numVal ((sortL qs).getD (qs.length - 1) 0)) ∧ Below w.heap.size w w' :=
  stat_n 5 ⟨{ data := #[77, 65, 88] }, 1, 255, { data := #[97] }, false, 85⟩ (by decide) rfl (by kernel_rfl) rfl (fr_of 5 (by decide) (by kernel_rfl)) rfl rfl rfl (enters_of Tryz.func85 (by kernel_rfl) rfl) qs _ rr ss gi Ci ab ao C w hA hav h0 h9 (each_fits hs) (place_fits hs (by omega)) (fun W b g cap hE' hP ha hva hav' hne hgi => max_any _ qs rr ss gi Ci b g cap W (end_last qs h0) (each_fits hs) h0 h9 ha hva hav' hne hgi hE' hP) hv hE
theorem s_COUNT (hv : ValsAt w ab ao [arrVal' rr ss gi qs.length Ci]) :
    Calls Tryz.prog 10 #[.string { data := #[67, 79, 85, 78, 84] }, .slice (some ⟨ab, ao, none⟩) 1 C] w fun e w' => e = .returned (numVal (((qs.length : Nat) : Int) : Rat)) ∧ Below w.heap.size w w' :=
  stat_n 0 ⟨{ data := #[67, 79, 85, 78, 84] }, 1, 255, { data := #[97] }, false, 75⟩ (by decide) rfl (by kernel_rfl) rfl (fr_of 0 (by decide) (by kernel_rfl)) rfl rfl rfl (enters_of Tryz.func75 (by kernel_rfl) rfl) qs _ rr ss gi Ci ab ao C w hA hav h0 h9 (each_fits hs) (fits_int _ (by omega)) (fun W b g cap hE' hP ha hva hav' hne hgi => count_any qs rr ss gi Ci b g cap W h0 h9 ha hva hav' hne hgi hE' hP) hv hE
/-- the package variable half as it is laid -/
theorem s_MEDIAN (hh : w.cell? ⟨0, 0, none⟩ = some (.string (numS halfR)) ∧ w.cell? ⟨0, 1, none⟩ = some (.string (denS halfR))) (hv : ValsAt w ab ao [arrVal' rr ss gi qs.length Ci]) :
    Calls Tryz.prog 10 #[.string { data := #[77, 69, 68, 73, 65, 78] }, .slice (some ⟨ab, ao, none⟩) 1 C] w fun e w' => e = .returned (numVal (percR (sortL qs) halfR ((qs.length - 1) / 2))) ∧ Below w.heap.size w w' :=
  stat_mk 9 ⟨{ data := #[77, 69, 68, 73, 65, 78] }, 1, 255, { data := #[97] }, true, 91⟩ (by decide) rfl (by kernel_rfl) rfl (fr_of 9 (by decide) (by kernel_rfl)) rfl rfl rfl (enters_of Tryz.func91 (by kernel_rfl) rfl) qs _
    rr ss gi Ci ab ao C w
    (fun W => W.cell? ⟨0, 0, none⟩ = some (.string (numS halfR)) ∧ W.cell? ⟨0, 1, none⟩ = some (.string (denS halfR)))
    (fun W W' b hK hb hge hg => by
      have hlt : 0 < w.heap.size := cell_lt hh.1
      exact ⟨kept_cell hK.1 hg (show 0 ≠ b by omega), kept_cell hK.2 hg (show 0 ≠ b by omega)⟩)
    (fun W hb => ⟨cell_below hh.1 hb, cell_below hh.2 hb⟩)
    (fun W g C hf hE' hK => by
      rw [fracV_is]
      exact median_any g C qs halfR _ W h0 h9 (each_fits hs) (perc_half h0 h9 hs) hK hf hE')
    hA hav h0 h9 (each_fits hs) (half_fits h0 h9 hs) hv hE
end
end Go.Proofs.YtgponoogifeopaaGreatDoor.Num.Ft
