/- Numbers as texts of digits, fractions, values and the functions of fmath: contracts of the program's functions, joined from smaller texts. Conditions stand at each theorem. -/
import Derived.Test.YtgponoogifeopaaGreatDoorFtpA
import Derived.Test.YtgponoogifeopaaGreatDoorFtsA
import Derived.Test.YtgponoogifeopaaGreatDoorNumH

/- package fstat: PERCENTILE's, LARGE's, SMALL's, MIN's, MAX's functions, and quartile, over their arguments. Conditions: what the inner functions give; the tables lie as they are laid. -/
namespace Go.Proofs.YtgponoogifeopaaGreatDoor.Num.Ft
open Go.RowKit Go.Lib Num

/-- what quantile gives at a row of fractions -/
def QuantF (qs : List Rat) (x v : Rat) : Prop := ∀ (W : World) (g C : Nat), FracsAt W g qs → EnvY W → Calls Tryz.prog 100 #[.slice (some ⟨g, 0, none⟩) qs.length C, .agg #[.string (numS x), .string (denS x)]] W fun e w' => e = .returned (.agg #[.string (numS v), .string (denS v)]) ∧ Below W.heap.size W w'
set_option linter.unusedSimpArgs false in
set_option linter.unusedVariables false in
set_option maxHeartbeats 8000000 in
set_option maxRecDepth 100000 in
theorem pctl_any (x v : Rat) (qs : List Rat) (r s : Int) (gi Ci b g C : Nat) (w : World) (hQ : QuantF qs x v) (hfx : fits x = true) (h0 : 0 < qs.length) (h9 : qs.length ≤ 1000) (ha : ArgsAt w b (some ⟨g, 0, none⟩) 2 C 0) (hv : ValsAt w g 0 [arrVal' r s gi qs.length Ci, numVal' x]) (hav : ValsAt w gi 0 (numVals qs)) (hne : g ≠ b) (hgi : gi ≠ b) (hE : Env w) (hP : Past b) :
    Calls Tryz.prog 99 #[.pointer (some ⟨b, 0, none⟩)] w fun e w' => e = .returned (fracV v) ∧ w.grownBy w' (some b) := by
  have HI := Lib.hid (ArgI.start (vs := [arrVal' r s gi qs.length Ci, numVal' x]) ha hv (show 0 < 2 by decide) hav h0 h9 (show 2 ≤ 300 by decide) hne hgi hE hP)
  unfold QuantF at hQ
  have TQ := Lib.hid hQ
  clear ha hv hav hne hgi hE hP hQ
  rw [fracV_is v]
  go_enter Tryz.func99, Tryz.ntmps99
  go_wp2_with fail
  refine (HI.out.value r s Ci (show 0 < 2 by decide) rfl).mono ?_
  rintro e w1 ⟨rfl, hI⟩
  replace HI := Lib.hid hI
  clear hI
  go_wp2_with fail
  refine (HI.out.inside r s Ci).mono ?_
  rintro e w2 ⟨gF, cF, rfl, hr, hgF, hgb, hI⟩
  replace HI := Lib.hid hI
  have HR := Lib.hid hr
  have HGB := Lib.hid hgb
  clear hI hr hgF hgb
  go_wp2_with fail
  refine (HI.out.num x (show 1 < 2 by decide) rfl hfx).mono ?_
  rintro e w3 ⟨rfl, hI, hg⟩
  replace HI := Lib.hid hI
  replace HR := Lib.hid (RowB.kept HR.out hg HGB.out)
  clear hI hg
  rw [fracV_is x]
  go_wp2_with fail
  refine (TQ.out _ _ _ HR.out.fracs HI.out.env).mono ?_
  rintro e w4 ⟨rfl, hb⟩
  replace HI := Lib.hid (HI.out.step hb)
  clear hb HR
  have HRR := Lib.hid HI.out.res
  obtain ⟨⟨r0, r1⟩, rf0, rf1⟩ := two_at HRR.out
  have HFI := Lib.hid (set2_at HRR.out (.string (numS v)) (.string (denS v)))
  have HG2 := Lib.hid (kept2 HI.out.low (Nat.le_refl _) (.string (numS v)) (.string (denS v)))
  obtain ⟨⟨z0, z1⟩, _⟩ := two_at HFI.out
  go_wp2
  refine bodyPost_ret (v := .agg #[.string (numS v), .string (denS v)]) (by simp [results, Tryz.results99, go_sem, z0, z1]) rfl ⟨rfl, HG2.out⟩
set_option linter.unusedSimpArgs false in
set_option linter.unusedVariables false in
set_option maxHeartbeats 8000000 in
set_option maxRecDepth 100000 in
theorem quartile_any (n : Nat) (x v : Rat) (qs : List Rat) (r s : Int) (gi Ci b g C : Nat) (w : World) (hn4 : n ≤ 4) (hx : ((n : Int) : Rat) / ((4 : Int) : Rat) = x) (hfx : fits x = true) (hQ : QuantF qs x v) (h0 : 0 < qs.length) (h9 : qs.length ≤ 1000) (ha : ArgsAt w b (some ⟨g, 0, none⟩) 2 C 0) (hv : ValsAt w g 0 [arrVal' r s gi qs.length Ci, numVal' ((n : Int) : Rat)]) (hav : ValsAt w gi 0 (numVals qs)) (hne : g ≠ b) (hgi : gi ≠ b) (hE : Env w) (hP : Past b) :
    Calls Tryz.prog 103 #[.pointer (some ⟨b, 0, none⟩)] w fun e w' => e = .returned (fracV v) ∧ w.grownBy w' (some b) := by
  have HI := Lib.hid (ArgI.start (vs := [arrVal' r s gi qs.length Ci, numVal' ((n : Int) : Rat)]) ha hv (show 0 < 2 by decide) hav h0 h9 (show 2 ≤ 300 by decide) hne hgi hE hP)
  unfold QuantF at hQ
  have TQ := Lib.hid hQ
  have TR := Lib.hid (fun (W : World) (h : Env W) => ratio_any (n : Int) 4 W (by decide) (by omega) (by decide) h.tab)
  rw [hx] at TR
  have TM := Lib.hid (fun (W : World) => must_ok x W)
  rw [show wroteV x = .tuple #[fracV x, .int .i64 0] from by unfold wroteV; rw [if_pos hfx]] at TR
  rw [fracV_is x] at TR TM
  have e1 : decide ((n : Int) < 0) = false := decide_eq_false (by omega)
  have e2 : decide ((4 : Int) < (n : Int)) = false := decide_eq_false (by omega)
  have e3 : decide (4 < n) = false := decide_eq_false (by omega)
  have e4 : decide ((n : Int) > 4) = false := decide_eq_false (by omega)
  clear ha hv hav hne hgi hE hP hQ hx
  rw [fracV_is v]
  go_enter Tryz.func103, Tryz.ntmps103
  go_wp2_with fail
  refine (HI.out.value r s Ci (show 0 < 2 by decide) rfl).mono ?_
  rintro e w1 ⟨rfl, hI⟩
  replace HI := Lib.hid hI
  clear hI
  go_wp2_with fail
  refine (HI.out.inside r s Ci).mono ?_
  rintro e w2 ⟨gF, cF, rfl, hr, hgF, hgb, hI⟩
  replace HI := Lib.hid hI
  have HR := Lib.hid hr
  have HGB := Lib.hid hgb
  clear hI hr hgF hgb
  go_wp2_with fail
  refine (HI.out.whole (n : Int) (show 1 < 2 by decide) rfl (by omega)).mono ?_
  rintro e w3 ⟨rfl, hI, hg⟩
  replace HI := Lib.hid hI
  replace HR := Lib.hid (RowB.kept HR.out hg HGB.out)
  clear hI hg
  go_wp2_with fail
  refine (some_any _ _ _ _ h0).mono ?_
  rintro e w4 ⟨rfl, hws⟩
  replace hws := hws.symm
  subst hws
  go_wp2_with fail
  refine (stop_no 5 _).mono ?_
  rintro e w5 ⟨rfl, hws⟩
  replace hws := hws.symm
  subst hws
  go_wp2_with fail
  refine (TR.out _ HI.out.env).mono ?_
  rintro e w6 ⟨rfl, hb⟩
  replace HI := Lib.hid (HI.out.step hb)
  replace HR := Lib.hid (HR.out.below hb)
  clear hb
  go_wp2_with fail
  refine (TM.out _).mono ?_
  rintro e w7 ⟨rfl, hb⟩
  replace HI := Lib.hid (HI.out.step hb)
  replace HR := Lib.hid (HR.out.below hb)
  clear hb
  go_wp2_with fail
  refine (TQ.out _ _ _ HR.out.fracs HI.out.env).mono ?_
  rintro e w8 ⟨rfl, hb⟩
  replace HI := Lib.hid (HI.out.step hb)
  clear hb HR
  have HRR := Lib.hid HI.out.res
  obtain ⟨⟨r0, r1⟩, rf0, rf1⟩ := two_at HRR.out
  have HFI := Lib.hid (set2_at HRR.out (.string (numS v)) (.string (denS v)))
  have HG2 := Lib.hid (kept2 HI.out.low (Nat.le_refl _) (.string (numS v)) (.string (denS v)))
  obtain ⟨⟨z0, z1⟩, _⟩ := two_at HFI.out
  go_wp2
  refine bodyPost_ret (v := .agg #[.string (numS v), .string (denS v)]) (by simp [results, Tryz.results103, go_sem, z0, z1]) rfl ⟨rfl, HG2.out⟩
set_option linter.unusedSimpArgs false in
set_option linter.unusedVariables false in
set_option maxHeartbeats 8000000 in
set_option maxRecDepth 100000 in
theorem large_any (k m : Nat) (v : Rat) (qs : List Rat) (r s : Int) (gi Ci b g C : Nat) (w : World) (hk : 1 ≤ k) (hkL : k ≤ qs.length) (hm : m + 1 = qs.length + 1 - k) (hv9 : (sortL qs).getD m 0 = v) (hq : ∀ q ∈ qs, fits q = true) (h9 : qs.length ≤ 1000) (ha : ArgsAt w b (some ⟨g, 0, none⟩) 2 C 0) (hv : ValsAt w g 0 [arrVal' r s gi qs.length Ci, numVal' ((k : Int) : Rat)]) (hav : ValsAt w gi 0 (numVals qs)) (hne : g ≠ b) (hgi : gi ≠ b) (hE : Env w) (hP : Past b) :
    Calls Tryz.prog 95 #[.pointer (some ⟨b, 0, none⟩)] w fun e w' => e = .returned (fracV v) ∧ w.grownBy w' (some b) := by
  have h0 : 0 < qs.length := by omega
  have hb : Below w.heap.size w (w.alloc (.cells #[.string { data := #[] }, .string { data := #[] }] 24)) := (Below.refl _ _).alloc (Nat.le_refl _) _
  have HR0 := Lib.hid (heap_alloc_new w (.cells #[.string { data := #[] }, .string { data := #[] }] 24))
  have HG := Lib.hid (kept_below (b := b) hb)
  have HBL := Lib.hid (Nat.ne_of_gt (heap_lt ha))
  have TN := Lib.hid (nth_any true k m qs r s gi Ci b g C _ hk hkL (by simpa using hm) hq h9 (keep_block ha hb) (hv.below hb) (hav.below hb) hne hgi (hE.below hb) hP)
  rw [hv9, fracV_is v] at TN
  clear ha hv hav hne hgi hE hP hb hq hv9
  rw [fracV_is v]
  go_enter Tryz.func95, Tryz.ntmps95
  go_wp2_with fail
  refine TN.out.mono ?_
  rintro e w1 ⟨rfl, hg⟩
  have HRR := Lib.hid (kept_block HR0.out hg HBL.out)
  replace HG := Lib.hid (kept_trans HG.out hg)
  clear hg
  obtain ⟨⟨r0, r1⟩, rf0, rf1⟩ := two_at HRR.out
  have HFI := Lib.hid (set2_at HRR.out (.string (numS v)) (.string (denS v)))
  have HG2 := Lib.hid (kept2 HG.out (Nat.le_refl _) (.string (numS v)) (.string (denS v)))
  obtain ⟨⟨z0, z1⟩, _⟩ := two_at HFI.out
  go_wp2
  refine bodyPost_ret (v := .agg #[.string (numS v), .string (denS v)]) (by simp [results, Tryz.results95, go_sem, z0, z1]) rfl ⟨rfl, HG2.out⟩
set_option linter.unusedSimpArgs false in
set_option linter.unusedVariables false in
set_option maxHeartbeats 8000000 in
set_option maxRecDepth 100000 in
theorem small_any (k m : Nat) (v : Rat) (qs : List Rat) (r s : Int) (gi Ci b g C : Nat) (w : World) (hk : 1 ≤ k) (hkL : k ≤ qs.length) (hm : m + 1 = k) (hv9 : (sortL qs).getD m 0 = v) (hq : ∀ q ∈ qs, fits q = true) (h9 : qs.length ≤ 1000) (ha : ArgsAt w b (some ⟨g, 0, none⟩) 2 C 0) (hv : ValsAt w g 0 [arrVal' r s gi qs.length Ci, numVal' ((k : Int) : Rat)]) (hav : ValsAt w gi 0 (numVals qs)) (hne : g ≠ b) (hgi : gi ≠ b) (hE : Env w) (hP : Past b) :
    Calls Tryz.prog 97 #[.pointer (some ⟨b, 0, none⟩)] w fun e w' => e = .returned (fracV v) ∧ w.grownBy w' (some b) := by
  have h0 : 0 < qs.length := by omega
  have hb : Below w.heap.size w (w.alloc (.cells #[.string { data := #[] }, .string { data := #[] }] 24)) := (Below.refl _ _).alloc (Nat.le_refl _) _
  have HR0 := Lib.hid (heap_alloc_new w (.cells #[.string { data := #[] }, .string { data := #[] }] 24))
  have HG := Lib.hid (kept_below (b := b) hb)
  have HBL := Lib.hid (Nat.ne_of_gt (heap_lt ha))
  have TN := Lib.hid (nth_any false k m qs r s gi Ci b g C _ hk hkL (by simpa using hm) hq h9 (keep_block ha hb) (hv.below hb) (hav.below hb) hne hgi (hE.below hb) hP)
  rw [hv9, fracV_is v] at TN
  clear ha hv hav hne hgi hE hP hb hq hv9
  rw [fracV_is v]
  go_enter Tryz.func97, Tryz.ntmps97
  go_wp2_with fail
  refine TN.out.mono ?_
  rintro e w1 ⟨rfl, hg⟩
  have HRR := Lib.hid (kept_block HR0.out hg HBL.out)
  replace HG := Lib.hid (kept_trans HG.out hg)
  clear hg
  obtain ⟨⟨r0, r1⟩, rf0, rf1⟩ := two_at HRR.out
  have HFI := Lib.hid (set2_at HRR.out (.string (numS v)) (.string (denS v)))
  have HG2 := Lib.hid (kept2 HG.out (Nat.le_refl _) (.string (numS v)) (.string (denS v)))
  obtain ⟨⟨z0, z1⟩, _⟩ := two_at HFI.out
  go_wp2
  refine bodyPost_ret (v := .agg #[.string (numS v), .string (denS v)]) (by simp [results, Tryz.results97, go_sem, z0, z1]) rfl ⟨rfl, HG2.out⟩
set_option linter.unusedSimpArgs false in
set_option linter.unusedVariables false in
set_option maxHeartbeats 8000000 in
set_option maxRecDepth 100000 in
theorem min_any (v : Rat) (qs : List Rat) (r s : Int) (gi Ci b g C : Nat) (w : World) (hv9 : endR (-1) qs qs.length = v) (hq : ∀ q ∈ qs, fits q = true) (h0 : 0 < qs.length) (h9 : qs.length ≤ 1000) (ha : ArgsAt w b (some ⟨g, 0, none⟩) 1 C 0) (hv : ValsAt w g 0 [arrVal' r s gi qs.length Ci]) (hav : ValsAt w gi 0 (numVals qs)) (hne : g ≠ b) (hgi : gi ≠ b) (hE : Env w) (hP : Past b) :
    Calls Tryz.prog 83 #[.pointer (some ⟨b, 0, none⟩)] w fun e w' => e = .returned (fracV v) ∧ w.grownBy w' (some b) := by
  have hgl : g < w.heap.size := cell_lt (hv.at 0 (show 0 < 1 by decide)).1
  have hgil : gi < w.heap.size := cell_lt (hav.at 0 (by rw [numVals_len]; exact h0)).1
  have hbl : b < w.heap.size := heap_lt ha
  have hb : Below w.heap.size w (w.alloc (.cells #[.string { data := #[] }, .string { data := #[] }] 24)) := (Below.refl _ _).alloc (Nat.le_refl _) _
  have hpart : ∀ (W : World), Below w.heap.size w W → ∀ j (h : j < ([arrVal' r s gi qs.length Ci] : List Val).length) (h' : j < ([qs] : List (List Rat)).length), NArg W b W.heap.size ([arrVal' r s gi qs.length Ci] : List Val)[j] ([qs] : List (List Rat))[j] := by
    intro W hw j h h'
    have h2 : j < 1 := h'
    obtain rfl : j = 0 := by omega
    exact .inr ⟨r, s, gi, Ci, rfl, h0, h9, Nat.lt_of_lt_of_le hgil hw.size, hgi, hav.below hw⟩
  have TN := Lib.hid (numbers_mix [arrVal' r s gi qs.length Ci] [qs] b g C _ (show 1 ≤ 300 by decide) rfl (by intro x hx; simp only [List.mem_cons, List.not_mem_nil, or_false] at hx; subst hx; exact h9) (by intro x hx; simp only [List.mem_cons, List.not_mem_nil, or_false] at hx; subst hx; exact hq) (keep_block ha hb) (hv.below hb) (hpart _ hb) hne (Nat.lt_of_lt_of_le hgl hb.size) (hE.below hb) hP)
  rw [show (([qs] : List (List Rat)).flatten) = qs by simp] at TN
  have TE := Lib.hid (fun (W : World) (g C : Nat) (hr : FracsAt W g qs) (hE : Env W) => end_any (-1) qs g C W h0 h9 hr hq hE)
  rw [hv9, fracV_is v] at TE
  have HR0 := Lib.hid (heap_alloc_new w (.cells #[.string { data := #[] }, .string { data := #[] }] 24))
  have HG := Lib.hid (kept_below (b := b) hb)
  have HBL := Lib.hid (Nat.ne_of_gt hbl)
  have H0 := Lib.hid h0
  clear ha hv hav hne hgi hE hP hb hq hv9 hpart hgl hgil hbl h0 h9
  rw [fracV_is v]
  go_enter Tryz.func83, Tryz.ntmps83
  go_wp2_with fail
  refine TN.out.mono ?_
  rintro e w1 ⟨u, rfl, ho, hE1, hg⟩
  obtain ⟨gF, cap, rfl, hgF, hrow⟩ := ho.rowB H0.out
  have HRW := Lib.hid hrow
  have HE := Lib.hid hE1
  have HRR := Lib.hid (kept_block HR0.out hg HBL.out)
  replace HG := Lib.hid (kept_trans HG.out hg)
  clear hg ho hrow hgF hE1 TN
  go_wp2_with fail
  refine (TE.out _ _ _ HRW.out.fracs HE.out).mono ?_
  rintro e w2 ⟨rfl, hb⟩
  replace HRR := Lib.hid (keep_block HRR.out hb)
  replace HG := Lib.hid (kept_trans HG.out (kept_below (b := b) hb))
  clear hb
  obtain ⟨⟨r0, r1⟩, rf0, rf1⟩ := two_at HRR.out
  have HFI := Lib.hid (set2_at HRR.out (.string (numS v)) (.string (denS v)))
  have HG2 := Lib.hid (kept2 HG.out (Nat.le_refl _) (.string (numS v)) (.string (denS v)))
  obtain ⟨⟨z0, z1⟩, _⟩ := two_at HFI.out
  go_wp2
  refine bodyPost_ret (v := .agg #[.string (numS v), .string (denS v)]) (by simp [results, Tryz.results83, go_sem, z0, z1]) rfl ⟨rfl, HG2.out⟩
set_option linter.unusedSimpArgs false in
set_option linter.unusedVariables false in
set_option maxHeartbeats 8000000 in
set_option maxRecDepth 100000 in
theorem max_any (v : Rat) (qs : List Rat) (r s : Int) (gi Ci b g C : Nat) (w : World) (hv9 : endR 1 qs qs.length = v) (hq : ∀ q ∈ qs, fits q = true) (h0 : 0 < qs.length) (h9 : qs.length ≤ 1000) (ha : ArgsAt w b (some ⟨g, 0, none⟩) 1 C 0) (hv : ValsAt w g 0 [arrVal' r s gi qs.length Ci]) (hav : ValsAt w gi 0 (numVals qs)) (hne : g ≠ b) (hgi : gi ≠ b) (hE : Env w) (hP : Past b) :
    Calls Tryz.prog 85 #[.pointer (some ⟨b, 0, none⟩)] w fun e w' => e = .returned (fracV v) ∧ w.grownBy w' (some b) := by
  have hgl : g < w.heap.size := cell_lt (hv.at 0 (show 0 < 1 by decide)).1
  have hgil : gi < w.heap.size := cell_lt (hav.at 0 (by rw [numVals_len]; exact h0)).1
  have hbl : b < w.heap.size := heap_lt ha
  have hb : Below w.heap.size w (w.alloc (.cells #[.string { data := #[] }, .string { data := #[] }] 24)) := (Below.refl _ _).alloc (Nat.le_refl _) _
  have hpart : ∀ (W : World), Below w.heap.size w W → ∀ j (h : j < ([arrVal' r s gi qs.length Ci] : List Val).length) (h' : j < ([qs] : List (List Rat)).length), NArg W b W.heap.size ([arrVal' r s gi qs.length Ci] : List Val)[j] ([qs] : List (List Rat))[j] := by
    intro W hw j h h'
    have h2 : j < 1 := h'
    obtain rfl : j = 0 := by omega
    exact .inr ⟨r, s, gi, Ci, rfl, h0, h9, Nat.lt_of_lt_of_le hgil hw.size, hgi, hav.below hw⟩
  have TN := Lib.hid (numbers_mix [arrVal' r s gi qs.length Ci] [qs] b g C _ (show 1 ≤ 300 by decide) rfl (by intro x hx; simp only [List.mem_cons, List.not_mem_nil, or_false] at hx; subst hx; exact h9) (by intro x hx; simp only [List.mem_cons, List.not_mem_nil, or_false] at hx; subst hx; exact hq) (keep_block ha hb) (hv.below hb) (hpart _ hb) hne (Nat.lt_of_lt_of_le hgl hb.size) (hE.below hb) hP)
  rw [show (([qs] : List (List Rat)).flatten) = qs by simp] at TN
  have TE := Lib.hid (fun (W : World) (g C : Nat) (hr : FracsAt W g qs) (hE : Env W) => end_any 1 qs g C W h0 h9 hr hq hE)
  rw [hv9, fracV_is v] at TE
  have HR0 := Lib.hid (heap_alloc_new w (.cells #[.string { data := #[] }, .string { data := #[] }] 24))
  have HG := Lib.hid (kept_below (b := b) hb)
  have HBL := Lib.hid (Nat.ne_of_gt hbl)
  have H0 := Lib.hid h0
  clear ha hv hav hne hgi hE hP hb hq hv9 hpart hgl hgil hbl h0 h9
  rw [fracV_is v]
  go_enter Tryz.func85, Tryz.ntmps85
  go_wp2_with fail
  refine TN.out.mono ?_
  rintro e w1 ⟨u, rfl, ho, hE1, hg⟩
  obtain ⟨gF, cap, rfl, hgF, hrow⟩ := ho.rowB H0.out
  have HRW := Lib.hid hrow
  have HE := Lib.hid hE1
  have HRR := Lib.hid (kept_block HR0.out hg HBL.out)
  replace HG := Lib.hid (kept_trans HG.out hg)
  clear hg ho hrow hgF hE1 TN
  go_wp2_with fail
  refine (TE.out _ _ _ HRW.out.fracs HE.out).mono ?_
  rintro e w2 ⟨rfl, hb⟩
  replace HRR := Lib.hid (keep_block HRR.out hb)
  replace HG := Lib.hid (kept_trans HG.out (kept_below (b := b) hb))
  clear hb
  obtain ⟨⟨r0, r1⟩, rf0, rf1⟩ := two_at HRR.out
  have HFI := Lib.hid (set2_at HRR.out (.string (numS v)) (.string (denS v)))
  have HG2 := Lib.hid (kept2 HG.out (Nat.le_refl _) (.string (numS v)) (.string (denS v)))
  obtain ⟨⟨z0, z1⟩, _⟩ := two_at HFI.out
  go_wp2
  refine bodyPost_ret (v := .agg #[.string (numS v), .string (denS v)]) (by simp [results, Tryz.results85, go_sem, z0, z1]) rfl ⟨rfl, HG2.out⟩
end Go.Proofs.YtgponoogifeopaaGreatDoor.Num.Ft

/- package fstat: count (COUNT) at one array of numbers. Conditions: one to 1000 numbers; the tables lie as they are laid. -/
namespace Go.Proofs.YtgponoogifeopaaGreatDoor.Num.Ft
open Go.RowKit Go.Lib Num

set_option linter.unusedSimpArgs false in
set_option linter.unusedVariables false in
set_option maxHeartbeats 8000000 in
set_option maxRecDepth 100000 in
theorem count_any (qs : List Rat) (r s : Int) (gi Ci b g C : Nat) (w : World) (h0 : 0 < qs.length) (h9 : qs.length ≤ 1000) (ha : ArgsAt w b (some ⟨g, 0, none⟩) 1 C 0) (hv : ValsAt w g 0 [arrVal' r s gi qs.length Ci]) (hav : ValsAt w gi 0 (numVals qs)) (hne : g ≠ b) (hgi : gi ≠ b) (hE : Env w) (hP : Past b) :
    Calls Tryz.prog 75 #[.pointer (some ⟨b, 0, none⟩)] w fun e w' => e = .returned (fracV (((qs.length : Nat) : Int) : Rat)) ∧ w.grownBy w' (some b) := by
  have HI := Lib.hid (ArgI.start (vs := [arrVal' r s gi qs.length Ci]) ha hv (show 0 < 1 by decide) hav h0 h9 (show 1 ≤ 300 by decide) hne hgi hE hP)
  have TO := Lib.hid (c_of (n := ((qs.length : Nat) : Int)) (by omega))
  obtain ⟨z, hz⟩ : ∃ z : Rat, (((qs.length : Nat) : Int) : Rat) = z := ⟨_, rfl⟩
  rw [hz, fracV_is z] at TO
  rw [hz, fracV_is z]
  obtain ⟨L, hL⟩ : ∃ L, qs.length = L := ⟨_, rfl⟩
  have HLL := Lib.hid hL
  rw [hL] at h0 h9 TO HI
  obtain ⟨vs, hvs⟩ : ∃ vs, [arrVal' r s gi L Ci] = vs := ⟨_, rfl⟩
  have HVS := Lib.hid hvs
  rw [hvs] at HI
  have hvl : vs.length = 1 := by rw [← hvs]; rfl
  have HVL := Lib.hid hvl
  obtain ⟨⟨a0, a1⟩, _⟩ := two_at HI.out.args
  rw [hvl] at a0
  clear ha hv hav hne hgi hE hP hz hL hvs hvl
  go_enter Tryz.func75, Tryz.ntmps75
  go_wp2_with fail
  clear a0 a1
  go_loopg [15, 3] 1 (fun gh v15 v3 wx => ∃ j : Nat, v15 = .int .i64 (j : Int) ∧ j ≤ 1 ∧ gh = 1 - j ∧ v3 = .int .i64 (if j = 0 then 0 else (L : Int)) ∧ ArgI w b g C vs gi qs 0 wx)
  case atStart => exact ⟨0, rfl, Nat.zero_le _, rfl, rfl, HI.out⟩
  case round =>
    clear HI
    obtain ⟨j, rfl, hj, rfl, rfl, hI⟩ := hrel
    have HI := Lib.hid hI
    clear hI
    by_cases hj0 : j = 0
    · subst hj0
      have hc := HI.out.vals.at 0 (by rw [HVL.out]; decide)
      have hv0 : vs[0]'(by rw [HVL.out]; decide) = arrVal' r s gi L Ci := by have := HVS.out; subst this; rfl
      rw [hv0] at hc
      obtain ⟨c0, c1, c2, c3, c4, c5, c6, c7, c8⟩ := hc
      simp only [arrVal', Nat.zero_mul, Nat.add_zero, Nat.zero_add] at c0 c1 c2 c3 c4 c5 c6 c7 c8
      have HX := Lib.hid (heap_alloc_new wr (.cells #[.int .i64 5, .string { data := #[] }, .string { data := #[] }, .string { data := #[] }, .bool false, .int .i64 0, .int .i64 r, .int .i64 s, .slice (some ⟨gi, 0, none⟩) L Ci] 27))
      have hb : Below wr.heap.size wr (wr.alloc (.cells #[.int .i64 5, .string { data := #[] }, .string { data := #[] }, .string { data := #[] }, .bool false, .int .i64 0, .int .i64 r, .int .i64 s, .slice (some ⟨gi, 0, none⟩) L Ci] 27)) := (Below.refl _ _).alloc (Nat.le_refl _) _
      have HJ := Lib.hid (HI.out.step hb)
      obtain ⟨⟨x0, x1, x2, x3, x4, x5, x6, x7, x8⟩, _⟩ := nine_at HX.out
      clear hb HI
      go_wp2_with fail
      clear c0 c1 c2 c3 c4 c5 c6 c7 c8 x0 x1 x2 x3 x4 x5 x6 x7 x8
      go_loopg [25, 3] L (fun gh v25 v3 wx => ∃ k : Nat, v25 = .int .i64 (k : Int) ∧ v3 = .int .i64 (k : Int) ∧ k ≤ L ∧ gh = L - k ∧ ArgI w b g C vs gi qs 0 wx)
      case atStart => exact ⟨0, rfl, rfl, Nat.zero_le _, rfl, HJ.out⟩
      case round =>
        clear HJ
        obtain ⟨k, rfl, rfl, hk, rfl, hJ⟩ := hrel
        have HJ := Lib.hid hJ
        clear hJ
        by_cases hlt : k < L
        · have hd : decide ((k : Int) < (L : Int)) = true := decide_eq_true (by omega)
          have hd2 : decide (k < L) = true := decide_eq_true hlt
          have hkq : k < qs.length := by rw [HLL.out]; exact hlt
          obtain ⟨q, hqq⟩ : ∃ q, qs[k] = q := ⟨_, rfl⟩
          obtain ⟨c0, c1, c2, c3, c4, c5, c6, c7, c8⟩ := item_at HJ.out.arr k hkq q hqq
          have hi0 : (0 : Int) ≤ (k : Int) := by omega
          have hi1 : (k : Int) < (L : Int) := by omega
          have hwk : IntKind.i64.wrap ((k : Int) + 1) = (k : Int) + 1 := IntWalk.i64_in _ (by omega)
          clear hkq hqq
          have HX2 := Lib.hid (heap_alloc_new wr (.cells #[.int .i64 1, .string (numS q), .string (denS q), .string { data := #[] }, .bool false, .int .i64 0, .int .i64 0, .int .i64 0, .slice none 0 0] 27))
          have HT := Lib.hid (HJ.out.step ((Below.refl wr.heap.size wr).alloc (Nat.le_refl _) (.cells #[.int .i64 1, .string (numS q), .string (denS q), .string { data := #[] }, .bool false, .int .i64 0, .int .i64 0, .int .i64 0, .slice none 0 0] 27)))
          obtain ⟨⟨x0, x1, x2, x3, x4, x5, x6, x7, x8⟩, _⟩ := nine_at HX2.out
          go_wp2
          go_roundg (L - (k + 1))
          case measure => omega
          case rel => exact ⟨k + 1, by go_num, by go_num, by omega, by omega, HT.out⟩
        · have hd : decide ((k : Int) < (L : Int)) = false := decide_eq_false (by omega)
          have hd2 : decide (k < L) = false := decide_eq_false hlt
          have hkL : k = L := by omega
          subst hkL
          clear hlt
          go_wp2
          go_roundg 0
          case measure => omega
          case rel => exact ⟨1, rfl, Nat.le_refl _, rfl, rfl, HJ.out⟩
    · have hj1 : j = 1 := by omega
      subst hj1
      clear hj0
      go_wp2_with fail
      refine (TO.out _ HI.out.env).mono ?_
      rintro e w9 ⟨rfl, hb⟩
      replace HI := Lib.hid (HI.out.step hb)
      clear hb
      have HRR := Lib.hid HI.out.res
      obtain ⟨⟨r0, r1⟩, rf0, rf1⟩ := two_at HRR.out
      have HFI := Lib.hid (set2_at HRR.out (.string (numS z)) (.string (denS z)))
      have HG2 := Lib.hid (kept2 HI.out.low (Nat.le_refl _) (.string (numS z)) (.string (denS z)))
      obtain ⟨⟨z0, z1⟩, _⟩ := two_at HFI.out
      go_wp2
      refine bodyPost_ret (v := .agg #[.string (numS z), .string (denS z)]) (by simp [results, Tryz.results75, go_sem, z0, z1]) rfl ⟨rfl, HG2.out⟩
end Go.Proofs.YtgponoogifeopaaGreatDoor.Num.Ft

/- Plain facts for the law FstatRanks: the least and the greatest number stand first and last in order; few numbers are greater than one at a place. No conditions. -/
namespace Go.Proofs.YtgponoogifeopaaGreatDoor.Num.Ft
open Go.RowKit Go.Lib Num

theorem cmpR_neg {x y : Rat} : cmpR x y = -1 ↔ x < y := by
  unfold cmpR
  by_cases h : x = y
  · rw [if_pos h, h]; simp [Rat.lt_irrefl]
  · rw [if_neg h]
    by_cases g : x < y
    · rw [if_pos g]; simp [g]
    · rw [if_neg g]; simp [g]
theorem cmpR_pos {x y : Rat} : cmpR x y = 1 ↔ y < x := by
  unfold cmpR
  by_cases h : x = y
  · rw [if_pos h, h]; simp [Rat.lt_irrefl]
  · rw [if_neg h]
    by_cases g : x < y
    · rw [if_pos g]
      refine ⟨fun e => by simp at e, fun e => ?_⟩
      grind
    · rw [if_neg g]
      refine ⟨fun _ => ?_, fun _ => rfl⟩
      grind
theorem end_low (qs : List Rat) : ∀ k, k ≤ qs.length → ∀ i (h : i < qs.length), i < k → endR (-1) qs k ≤ qs[i]
  | 0, _, _, _, h => absurd h (Nat.not_lt_zero _)
  | k + 1, hk, i, hi, h => by
    rw [endR_succ (-1) qs k (by omega)]
    have ih := end_low qs k (by omega)
    split
    · rename_i g
      rw [cmpR_neg] at g
      by_cases e : i = k
      · subst e; exact Rat.le_refl
      · have := ih i hi (by omega)
        grind
    · rename_i g
      rw [cmpR_neg] at g
      by_cases e : i = k
      · subst e; grind
      · exact ih i hi (by omega)
theorem end_high (qs : List Rat) : ∀ k, k ≤ qs.length → ∀ i (h : i < qs.length), i < k → qs[i] ≤ endR 1 qs k
  | 0, _, _, _, h => absurd h (Nat.not_lt_zero _)
  | k + 1, hk, i, hi, h => by
    rw [endR_succ 1 qs k (by omega)]
    have ih := end_high qs k (by omega)
    split
    · rename_i g
      rw [cmpR_pos] at g
      by_cases e : i = k
      · subst e; exact Rat.le_refl
      · have := ih i hi (by omega)
        grind
    · rename_i g
      rw [cmpR_pos] at g
      by_cases e : i = k
      · subst e; grind
      · exact ih i hi (by omega)
theorem sortL_le (qs : List Rat) {i j : Nat} (hi : i < (sortL qs).length) (hj : j < (sortL qs).length) (h : i ≤ j) : (sortL qs)[i] ≤ (sortL qs)[j] := by
  rcases Nat.lt_or_eq_of_le h with g | g
  · exact List.pairwise_iff_getElem.1 (sortL_up qs) i j hi hj g
  · subst g; exact Rat.le_refl
theorem sortL_getD (qs : List Rat) {i : Nat} (hi : i < (sortL qs).length) : (sortL qs).getD i 0 = (sortL qs)[i] := by
  rw [List.getD_eq_getElem?_getD, List.getElem?_eq_getElem hi]; rfl
/-- the least number is the first in order -/
theorem end_first (qs : List Rat) (h0 : 0 < qs.length) : endR (-1) qs qs.length = (sortL qs).getD 0 0 := by
  have hl := sortL_len qs
  rw [sortL_getD qs (by omega)]
  have h1 : (sortL qs)[0]'(by omega) ∈ qs := sortL_mem.1 (List.getElem_mem _)
  obtain ⟨i, hi, e⟩ := List.getElem_of_mem h1
  have a1 := end_low qs qs.length (Nat.le_refl _) i hi hi
  have h2 : endR (-1) qs qs.length ∈ sortL qs := sortL_mem.2 (endR_mem (-1) qs h0 _ (Nat.le_refl _))
  obtain ⟨j, hj, e2⟩ := List.getElem_of_mem h2
  have a2 := sortL_le qs (i := 0) (by omega) hj (Nat.zero_le _)
  rw [e] at a1
  rw [e2] at a2
  exact Rat.le_antisymm a1 a2
theorem end_last (qs : List Rat) (h0 : 0 < qs.length) : endR 1 qs qs.length = (sortL qs).getD (qs.length - 1) 0 := by
  have hl := sortL_len qs
  rw [sortL_getD qs (by omega)]
  have h1 : (sortL qs)[qs.length - 1]'(by omega) ∈ qs := sortL_mem.1 (List.getElem_mem _)
  obtain ⟨i, hi, e⟩ := List.getElem_of_mem h1
  have a1 := end_high qs qs.length (Nat.le_refl _) i hi hi
  have h2 : endR 1 qs qs.length ∈ sortL qs := sortL_mem.2 (endR_mem 1 qs h0 _ (Nat.le_refl _))
  obtain ⟨j, hj, e2⟩ := List.getElem_of_mem h2
  have a2 := sortL_le qs (j := qs.length - 1) hj (by omega) (by omega)
  rw [e] at a1
  rw [e2] at a2
  exact Rat.le_antisymm a2 a1
/-- few numbers are greater than the one at a place -/
theorem over_rank (qs : List Rat) (m : Nat) (hm : m < qs.length) : overN ((sortL qs).getD m 0) qs qs.length + m + 1 ≤ qs.length := by
  have hl := sortL_len qs
  have hm' : m < (sortL qs).length := by omega
  rw [sortL_getD qs hm']
  unfold overN
  rw [List.take_length]
  have hp := ((sortL_perm qs).filter (fun y => decide (cmpR y (sortL qs)[m] = 1))).length_eq
  rw [← hp]
  have hs : (sortL qs) = (sortL qs).take (m + 1) ++ (sortL qs).drop (m + 1) := (List.take_append_drop _ _).symm
  have h1 : ((sortL qs).filter (fun y => decide (cmpR y (sortL qs)[m] = 1))).length = (((sortL qs).take (m + 1)).filter (fun y => decide (cmpR y (sortL qs)[m] = 1))).length + (((sortL qs).drop (m + 1)).filter (fun y => decide (cmpR y (sortL qs)[m] = 1))).length := by
    rw [← List.length_append, ← List.filter_append, List.take_append_drop]
  have h2 : ((sortL qs).take (m + 1)).filter (fun y => decide (cmpR y (sortL qs)[m] = 1)) = [] := by
    rw [List.filter_eq_nil_iff]
    intro a ha
    obtain ⟨i, hi, e⟩ := List.getElem_of_mem ha
    rw [List.length_take] at hi
    rw [List.getElem_take] at e
    have := sortL_le qs (i := i) (j := m) (by omega) hm' (by omega)
    rw [e] at this
    simp only [decide_eq_true_eq, cmpR_pos]
    grind
  have h3 := List.length_filter_le (fun y => decide (cmpR y (sortL qs)[m] = 1)) ((sortL qs).drop (m + 1))
  rw [List.length_drop] at h3
  rw [h1, h2]
  simp only [List.length_nil]
  omega
end Go.Proofs.YtgponoogifeopaaGreatDoor.Num.Ft

/- package fstat: quantiles at 0, 1/2 and 1 of a row of small numbers. Conditions: the tables lie as they are laid. -/
namespace Go.Proofs.YtgponoogifeopaaGreatDoor.Num.Ft
open Go.RowKit Go.Lib Num

/-- the number at a place of numbers in order -/
def percR (ss : List Rat) (x : Rat) (k : Nat) : Rat := if k + 1 = ss.length then ss.getD k 0 else ss.getD k 0 + (x * (((ss.length : Int) - 1 : Int) : Rat) - ((k : Int) : Rat)) * (ss.getD (k + 1) 0 - ss.getD k 0)
section
variable {ss : List Rat} {x : Rat} {k : Nat} (hn9 : ss.length ≤ 1000) (hk : k < ss.length) (hx : Sm x 1 2) (hs : ∀ q ∈ ss, Sm q 1000 1)
include hn9 hx in
theorem perc_h : Sm (x * (((ss.length : Int) - 1 : Int) : Rat)) (1 * 1000) (2 * 1) := hx.mul (Sm.int _ (by omega))
include hs in
theorem ss_sm {i : Nat} (h : i < ss.length) : Sm (ss.getD i 0) 1000 1 := by
  rw [List.getD_eq_getElem?_getD, List.getElem?_eq_getElem h]
  exact hs _ (List.getElem_mem h)
include hn9 hk hx hs in
theorem percR_sm : Sm (percR ss x k) 100000000 100 := by
  unfold percR
  split
  · exact (ss_sm hs hk).mono (by decide) (by decide)
  · exact ((ss_sm hs hk).add (((perc_h hn9 hx).sub (Sm.int (k : Int) (A := 1000) (by omega))).mul ((ss_sm hs (i := k + 1) (by omega)).sub (ss_sm hs hk)))).mono (by decide) (by decide)
include hn9 hk hx hs in
theorem percR_fits : fits (percR ss x k) = true := (percR_sm hn9 hk hx hs).fits (by decide +kernel) (by decide +kernel)
include hn9 hk hx hs in
theorem perc_of (hf : (x * (((ss.length : Int) - 1 : Int) : Rat)).floor = (k : Int)) : PercF ss x (percR ss x k) := by
  intro W g C hr hE
  have hh := perc_h hn9 hx
  have fh := hh.fits (by decide +kernel) (by decide +kernel)
  have hN : Sm (((ss.length : Int) - 1 : Int) : Rat) 1000 1 := Sm.int _ (by omega)
  have fN := hN.fits (by decide +kernel) (by decide +kernel)
  have hK : Sm ((k : Int) : Rat) 1000 1 := Sm.int _ (by omega)
  have fk := hK.fits (by decide +kernel) (by decide +kernel)
  have fx := hx.fits (by decide +kernel) (by decide +kernel)
  have c0 := c_of (n := (ss.length : Int) - 1) (by omega)
  have c1 := c_mul fx fN fh rfl
  have c2 : Fun1 128 (fracV (x * (((ss.length : Int) - 1 : Int) : Rat))) (.tuple #[fracV ((k : Int) : Rat), .int .i64 0]) := fun W g => by
    have := floor_any _ W fh g.tab
    rw [hf, wroteV_ok fk] at this
    exact this
  have c3 : Fun2 127 (fracV ((k : Int) : Rat)) (.int .i64 0) (fracV ((k : Int) : Rat)) := fun W _ => must_ok _ W
  have c4 : Fun1 137 (fracV ((k : Int) : Rat)) (.tuple #[.int .i64 (k : Int), .bool true, .int .i64 0]) := fun W _ => int_ok (k : Int) W (by omega)
  unfold percR
  by_cases e : k + 1 = ss.length
  · rw [if_pos e]
    simp only [fracV_is] at c0 c1 c2 c3 c4
    exact perc_last ss.length k g C ss x _ _ _ _ W (by omega) hn9 rfl e c0 c1 c2 c3 c4 rfl hr hE
  · rw [if_neg e]
    have hy := ss_sm hs hk
    have hz := ss_sm hs (i := k + 1) (by omega)
    have fy := hy.fits (by decide +kernel) (by decide +kernel)
    have fz := hz.fits (by decide +kernel) (by decide +kernel)
    have he := hh.sub hK
    have fe := he.fits (by decide +kernel) (by decide +kernel)
    have hd := hz.sub hy
    have fd := hd.fits (by decide +kernel) (by decide +kernel)
    have ht := he.mul hd
    have ft := ht.fits (by decide +kernel) (by decide +kernel)
    have fv := (hy.add ht).fits (by decide +kernel) (by decide +kernel)
    have c5 := c_sub fh fk fe rfl
    have c6 := c_sub fz fy fd rfl
    have c7 := c_mul fe fd ft rfl
    have c8 := c_add fy ft fv rfl
    simp only [fracV_is] at c0 c1 c2 c3 c4 c5 c6 c7 c8
    exact perc_mid ss.length k g C ss x _ _ _ _ _ _ _ _ _ W (by omega) hn9 rfl (by omega) c0 c1 c2 c3 c4 rfl rfl c5 c6 c7 c8 hr hE
end
/-- one half -/
def halfR : Rat := ((1 : Int) : Rat) / ((2 : Nat) : Rat)
theorem half_sm : Sm halfR 1 2 := ⟨1, 2, by decide, rfl, by decide, by decide⟩
theorem half_four : ((2 : Nat) : Int) / ((4 : Int) : Rat) = halfR := by
  unfold halfR
  grind
theorem zero_sm : Sm 0 1 2 := (Sm.int 0 (A := 1) (by decide)).mono (by decide) (by decide)
theorem one_sm : Sm 1 1 2 := (Sm.int 1 (A := 1) (by decide)).mono (by decide) (by decide)
section
variable {qs : List Rat} (h0 : 0 < qs.length) (h9 : qs.length ≤ 1000) (hs : ∀ q ∈ qs, Sm q 1000 1)
include hs in
theorem sorted_sm : ∀ q ∈ sortL qs, Sm q 1000 1 := fun q hq => hs q (sortL_mem.1 hq)
include h0 h9 hs in
theorem quant_of {x v : Rat} (hx : Sm x 1 2) (hx0 : 0 ≤ cmpR x 0) (hx1 : cmpR x 1 ≤ 0) (hp : PercF (sortL qs) x v) : QuantF qs x v := by
  intro W g C hr hE
  have fx := hx.fits (by decide +kernel) (by decide +kernel)
  have f1 := one_sm.fits (by decide +kernel) (by decide +kernel)
  have c0 := c_sign fx
  have c1 := c_of (n := 1) (by decide)
  have c2 := c_compare fx f1
  simp only [fracV_is] at c0 c1 c2
  exact quantile_any (cmpR x 0) (cmpR x 1) g C qs x 1 v W h0 h9 (fun q hq => (hs q hq).fits (by decide +kernel) (by decide +kernel)) hx0 hx1 c0 c1 c2 hp hr hE
include h0 h9 hs in
theorem quant_0 : QuantF qs 0 ((sortL qs).getD 0 0) := by
  have hl := sortL_len qs
  have hp := perc_of (ss := sortL qs) (x := 0) (k := 0) (by omega) (by omega) zero_sm (sorted_sm hs) (by rw [Rat.zero_mul]; rfl)
  have e : percR (sortL qs) 0 0 = (sortL qs).getD 0 0 := by
    unfold percR
    split
    · rfl
    · rw [Rat.zero_mul]; grind
  rw [e] at hp
  exact quant_of h0 h9 hs zero_sm (by decide) (by decide) hp
include h0 h9 hs in
theorem quant_1 : QuantF qs 1 ((sortL qs).getD (qs.length - 1) 0) := by
  have hl := sortL_len qs
  have hp := perc_of (ss := sortL qs) (x := 1) (k := qs.length - 1) (by omega) (by omega) one_sm (sorted_sm hs) (by
    rw [Rat.one_mul, Rat.floor_intCast]; omega)
  have e : percR (sortL qs) 1 (qs.length - 1) = (sortL qs).getD (qs.length - 1) 0 := by
    unfold percR
    rw [if_pos (by omega)]
  rw [e] at hp
  exact quant_of h0 h9 hs one_sm (by decide) (by decide) hp
include h0 h9 hs in
theorem perc_half : PercF (sortL qs) halfR (percR (sortL qs) halfR ((qs.length - 1) / 2)) := by
  have hl := sortL_len qs
  refine perc_of (by omega) (by omega) half_sm (sorted_sm hs) ?_
  have e : halfR * ((((sortL qs).length : Int) - 1 : Int) : Rat) = ((((sortL qs).length : Int) - 1 : Int) : Rat) / ((2 : Nat) : Rat) := by
    unfold halfR
    grind
  rw [e, floor_ratio _ 2 (by decide)]
  omega
include h0 h9 hs in
theorem quant_half : QuantF qs halfR (percR (sortL qs) halfR ((qs.length - 1) / 2)) :=
  quant_of h0 h9 hs half_sm (by decide +kernel) (by decide +kernel) (perc_half h0 h9 hs)
include h0 h9 hs in
theorem half_fits : fits (percR (sortL qs) halfR ((qs.length - 1) / 2)) = true := by
  have hl := sortL_len qs
  exact percR_fits (by omega) (by omega) half_sm (sorted_sm hs)
end
end Go.Proofs.YtgponoogifeopaaGreatDoor.Num.Ft
