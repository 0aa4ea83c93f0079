/- Numbers as texts of digits, fractions, values and the functions of fmath: contracts of the program's functions, joined from smaller texts. Conditions stand at each theorem. -/
import Derived.Test.YtgponoogifeopaaGreatDoorFtsA
import Derived.Test.YtgponoogifeopaaGreatDoorFtcA

/- package fstat: percentile, quantile. Conditions: what the small functions give; a row of fractions; the tables lie as they are laid. -/
namespace Go.Proofs.YtgponoogifeopaaGreatDoor.Num.Ft
open Go.RowKit Go.Lib Num
attribute [local irreducible] wpOp
theorem frac_at {W : World} {g i : Nat} {ss : List Rat} (h : FracsAt W g ss) (hi : i < ss.length) : W.cell? ⟨g, i * 2, none⟩ = some (.string (numS (ss.getD i 0))) ∧ W.cell? ⟨g, i * 2 + 1, none⟩ = some (.string (denS (ss.getD i 0))) := by
  rw [List.getD_eq_getElem?_getD, List.getElem?_eq_getElem hi]
  exact h i hi
theorem frac_put {W wx : World} {g : Nat} {a b x y : Value} (h : wx.heap[g]? = some (.cells #[a, b] 24 (0, 0))) (hb : Below W.heap.size W wx) (hg : W.heap.size ≤ g) : Below W.heap.size W ((wx.setCell ⟨g, 0, none⟩ x).setCell ⟨g, 1, none⟩ y) ∧ ((wx.setCell ⟨g, 0, none⟩ x).setCell ⟨g, 1, none⟩ y).cell? ⟨g, 0, none⟩ = some x ∧ ((wx.setCell ⟨g, 0, none⟩ x).setCell ⟨g, 1, none⟩ y).cell? ⟨g, 1, none⟩ = some y :=
  ⟨(hb.setCell (p := ⟨g, 0, none⟩) hg x).setCell (p := ⟨g, 1, none⟩) hg y, (two_at (set2_at h x y)).1.1, (two_at (set2_at h x y)).1.2⟩
set_option linter.unusedVariables false in
/-- what the operations of region 1 yield -/
def perc_lastKs1 (x n1 h : Rat) (n g C : Nat) : List RK :=
  [.pure (.agg #[.string (numS x), .string (denS x)]),
   .pure (.slice (some ⟨g, 0, none⟩) n C),
   .pure (.int .i64 (n : Int)),
   .pure (.int .i64 ((n : Int) - 1)),
   .pure (.agg #[.string (numS n1), .string (denS n1)]),
   .pure (.agg #[.string (numS h), .string (denS h)]),
   .box none #[.string { data := #[] }, .string { data := #[] }] #[.string (numS h), .string (denS h)] 24 7,
   .put 6]
set_option linter.unusedSimpArgs false in
set_option linter.unusedVariables false in
set_option maxHeartbeats 4000000 in
set_option maxRecDepth 100000 in
theorem perc_last (n k g C : Nat) (ss : List Rat) (x n1 h f y : Rat) (W : World) (hn : 1 ≤ n)
    (hn9 : n ≤ 1000)
    (hs : ss.length = n)
    (hk : k + 1 = n)
    (c0 : Fun1 13 (.int .i64 ((n : Int) - 1)) (.agg #[.string (numS n1), .string (denS n1)]))
    (c1 : Fun2 187 (.agg #[.string (numS x), .string (denS x)]) (.agg #[.string (numS n1), .string (denS n1)]) (.agg #[.string (numS h), .string (denS h)]))
    (c2 : Fun1 128 (.agg #[.string (numS h), .string (denS h)]) (.tuple #[.agg #[.string (numS f), .string (denS f)], .int .i64 0]))
    (c3 : Fun2 127 (.agg #[.string (numS f), .string (denS f)]) (.int .i64 0) (.agg #[.string (numS f), .string (denS f)]))
    (c4 : Fun1 137 (.agg #[.string (numS f), .string (denS f)]) (.tuple #[.int .i64 (k : Int), .bool true, .int .i64 0]))
    (hy : ss.getD k 0 = y)
    (hr : FracsAt W g ss) (hE : EnvY W) :
    Calls Tryz.prog 92 #[.slice (some ⟨g, 0, none⟩) n C, .agg #[.string (numS x), .string (denS x)]] W fun e w' => e = .returned (.agg #[.string (numS y), .string (denS y)]) ∧ Below W.heap.size W w' := by
  have HR := Lib.hid hr
  have HY := Lib.hid hy
  have HSS := Lib.hid hs
  have hw1 : IntKind.i64.wrap ((n : Int) - 1) = (n : Int) - 1 := IntWalk.i64_in _ (by omega)
  have hi0 : (0 : Int) ≤ (k : Int) := by omega
  have hi1 : (k : Int) < (n : Int) := by omega
  have he1 : ((k : Int) == (n : Int) - 1) = true := by simp; omega
  have Qc0 := Lib.hid c0
  unfold Fun1 at Qc0
  have Qc1 := Lib.hid c1
  unfold Fun2 at Qc1
  have Qc2 := Lib.hid c2
  unfold Fun1 at Qc2
  have Qc3 := Lib.hid c3
  unfold Fun2 at Qc3
  have Qc4 := Lib.hid c4
  unfold Fun1 at Qc4
  have HE0 := Lib.hid hE
  have HG := Lib.hid (show Below W.heap.size W ((W.alloc (.cells #[.string (numS x), .string (denS x)] 24)).alloc (.cells #[.string { data := #[] }, .string { data := #[] }] 24)) from (((Below.refl _ _).alloc (Nat.le_refl _) _).alloc (by simp only [World.size_alloc]; omega) _))
  have H3 : Hid (((W.alloc (.cells #[.string (numS x), .string (denS x)] 24)).alloc (.cells #[.string { data := #[] }, .string { data := #[] }] 24)).heap[W.heap.size]? = some (.cells #[.string (numS x), .string (denS x)] 24 (0, 0))) := Lib.hid (by
    have h := heap_alloc_new W (.cells #[.string (numS x), .string (denS x)] 24)
    exact new_keep (h))
  have H4 : Hid (((W.alloc (.cells #[.string (numS x), .string (denS x)] 24)).alloc (.cells #[.string { data := #[] }, .string { data := #[] }] 24)).heap[W.heap.size + 1]? = some (.cells #[.string { data := #[] }, .string { data := #[] }] 24 (0, 0))) := Lib.hid (by
    have h := heap_alloc_new (W.alloc (.cells #[.string (numS x), .string (denS x)] 24)) (.cells #[.string { data := #[] }, .string { data := #[] }] 24)
    simp only [World.size_alloc] at h
    exact h)
  obtain ⟨W0, hW0⟩ : ∃ Z, ((W.alloc (.cells #[.string (numS x), .string (denS x)] 24)).alloc (.cells #[.string { data := #[] }, .string { data := #[] }] 24)) = Z := ⟨_, rfl⟩
  rw [hW0] at HG H3 H4
  have EW0 := Lib.hid hW0
  have HE := Lib.hid (HE0.out.below HG.out)
  clear hW0 hE c0 c1 c2 c3 c4 hr hy hs
  go_enter Tryz.func92, Tryz.ntmps92
  replace HR := Lib.hid (show FracsAt W0 g ss from by rw [← EW0.out]; exact (HR.out.below ((Below.refl _ _).alloc (Nat.le_refl _) _)).below ((Below.refl _ _).alloc (Nat.le_refl _) _))
  go_wp2_with fail
  rw [EW0.out]
  have hok : okB 8 (perc_lastKs1 x n1 h n g C) = true := by kernel_rfl
  have hna := noAny_of (ks := (perc_lastKs1 x n1 h n g C)) (by kernel_rfl)
  have hla := lasts_of hna
  refine wp_region_facts_abs (row := none) (w := W0) 8 0 8 [] (perc_lastKs1 x n1 h n g C) [some 10, some 11, some 12, some 13, some 14, some 15, some 5, none] [(3, .pointer (some ⟨W.heap.size, 0, none⟩)), (0, .slice (some ⟨g, 0, none⟩) n C)] 55 (by kernel_rfl) (by kernel_rfl) (by kernel_rfl) rfl rfl (by decide) rfl (by kernel_rfl) rfl (Nat.le_of_eq rfl) rfl ?ho [undef, undef, undef, undef, undef, undef, undef, undef] ?h00 (Fs.start rfl rfl) ?hs ?hd
  case ho =>
    intro k x hk
    match k, hk with
    | 0, hk => have hk := Option.some.inj hk; subst hk; rfl
    | 1, hk => have hk := Option.some.inj hk; subst hk; rfl
    | _ + 2, hk => exact absurd hk (by simp)
  case h00 => simp only [putO, layL]
  case hs =>
    rintro A listed vs Wr hF hR i hi hun hpre
    obtain ⟨s0, s1, s2, s3, s4, s5, s6, s7, hvs⟩ := exl_of 8 vs (fun l => vs = l) hF.len rfl
    subst hvs
    have hge := Nat.zero_le i
    rcases Nat.lt_or_ge i 4 with hlt | hgt
    · replace hi := hlt
      clear hlt
      rcases Nat.lt_or_ge i 2 with hlt | hgt
      · replace hi := hlt
        clear hlt
        rcases Nat.lt_or_ge i 1 with hlt | hgt
        · replace hi := hlt
          clear hlt
          obtain rfl := eqi hi hge
          have ro3 : A.tmps[3]? = some (.pointer (some ⟨W.heap.size, 0, none⟩)) := hR.out 0 _ rfl
          have hcc := (two_at (keep_block H3.out (below_none hF.low))).1
          have cH30 := hcc.1
          have cH31 := hcc.2
          clear hcc
          refine step_of ⟨some 10, _, _, _, _, _⟩ rfl (fun K' hK => ?_)
          go_simp
          exact hK.out _ _ ⟨_, hF.pure hok hla hpre rfl (Below.refl _ _), rfl⟩
        · replace hge : 1 ≤ i := hgt
          clear hgt
          obtain rfl := eqi hi hge
          have ro0 : A.tmps[0]? = some (.slice (some ⟨g, 0, none⟩) n C) := hR.out 1 _ rfl
          refine step_of ⟨some 11, _, _, _, _, _⟩ rfl (fun K' hK => ?_)
          go_simp
          exact hK.out _ _ ⟨_, hF.pure hok hla hpre rfl (Below.refl _ _), rfl⟩
      · replace hge : 2 ≤ i := hgt
        clear hgt
        rcases Nat.lt_or_ge i 3 with hlt | hgt
        · replace hi := hlt
          clear hlt
          obtain rfl := eqi hi hge
          have p1 := hpre 1 (by kernel_rfl)
          have e1 : s1 = .slice (some ⟨g, 0, none⟩) n C := hF.get 1 _ rfl (.inr p1)
          subst e1
          have r1 : A.tmps[11]? = some (.slice (some ⟨g, 0, none⟩) n C) := hR.own 1 _ _ rfl rfl
          refine step_of ⟨some 12, _, _, _, _, _⟩ rfl (fun K' hK => ?_)
          go_simp
          exact hK.out _ _ ⟨_, hF.pure hok hla hpre rfl (Below.refl _ _), rfl⟩
        · replace hge : 3 ≤ i := hgt
          clear hgt
          obtain rfl := eqi hi hge
          have p2 := hpre 2 (by kernel_rfl)
          have e2 : s2 = .int .i64 (n : Int) := hF.get 2 _ rfl (.inr p2)
          subst e2
          have r2 : A.tmps[12]? = some (.int .i64 (n : Int)) := hR.own 2 _ _ rfl rfl
          refine step_of ⟨some 13, _, _, _, _, _⟩ rfl (fun K' hK => ?_)
          go_simp
          exact hK.out _ _ ⟨_, hF.pure hok hla hpre rfl (Below.refl _ _), rfl⟩
    · replace hge : 4 ≤ i := hgt
      clear hgt
      rcases Nat.lt_or_ge i 6 with hlt | hgt
      · replace hi := hlt
        clear hlt
        rcases Nat.lt_or_ge i 5 with hlt | hgt
        · replace hi := hlt
          clear hlt
          obtain rfl := eqi hi hge
          have p3 := hpre 3 (by kernel_rfl)
          have e3 : s3 = .int .i64 ((n : Int) - 1) := hF.get 3 _ rfl (.inr p3)
          subst e3
          have r3 : A.tmps[13]? = some (.int .i64 ((n : Int) - 1)) := hR.own 3 _ _ rfl rfl
          refine step_of ⟨some 14, _, _, _, _, _⟩ rfl (fun K' hK => ?_)
          go_simp
          go_at_call 13
          (with_reducible refine (Qc0.out _ (HE.out.below (below_none hF.low))).mono ?_)
          rintro e Wq ⟨rfl, hq⟩
          exact hK.out _ _ ⟨_, hF.pure hok hla hpre rfl hq, rfl⟩
        · replace hge : 5 ≤ i := hgt
          clear hgt
          obtain rfl := eqi hi hge
          have p0 := hpre 0 (by kernel_rfl)
          have e0 : s0 = .agg #[.string (numS x), .string (denS x)] := hF.get 0 _ rfl (.inr p0)
          subst e0
          have r0 : A.tmps[10]? = some (.agg #[.string (numS x), .string (denS x)]) := hR.own 0 _ _ rfl rfl
          have p4 := hpre 4 (by kernel_rfl)
          have e4 : s4 = .agg #[.string (numS n1), .string (denS n1)] := hF.get 4 _ rfl (.inr p4)
          subst e4
          have r4 : A.tmps[14]? = some (.agg #[.string (numS n1), .string (denS n1)]) := hR.own 4 _ _ rfl rfl
          refine step_of ⟨some 15, _, _, _, _, _⟩ rfl (fun K' hK => ?_)
          go_simp
          go_at_call 187
          (with_reducible refine (Qc1.out _ (HE.out.below (below_none hF.low))).mono ?_)
          rintro e Wq ⟨rfl, hq⟩
          exact hK.out _ _ ⟨_, hF.pure hok hla hpre rfl hq, rfl⟩
      · replace hge : 6 ≤ i := hgt
        clear hgt
        rcases Nat.lt_or_ge i 7 with hlt | hgt
        · replace hi := hlt
          clear hlt
          obtain rfl := eqi hi hge
          refine step_of ⟨some 5, _, _, _, _, _⟩ rfl (fun K' hK => ?_)
          go_simp
          exact hK.out _ _ ⟨_, hF.box hok hla hpre hun rfl, rfl⟩
        · replace hge : 7 ≤ i := hgt
          clear hgt
          obtain rfl := eqi hi hge
          have p6 := hpre 6 (by kernel_rfl)
          obtain ⟨G, eG, _, hGl, hGB⟩ : ∃ G, s6 = .pointer (some ⟨G, 0, none⟩) ∧ (∀ k, none = some k → G = k) ∧ W0.heap.size ≤ G ∧ Wr.heap[G]? = some (.cells (if listed.getD 7 false = true then #[.string (numS h), .string (denS h)] else #[.string { data := #[] }, .string { data := #[] }]) 24 (0, 0)) := hF.get 6 _ rfl (.inr p6)
          subst eG
          rw [if_neg (bit_off hun)] at hGB
          have HGB := Lib.hid hGB
          clear hGB
          have r6 : A.tmps[5]? = some (.pointer (some ⟨G, 0, none⟩)) := hR.own 6 _ _ rfl rfl
          have p5 := hpre 5 (by kernel_rfl)
          have e5 : s5 = .agg #[.string (numS h), .string (denS h)] := hF.get 5 _ rfl (.inr p5)
          subst e5
          have r5 : A.tmps[15]? = some (.agg #[.string (numS h), .string (denS h)]) := hR.own 5 _ _ rfl rfl
          obtain ⟨⟨y0, y1⟩, g0, g1⟩ := two_at HGB.out
          refine step_of ⟨none, _, _, _, _, _⟩ rfl (fun K' hK => ?_)
          go_simp
          exact hK.out _ _ ⟨undef, hF.put hok hna hpre hun rfl undef rfl (.inr p6) rfl (set2_at HGB.out (.string (numS h)) (.string (denS h))) (fun k hk => set2_other _ _ (.string (numS h)) (.string (denS h)) hk) (put2_below hGl _ (.string (numS h)) (.string (denS h))), rfl⟩
  case hd =>
    rintro listed vs WA hF hall
    obtain ⟨s0, s1, s2, s3, s4, s5, s6, s7, hvs⟩ := exl_of 8 vs (fun l => vs = l) hF.len rfl
    subst hvs
    obtain ⟨b5, e6, _, gq, k6⟩ : ∃ G, s6 = .pointer (some ⟨G, 0, none⟩) ∧ (∀ k, none = some k → G = k) ∧ _ ≤ G ∧ WA.heap[G]? = some (.cells (if listed.getD 7 false = true then #[.string (numS h), .string (denS h)] else #[.string { data := #[] }, .string { data := #[] }]) 24 (0, 0)) := hF.get 6 _ rfl (.inr (hall 6 (by decide)))
    subst e6
    rw [if_pos (hall 7 (by decide))] at k6
    have H5 := Lib.hid k6
    clear k6
    have ge5 := Lib.hid gq
    clear gq
    have hq := below_none hF.low
    replace H3 := Lib.hid (keep_block H3.out hq)
    replace H4 := Lib.hid (keep_block H4.out hq)
    replace HE := Lib.hid (HE.out.below hq)
    replace HG := Lib.hid (HG.out.trans (hq.mono HG.out.size))
    replace HR := Lib.hid (HR.out.below hq)
    clear hq
    clear hF hall hok hla hna
    refine rest_end ?_
    simp only [putO, layL]
    clear ge5
    obtain ⟨⟨x5_0, x5_1⟩, x5_f0, x5_f1⟩ := two_at H5.out
    go_wp2_with fail
    refine (Qc2.out _ HE.out).mono ?_
    clear x5_0 x5_1 x5_f0 x5_f1
    rintro e w1 ⟨rfl, hb⟩
    replace H3 := Lib.hid (keep_block H3.out hb)
    replace H4 := Lib.hid (keep_block H4.out hb)
    replace H5 := Lib.hid (keep_block H5.out hb)
    replace HE := Lib.hid (HE.out.below hb)
    replace HG := Lib.hid (HG.out.trans (hb.mono HG.out.size))
    replace HR := Lib.hid (HR.out.below hb)
    clear hb
    go_wp2_with fail
    refine (Qc3.out _ HE.out).mono ?_
    rintro e w2 ⟨rfl, hb⟩
    replace H3 := Lib.hid (keep_block H3.out hb)
    replace H4 := Lib.hid (keep_block H4.out hb)
    replace H5 := Lib.hid (keep_block H5.out hb)
    replace HE := Lib.hid (HE.out.below hb)
    replace HG := Lib.hid (HG.out.trans (hb.mono HG.out.size))
    replace HR := Lib.hid (HR.out.below hb)
    clear hb
    have lt_3 := heap_lt H3.out
    have lt_4 := heap_lt H4.out
    have lt_5 := heap_lt H5.out
    have geW := HG.out.size
    have L6_3 : Hid (W.heap.size < w2.heap.size) := Lib.hid (by omega)
    have L6_4 : Hid (W.heap.size + 1 < w2.heap.size) := Lib.hid (by omega)
    have L6_5 : Hid (b5 < w2.heap.size) := Lib.hid (by omega)
    have G6 : Hid (W.heap.size ≤ w2.heap.size) := Lib.hid (by omega)
    have hb : Below w2.heap.size w2 (w2.alloc (.cells #[.string (numS f), .string (denS f)] 24)) := (Below.refl _ _).alloc (Nat.le_refl _) _
    replace H3 := Lib.hid (keep_block H3.out hb)
    replace H4 := Lib.hid (keep_block H4.out hb)
    replace H5 := Lib.hid (keep_block H5.out hb)
    replace HE := Lib.hid (HE.out.below hb)
    replace HG := Lib.hid (HG.out.trans (hb.mono HG.out.size))
    replace HR := Lib.hid (HR.out.below hb)
    have H6 := Lib.hid (heap_alloc_new w2 (.cells #[.string (numS f), .string (denS f)] 24))
    clear hb
    clear geW lt_3 lt_4 lt_5
    obtain ⟨WL2, hWL2⟩ : ∃ Z, (w2.alloc (.cells #[.string (numS f), .string (denS f)] 24)) = Z := ⟨_, rfl⟩
    rw [hWL2] at HR HE HG H3 H4 H5 H6
    have EWL2 := Lib.hid hWL2
    clear hWL2
    obtain ⟨⟨x6_0, x6_1⟩, x6_f0, x6_f1⟩ := two_at H6.out
    go_wp2_with fail
    rw [EWL2.out]
    refine (Qc4.out _ HE.out).mono ?_
    clear x6_0 x6_1 x6_f0 x6_f1
    rintro e w3 ⟨rfl, hb⟩
    replace H3 := Lib.hid (keep_block H3.out hb)
    replace H4 := Lib.hid (keep_block H4.out hb)
    replace H5 := Lib.hid (keep_block H5.out hb)
    replace H6 := Lib.hid (keep_block H6.out hb)
    replace HE := Lib.hid (HE.out.below hb)
    replace HG := Lib.hid (HG.out.trans (hb.mono HG.out.size))
    replace HR := Lib.hid (HR.out.below hb)
    clear hb
    obtain ⟨c0, c1⟩ := frac_at HR.out (i := k) (by have := HSS.out; omega)
    rw [HY.out] at c0 c1
    obtain ⟨⟨r0, r1⟩, rf0, rf1⟩ := two_at H4.out
    obtain ⟨nb, z0, z1⟩ := frac_put (x := .string (numS y)) (y := .string (denS y)) H4.out HG.out (by omega)
    go_wp2
    refine bodyPost_ret (v := .agg #[.string (numS y), .string (denS y)]) (by simp [results, Tryz.results92, go_sem, z0, z1]) rfl ⟨rfl, nb⟩

set_option linter.unusedVariables false in
/-- what the operations of region 1 yield -/
def perc_midKs1 (x n1 h : Rat) (n g C : Nat) : List RK :=
  [.pure (.agg #[.string (numS x), .string (denS x)]),
   .pure (.slice (some ⟨g, 0, none⟩) n C),
   .pure (.int .i64 (n : Int)),
   .pure (.int .i64 ((n : Int) - 1)),
   .pure (.agg #[.string (numS n1), .string (denS n1)]),
   .pure (.agg #[.string (numS h), .string (denS h)]),
   .box none #[.string { data := #[] }, .string { data := #[] }] #[.string (numS h), .string (denS h)] 24 7,
   .put 6]
set_option linter.unusedVariables false in
/-- what the operations of region 6 yield -/
def perc_midKs6 (x n1 h f y z e d t v : Rat) (n k g C b5 b6 : Nat) : List RK :=
  [.pure (.slice (some ⟨g, 0, none⟩) n C),
   .pure (.int .i64 (k : Int)),
   .pure (.pointer (some ⟨g, k * 2, none⟩)),
   .pure (.agg #[.string (numS y), .string (denS y)]),
   .pure (.agg #[.string (numS h), .string (denS h)]),
   .pure (.agg #[.string (numS f), .string (denS f)]),
   .pure (.agg #[.string (numS e), .string (denS e)]),
   .pure (.slice (some ⟨g, 0, none⟩) n C),
   .pure (.int .i64 (k : Int)),
   .pure (.int .i64 ((k : Int) + 1)),
   .pure (.pointer (some ⟨g, (k + 1) * 2, none⟩)),
   .pure (.agg #[.string (numS z), .string (denS z)]),
   .pure (.slice (some ⟨g, 0, none⟩) n C),
   .pure (.int .i64 (k : Int)),
   .pure (.pointer (some ⟨g, k * 2, none⟩)),
   .pure (.agg #[.string (numS y), .string (denS y)]),
   .pure (.agg #[.string (numS d), .string (denS d)]),
   .pure (.agg #[.string (numS t), .string (denS t)]),
   .pure (.agg #[.string (numS v), .string (denS v)]),
   .put 0]
set_option linter.unusedSimpArgs false in
set_option linter.unusedVariables false in
set_option maxHeartbeats 4000000 in
set_option maxRecDepth 100000 in
theorem perc_mid (n k g C : Nat) (ss : List Rat) (x n1 h f y z e d t v : Rat) (W : World) (hn : 1 ≤ n)
    (hn9 : n ≤ 1000)
    (hs : ss.length = n)
    (hk : k + 1 < n)
    (c0 : Fun1 13 (.int .i64 ((n : Int) - 1)) (.agg #[.string (numS n1), .string (denS n1)]))
    (c1 : Fun2 187 (.agg #[.string (numS x), .string (denS x)]) (.agg #[.string (numS n1), .string (denS n1)]) (.agg #[.string (numS h), .string (denS h)]))
    (c2 : Fun1 128 (.agg #[.string (numS h), .string (denS h)]) (.tuple #[.agg #[.string (numS f), .string (denS f)], .int .i64 0]))
    (c3 : Fun2 127 (.agg #[.string (numS f), .string (denS f)]) (.int .i64 0) (.agg #[.string (numS f), .string (denS f)]))
    (c4 : Fun1 137 (.agg #[.string (numS f), .string (denS f)]) (.tuple #[.int .i64 (k : Int), .bool true, .int .i64 0]))
    (hy : ss.getD k 0 = y)
    (hz : ss.getD (k + 1) 0 = z)
    (c5 : Fun2 188 (.agg #[.string (numS h), .string (denS h)]) (.agg #[.string (numS f), .string (denS f)]) (.agg #[.string (numS e), .string (denS e)]))
    (c6 : Fun2 188 (.agg #[.string (numS z), .string (denS z)]) (.agg #[.string (numS y), .string (denS y)]) (.agg #[.string (numS d), .string (denS d)]))
    (c7 : Fun2 187 (.agg #[.string (numS e), .string (denS e)]) (.agg #[.string (numS d), .string (denS d)]) (.agg #[.string (numS t), .string (denS t)]))
    (c8 : Fun2 183 (.agg #[.string (numS y), .string (denS y)]) (.agg #[.string (numS t), .string (denS t)]) (.agg #[.string (numS v), .string (denS v)]))
    (hr : FracsAt W g ss) (hE : EnvY W) :
    Calls Tryz.prog 92 #[.slice (some ⟨g, 0, none⟩) n C, .agg #[.string (numS x), .string (denS x)]] W fun e w' => e = .returned (.agg #[.string (numS v), .string (denS v)]) ∧ Below W.heap.size W w' := by
  have HR := Lib.hid hr
  have HY := Lib.hid hy
  have HZ := Lib.hid hz
  have HSS := Lib.hid hs
  have hw1 : IntKind.i64.wrap ((n : Int) - 1) = (n : Int) - 1 := IntWalk.i64_in _ (by omega)
  have hi0 : (0 : Int) ≤ (k : Int) := by omega
  have hi1 : (k : Int) < (n : Int) := by omega
  have he1 : ((k : Int) == (n : Int) - 1) = false := by simp; omega
  have hw2 : IntKind.i64.wrap ((k : Int) + 1) = (k : Int) + 1 := IntWalk.i64_in _ (by omega)
  have hj0 : (0 : Int) ≤ (k : Int) + 1 := by omega
  have hj1 : (k : Int) + 1 < (n : Int) := by omega
  have HKN := Lib.hid hk
  have Qc0 := Lib.hid c0
  unfold Fun1 at Qc0
  have Qc1 := Lib.hid c1
  unfold Fun2 at Qc1
  have Qc2 := Lib.hid c2
  unfold Fun1 at Qc2
  have Qc3 := Lib.hid c3
  unfold Fun2 at Qc3
  have Qc4 := Lib.hid c4
  unfold Fun1 at Qc4
  have Qc5 := Lib.hid c5
  unfold Fun2 at Qc5
  have Qc6 := Lib.hid c6
  unfold Fun2 at Qc6
  have Qc7 := Lib.hid c7
  unfold Fun2 at Qc7
  have Qc8 := Lib.hid c8
  unfold Fun2 at Qc8
  have HE0 := Lib.hid hE
  have HG := Lib.hid (show Below W.heap.size W ((W.alloc (.cells #[.string (numS x), .string (denS x)] 24)).alloc (.cells #[.string { data := #[] }, .string { data := #[] }] 24)) from (((Below.refl _ _).alloc (Nat.le_refl _) _).alloc (by simp only [World.size_alloc]; omega) _))
  have H3 : Hid (((W.alloc (.cells #[.string (numS x), .string (denS x)] 24)).alloc (.cells #[.string { data := #[] }, .string { data := #[] }] 24)).heap[W.heap.size]? = some (.cells #[.string (numS x), .string (denS x)] 24 (0, 0))) := Lib.hid (by
    have h := heap_alloc_new W (.cells #[.string (numS x), .string (denS x)] 24)
    exact new_keep (h))
  have H4 : Hid (((W.alloc (.cells #[.string (numS x), .string (denS x)] 24)).alloc (.cells #[.string { data := #[] }, .string { data := #[] }] 24)).heap[W.heap.size + 1]? = some (.cells #[.string { data := #[] }, .string { data := #[] }] 24 (0, 0))) := Lib.hid (by
    have h := heap_alloc_new (W.alloc (.cells #[.string (numS x), .string (denS x)] 24)) (.cells #[.string { data := #[] }, .string { data := #[] }] 24)
    simp only [World.size_alloc] at h
    exact h)
  obtain ⟨W0, hW0⟩ : ∃ Z, ((W.alloc (.cells #[.string (numS x), .string (denS x)] 24)).alloc (.cells #[.string { data := #[] }, .string { data := #[] }] 24)) = Z := ⟨_, rfl⟩
  rw [hW0] at HG H3 H4
  have EW0 := Lib.hid hW0
  have HE := Lib.hid (HE0.out.below HG.out)
  clear hW0 hE c0 c1 c2 c3 c4 c5 c6 c7 c8 hr hy hz hs
  go_enter Tryz.func92, Tryz.ntmps92
  replace HR := Lib.hid (show FracsAt W0 g ss from by rw [← EW0.out]; exact (HR.out.below ((Below.refl _ _).alloc (Nat.le_refl _) _)).below ((Below.refl _ _).alloc (Nat.le_refl _) _))
  go_wp2_with fail
  rw [EW0.out]
  have hok : okB 8 (perc_midKs1 x n1 h n g C) = true := by kernel_rfl
  have hna := noAny_of (ks := (perc_midKs1 x n1 h n g C)) (by kernel_rfl)
  have hla := lasts_of hna
  refine wp_region_facts_abs (row := none) (w := W0) 8 0 8 [] (perc_midKs1 x n1 h n g C) [some 10, some 11, some 12, some 13, some 14, some 15, some 5, none] [(3, .pointer (some ⟨W.heap.size, 0, none⟩)), (0, .slice (some ⟨g, 0, none⟩) n C)] 55 (by kernel_rfl) (by kernel_rfl) (by kernel_rfl) rfl rfl (by decide) rfl (by kernel_rfl) rfl (Nat.le_of_eq rfl) rfl ?ho [undef, undef, undef, undef, undef, undef, undef, undef] ?h00 (Fs.start rfl rfl) ?hs ?hd
  case ho =>
    intro k x hk
    match k, hk with
    | 0, hk => have hk := Option.some.inj hk; subst hk; rfl
    | 1, hk => have hk := Option.some.inj hk; subst hk; rfl
    | _ + 2, hk => exact absurd hk (by simp)
  case h00 => simp only [putO, layL]
  case hs =>
    rintro A listed vs Wr hF hR i hi hun hpre
    obtain ⟨s0, s1, s2, s3, s4, s5, s6, s7, hvs⟩ := exl_of 8 vs (fun l => vs = l) hF.len rfl
    subst hvs
    have hge := Nat.zero_le i
    rcases Nat.lt_or_ge i 4 with hlt | hgt
    · replace hi := hlt
      clear hlt
      rcases Nat.lt_or_ge i 2 with hlt | hgt
      · replace hi := hlt
        clear hlt
        rcases Nat.lt_or_ge i 1 with hlt | hgt
        · replace hi := hlt
          clear hlt
          obtain rfl := eqi hi hge
          have ro3 : A.tmps[3]? = some (.pointer (some ⟨W.heap.size, 0, none⟩)) := hR.out 0 _ rfl
          have hcc := (two_at (keep_block H3.out (below_none hF.low))).1
          have cH30 := hcc.1
          have cH31 := hcc.2
          clear hcc
          refine step_of ⟨some 10, _, _, _, _, _⟩ rfl (fun K' hK => ?_)
          go_simp
          exact hK.out _ _ ⟨_, hF.pure hok hla hpre rfl (Below.refl _ _), rfl⟩
        · replace hge : 1 ≤ i := hgt
          clear hgt
          obtain rfl := eqi hi hge
          have ro0 : A.tmps[0]? = some (.slice (some ⟨g, 0, none⟩) n C) := hR.out 1 _ rfl
          refine step_of ⟨some 11, _, _, _, _, _⟩ rfl (fun K' hK => ?_)
          go_simp
          exact hK.out _ _ ⟨_, hF.pure hok hla hpre rfl (Below.refl _ _), rfl⟩
      · replace hge : 2 ≤ i := hgt
        clear hgt
        rcases Nat.lt_or_ge i 3 with hlt | hgt
        · replace hi := hlt
          clear hlt
          obtain rfl := eqi hi hge
          have p1 := hpre 1 (by kernel_rfl)
          have e1 : s1 = .slice (some ⟨g, 0, none⟩) n C := hF.get 1 _ rfl (.inr p1)
          subst e1
          have r1 : A.tmps[11]? = some (.slice (some ⟨g, 0, none⟩) n C) := hR.own 1 _ _ rfl rfl
          refine step_of ⟨some 12, _, _, _, _, _⟩ rfl (fun K' hK => ?_)
          go_simp
          exact hK.out _ _ ⟨_, hF.pure hok hla hpre rfl (Below.refl _ _), rfl⟩
        · replace hge : 3 ≤ i := hgt
          clear hgt
          obtain rfl := eqi hi hge
          have p2 := hpre 2 (by kernel_rfl)
          have e2 : s2 = .int .i64 (n : Int) := hF.get 2 _ rfl (.inr p2)
          subst e2
          have r2 : A.tmps[12]? = some (.int .i64 (n : Int)) := hR.own 2 _ _ rfl rfl
          refine step_of ⟨some 13, _, _, _, _, _⟩ rfl (fun K' hK => ?_)
          go_simp
          exact hK.out _ _ ⟨_, hF.pure hok hla hpre rfl (Below.refl _ _), rfl⟩
    · replace hge : 4 ≤ i := hgt
      clear hgt
      rcases Nat.lt_or_ge i 6 with hlt | hgt
      · replace hi := hlt
        clear hlt
        rcases Nat.lt_or_ge i 5 with hlt | hgt
        · replace hi := hlt
          clear hlt
          obtain rfl := eqi hi hge
          have p3 := hpre 3 (by kernel_rfl)
          have e3 : s3 = .int .i64 ((n : Int) - 1) := hF.get 3 _ rfl (.inr p3)
          subst e3
          have r3 : A.tmps[13]? = some (.int .i64 ((n : Int) - 1)) := hR.own 3 _ _ rfl rfl
          refine step_of ⟨some 14, _, _, _, _, _⟩ rfl (fun K' hK => ?_)
          go_simp
          go_at_call 13
          (with_reducible refine (Qc0.out _ (HE.out.below (below_none hF.low))).mono ?_)
          rintro e Wq ⟨rfl, hq⟩
          exact hK.out _ _ ⟨_, hF.pure hok hla hpre rfl hq, rfl⟩
        · replace hge : 5 ≤ i := hgt
          clear hgt
          obtain rfl := eqi hi hge
          have p0 := hpre 0 (by kernel_rfl)
          have e0 : s0 = .agg #[.string (numS x), .string (denS x)] := hF.get 0 _ rfl (.inr p0)
          subst e0
          have r0 : A.tmps[10]? = some (.agg #[.string (numS x), .string (denS x)]) := hR.own 0 _ _ rfl rfl
          have p4 := hpre 4 (by kernel_rfl)
          have e4 : s4 = .agg #[.string (numS n1), .string (denS n1)] := hF.get 4 _ rfl (.inr p4)
          subst e4
          have r4 : A.tmps[14]? = some (.agg #[.string (numS n1), .string (denS n1)]) := hR.own 4 _ _ rfl rfl
          refine step_of ⟨some 15, _, _, _, _, _⟩ rfl (fun K' hK => ?_)
          go_simp
          go_at_call 187
          (with_reducible refine (Qc1.out _ (HE.out.below (below_none hF.low))).mono ?_)
          rintro e Wq ⟨rfl, hq⟩
          exact hK.out _ _ ⟨_, hF.pure hok hla hpre rfl hq, rfl⟩
      · replace hge : 6 ≤ i := hgt
        clear hgt
        rcases Nat.lt_or_ge i 7 with hlt | hgt
        · replace hi := hlt
          clear hlt
          obtain rfl := eqi hi hge
          refine step_of ⟨some 5, _, _, _, _, _⟩ rfl (fun K' hK => ?_)
          go_simp
          exact hK.out _ _ ⟨_, hF.box hok hla hpre hun rfl, rfl⟩
        · replace hge : 7 ≤ i := hgt
          clear hgt
          obtain rfl := eqi hi hge
          have p6 := hpre 6 (by kernel_rfl)
          obtain ⟨G, eG, _, hGl, hGB⟩ : ∃ G, s6 = .pointer (some ⟨G, 0, none⟩) ∧ (∀ k, none = some k → G = k) ∧ W0.heap.size ≤ G ∧ Wr.heap[G]? = some (.cells (if listed.getD 7 false = true then #[.string (numS h), .string (denS h)] else #[.string { data := #[] }, .string { data := #[] }]) 24 (0, 0)) := hF.get 6 _ rfl (.inr p6)
          subst eG
          rw [if_neg (bit_off hun)] at hGB
          have HGB := Lib.hid hGB
          clear hGB
          have r6 : A.tmps[5]? = some (.pointer (some ⟨G, 0, none⟩)) := hR.own 6 _ _ rfl rfl
          have p5 := hpre 5 (by kernel_rfl)
          have e5 : s5 = .agg #[.string (numS h), .string (denS h)] := hF.get 5 _ rfl (.inr p5)
          subst e5
          have r5 : A.tmps[15]? = some (.agg #[.string (numS h), .string (denS h)]) := hR.own 5 _ _ rfl rfl
          obtain ⟨⟨y0, y1⟩, g0, g1⟩ := two_at HGB.out
          refine step_of ⟨none, _, _, _, _, _⟩ rfl (fun K' hK => ?_)
          go_simp
          exact hK.out _ _ ⟨undef, hF.put hok hna hpre hun rfl undef rfl (.inr p6) rfl (set2_at HGB.out (.string (numS h)) (.string (denS h))) (fun k hk => set2_other _ _ (.string (numS h)) (.string (denS h)) hk) (put2_below hGl _ (.string (numS h)) (.string (denS h))), rfl⟩
  case hd =>
    rintro listed vs WA hF hall
    obtain ⟨s0, s1, s2, s3, s4, s5, s6, s7, hvs⟩ := exl_of 8 vs (fun l => vs = l) hF.len rfl
    subst hvs
    obtain ⟨b5, e6, _, gq, k6⟩ : ∃ G, s6 = .pointer (some ⟨G, 0, none⟩) ∧ (∀ k, none = some k → G = k) ∧ _ ≤ G ∧ WA.heap[G]? = some (.cells (if listed.getD 7 false = true then #[.string (numS h), .string (denS h)] else #[.string { data := #[] }, .string { data := #[] }]) 24 (0, 0)) := hF.get 6 _ rfl (.inr (hall 6 (by decide)))
    subst e6
    rw [if_pos (hall 7 (by decide))] at k6
    have H5 := Lib.hid k6
    clear k6
    have ge5 := Lib.hid gq
    clear gq
    have hq := below_none hF.low
    replace H3 := Lib.hid (keep_block H3.out hq)
    replace H4 := Lib.hid (keep_block H4.out hq)
    replace HE := Lib.hid (HE.out.below hq)
    replace HG := Lib.hid (HG.out.trans (hq.mono HG.out.size))
    replace HR := Lib.hid (HR.out.below hq)
    clear hq
    clear hF hall hok hla hna
    refine rest_end ?_
    simp only [putO, layL]
    clear ge5
    obtain ⟨⟨x5_0, x5_1⟩, x5_f0, x5_f1⟩ := two_at H5.out
    go_wp2_with fail
    refine (Qc2.out _ HE.out).mono ?_
    clear x5_0 x5_1 x5_f0 x5_f1
    rintro e w1 ⟨rfl, hb⟩
    replace H3 := Lib.hid (keep_block H3.out hb)
    replace H4 := Lib.hid (keep_block H4.out hb)
    replace H5 := Lib.hid (keep_block H5.out hb)
    replace HE := Lib.hid (HE.out.below hb)
    replace HG := Lib.hid (HG.out.trans (hb.mono HG.out.size))
    replace HR := Lib.hid (HR.out.below hb)
    clear hb
    go_wp2_with fail
    refine (Qc3.out _ HE.out).mono ?_
    rintro e w2 ⟨rfl, hb⟩
    replace H3 := Lib.hid (keep_block H3.out hb)
    replace H4 := Lib.hid (keep_block H4.out hb)
    replace H5 := Lib.hid (keep_block H5.out hb)
    replace HE := Lib.hid (HE.out.below hb)
    replace HG := Lib.hid (HG.out.trans (hb.mono HG.out.size))
    replace HR := Lib.hid (HR.out.below hb)
    clear hb
    have lt_3 := heap_lt H3.out
    have lt_4 := heap_lt H4.out
    have lt_5 := heap_lt H5.out
    have geW := HG.out.size
    have L6_3 : Hid (W.heap.size < w2.heap.size) := Lib.hid (by omega)
    have L6_4 : Hid (W.heap.size + 1 < w2.heap.size) := Lib.hid (by omega)
    have L6_5 : Hid (b5 < w2.heap.size) := Lib.hid (by omega)
    have G6 : Hid (W.heap.size ≤ w2.heap.size) := Lib.hid (by omega)
    have hb : Below w2.heap.size w2 (w2.alloc (.cells #[.string (numS f), .string (denS f)] 24)) := (Below.refl _ _).alloc (Nat.le_refl _) _
    replace H3 := Lib.hid (keep_block H3.out hb)
    replace H4 := Lib.hid (keep_block H4.out hb)
    replace H5 := Lib.hid (keep_block H5.out hb)
    replace HE := Lib.hid (HE.out.below hb)
    replace HG := Lib.hid (HG.out.trans (hb.mono HG.out.size))
    replace HR := Lib.hid (HR.out.below hb)
    have H6 := Lib.hid (heap_alloc_new w2 (.cells #[.string (numS f), .string (denS f)] 24))
    clear hb
    clear geW lt_3 lt_4 lt_5
    obtain ⟨WL2, hWL2⟩ : ∃ Z, (w2.alloc (.cells #[.string (numS f), .string (denS f)] 24)) = Z := ⟨_, rfl⟩
    rw [hWL2] at HR HE HG H3 H4 H5 H6
    have EWL2 := Lib.hid hWL2
    clear hWL2
    obtain ⟨⟨x6_0, x6_1⟩, x6_f0, x6_f1⟩ := two_at H6.out
    go_wp2_with fail
    rw [EWL2.out]
    refine (Qc4.out _ HE.out).mono ?_
    clear x6_0 x6_1 x6_f0 x6_f1
    rintro e w3 ⟨rfl, hb⟩
    replace H3 := Lib.hid (keep_block H3.out hb)
    replace H4 := Lib.hid (keep_block H4.out hb)
    replace H5 := Lib.hid (keep_block H5.out hb)
    replace H6 := Lib.hid (keep_block H6.out hb)
    replace HE := Lib.hid (HE.out.below hb)
    replace HG := Lib.hid (HG.out.trans (hb.mono HG.out.size))
    replace HR := Lib.hid (HR.out.below hb)
    clear hb
    obtain ⟨c0, c1⟩ := frac_at HR.out (i := k) (by have := HSS.out; omega)
    rw [HY.out] at c0 c1
    clear c0 c1
    obtain ⟨b6, hb6⟩ : ∃ b, w2.heap.size = b := ⟨_, rfl⟩
    rw [hb6] at H6
    have HB6 := Lib.hid hb6
    clear hb6
    go_wp2_with fail
    rw [HB6.out]
    have hok : okB 20 (perc_midKs6 x n1 h f y z e d t v n k g C b5 b6) = true := by kernel_rfl
    have hna := noAny_of (ks := (perc_midKs6 x n1 h f y z e d t v n k g C b5 b6)) (by kernel_rfl)
    have hla := lasts_of hna
    refine wp_region_facts_abs (row := none) (w := w3) 19 1 20 [19] (perc_midKs6 x n1 h f y z e d t v n k g C b5 b6) [some 36, some 37, some 38, some 39, some 40, some 41, some 42, some 43, some 44, some 45, some 46, some 47, some 48, some 49, some 50, some 51, some 52, some 53, some 54, none] [(0, .slice (some ⟨g, 0, none⟩) n C), (7, .int .i64 (k : Int)), (5, .pointer (some ⟨b5, 0, none⟩)), (6, .pointer (some ⟨b6, 0, none⟩))] 55 (by kernel_rfl) (by kernel_rfl) (by kernel_rfl) rfl rfl (by decide) rfl (by kernel_rfl) rfl (Nat.le_of_eq rfl) rfl ?ho [undef, undef, undef, undef, undef, undef, undef, undef, undef, undef, undef, undef, undef, undef, undef, undef, undef, undef, undef, undef] ?h00 (Fs.start rfl rfl) ?hs ?hd
    case ho =>
      intro k x hk
      match k, hk with
      | 0, hk => have hk := Option.some.inj hk; subst hk; rfl
      | 1, hk => have hk := Option.some.inj hk; subst hk; rfl
      | 2, hk => have hk := Option.some.inj hk; subst hk; rfl
      | 3, hk => have hk := Option.some.inj hk; subst hk; rfl
      | _ + 4, hk => exact absurd hk (by simp)
    case h00 => simp only [putO, layL]
    case hs =>
      rintro A listed vs Wr hF hR i hi hun hpre
      obtain ⟨s0, s1, s2, s3, s4, s5, s6, s7, s8, s9, s10, s11, s12, s13, s14, s15, s16, s17, s18, s19, hvs⟩ := exl_of 20 vs (fun l => vs = l) hF.len rfl
      subst hvs
      have hge := Nat.zero_le i
      rcases Nat.lt_or_ge i 9 with hlt | hgt
      · replace hi := hlt
        clear hlt
        rcases Nat.lt_or_ge i 4 with hlt | hgt
        · replace hi := hlt
          clear hlt
          rcases Nat.lt_or_ge i 2 with hlt | hgt
          · replace hi := hlt
            clear hlt
            rcases Nat.lt_or_ge i 1 with hlt | hgt
            · replace hi := hlt
              clear hlt
              obtain rfl := eqi hi hge
              have ro0 : A.tmps[0]? = some (.slice (some ⟨g, 0, none⟩) n C) := hR.out 0 _ rfl
              refine step_of ⟨some 36, _, _, _, _, _⟩ rfl (fun K' hK => ?_)
              go_simp
              exact hK.out _ _ ⟨_, hF.pure hok hla hpre rfl (Below.refl _ _), rfl⟩
            · replace hge : 1 ≤ i := hgt
              clear hgt
              obtain rfl := eqi hi hge
              have ro7 : A.tmps[7]? = some (.int .i64 (k : Int)) := hR.out 1 _ rfl
              refine step_of ⟨some 37, _, _, _, _, _⟩ rfl (fun K' hK => ?_)
              go_simp
              exact hK.out _ _ ⟨_, hF.pure hok hla hpre rfl (Below.refl _ _), rfl⟩
          · replace hge : 2 ≤ i := hgt
            clear hgt
            rcases Nat.lt_or_ge i 3 with hlt | hgt
            · replace hi := hlt
              clear hlt
              obtain rfl := eqi hi hge
              have p0 := hpre 0 (by kernel_rfl)
              have e0 : s0 = .slice (some ⟨g, 0, none⟩) n C := hF.get 0 _ rfl (.inr p0)
              subst e0
              have r0 : A.tmps[36]? = some (.slice (some ⟨g, 0, none⟩) n C) := hR.own 0 _ _ rfl rfl
              have p1 := hpre 1 (by kernel_rfl)
              have e1 : s1 = .int .i64 (k : Int) := hF.get 1 _ rfl (.inr p1)
              subst e1
              have r1 : A.tmps[37]? = some (.int .i64 (k : Int)) := hR.own 1 _ _ rfl rfl
              refine step_of ⟨some 38, _, _, _, _, _⟩ rfl (fun K' hK => ?_)
              go_simp
              exact hK.out _ _ ⟨_, hF.pure hok hla hpre rfl (Below.refl _ _), rfl⟩
            · replace hge : 3 ≤ i := hgt
              clear hgt
              obtain rfl := eqi hi hge
              have p2 := hpre 2 (by kernel_rfl)
              have e2 : s2 = .pointer (some ⟨g, k * 2, none⟩) := hF.get 2 _ rfl (.inr p2)
              subst e2
              have r2 : A.tmps[38]? = some (.pointer (some ⟨g, k * 2, none⟩)) := hR.own 2 _ _ rfl rfl
              have hcc := frac_at (HR.out.below (below_none hF.low)) (i := k) (by have := HSS.out; omega)
              rw [HY.out] at hcc
              obtain ⟨y0, y1⟩ := hcc
              refine step_of ⟨some 39, _, _, _, _, _⟩ rfl (fun K' hK => ?_)
              go_simp
              exact hK.out _ _ ⟨_, hF.pure hok hla hpre rfl (Below.refl _ _), rfl⟩
        · replace hge : 4 ≤ i := hgt
          clear hgt
          rcases Nat.lt_or_ge i 6 with hlt | hgt
          · replace hi := hlt
            clear hlt
            rcases Nat.lt_or_ge i 5 with hlt | hgt
            · replace hi := hlt
              clear hlt
              obtain rfl := eqi hi hge
              have ro5 : A.tmps[5]? = some (.pointer (some ⟨b5, 0, none⟩)) := hR.out 2 _ rfl
              have hcc := (two_at (keep_block H5.out (below_none hF.low))).1
              have cH50 := hcc.1
              have cH51 := hcc.2
              clear hcc
              refine step_of ⟨some 40, _, _, _, _, _⟩ rfl (fun K' hK => ?_)
              go_simp
              exact hK.out _ _ ⟨_, hF.pure hok hla hpre rfl (Below.refl _ _), rfl⟩
            · replace hge : 5 ≤ i := hgt
              clear hgt
              obtain rfl := eqi hi hge
              have ro6 : A.tmps[6]? = some (.pointer (some ⟨b6, 0, none⟩)) := hR.out 3 _ rfl
              have hcc := (two_at (keep_block H6.out (below_none hF.low))).1
              have cH60 := hcc.1
              have cH61 := hcc.2
              clear hcc
              refine step_of ⟨some 41, _, _, _, _, _⟩ rfl (fun K' hK => ?_)
              go_simp
              exact hK.out _ _ ⟨_, hF.pure hok hla hpre rfl (Below.refl _ _), rfl⟩
          · replace hge : 6 ≤ i := hgt
            clear hgt
            rcases Nat.lt_or_ge i 7 with hlt | hgt
            · replace hi := hlt
              clear hlt
              obtain rfl := eqi hi hge
              have p4 := hpre 4 (by kernel_rfl)
              have e4 : s4 = .agg #[.string (numS h), .string (denS h)] := hF.get 4 _ rfl (.inr p4)
              subst e4
              have r4 : A.tmps[40]? = some (.agg #[.string (numS h), .string (denS h)]) := hR.own 4 _ _ rfl rfl
              have p5 := hpre 5 (by kernel_rfl)
              have e5 : s5 = .agg #[.string (numS f), .string (denS f)] := hF.get 5 _ rfl (.inr p5)
              subst e5
              have r5 : A.tmps[41]? = some (.agg #[.string (numS f), .string (denS f)]) := hR.own 5 _ _ rfl rfl
              refine step_of ⟨some 42, _, _, _, _, _⟩ rfl (fun K' hK => ?_)
              go_simp
              go_at_call 188
              (with_reducible refine (Qc5.out _ (HE.out.below (below_none hF.low))).mono ?_)
              rintro e Wq ⟨rfl, hq⟩
              exact hK.out _ _ ⟨_, hF.pure hok hla hpre rfl hq, rfl⟩
            · replace hge : 7 ≤ i := hgt
              clear hgt
              rcases Nat.lt_or_ge i 8 with hlt | hgt
              · replace hi := hlt
                clear hlt
                obtain rfl := eqi hi hge
                have ro0 : A.tmps[0]? = some (.slice (some ⟨g, 0, none⟩) n C) := hR.out 0 _ rfl
                refine step_of ⟨some 43, _, _, _, _, _⟩ rfl (fun K' hK => ?_)
                go_simp
                exact hK.out _ _ ⟨_, hF.pure hok hla hpre rfl (Below.refl _ _), rfl⟩
              · replace hge : 8 ≤ i := hgt
                clear hgt
                obtain rfl := eqi hi hge
                have ro7 : A.tmps[7]? = some (.int .i64 (k : Int)) := hR.out 1 _ rfl
                refine step_of ⟨some 44, _, _, _, _, _⟩ rfl (fun K' hK => ?_)
                go_simp
                exact hK.out _ _ ⟨_, hF.pure hok hla hpre rfl (Below.refl _ _), rfl⟩
      · replace hge : 9 ≤ i := hgt
        clear hgt
        rcases Nat.lt_or_ge i 14 with hlt | hgt
        · replace hi := hlt
          clear hlt
          rcases Nat.lt_or_ge i 11 with hlt | hgt
          · replace hi := hlt
            clear hlt
            rcases Nat.lt_or_ge i 10 with hlt | hgt
            · replace hi := hlt
              clear hlt
              obtain rfl := eqi hi hge
              have p8 := hpre 8 (by kernel_rfl)
              have e8 : s8 = .int .i64 (k : Int) := hF.get 8 _ rfl (.inr p8)
              subst e8
              have r8 : A.tmps[44]? = some (.int .i64 (k : Int)) := hR.own 8 _ _ rfl rfl
              refine step_of ⟨some 45, _, _, _, _, _⟩ rfl (fun K' hK => ?_)
              go_simp
              exact hK.out _ _ ⟨_, hF.pure hok hla hpre rfl (Below.refl _ _), rfl⟩
            · replace hge : 10 ≤ i := hgt
              clear hgt
              obtain rfl := eqi hi hge
              have p7 := hpre 7 (by kernel_rfl)
              have e7 : s7 = .slice (some ⟨g, 0, none⟩) n C := hF.get 7 _ rfl (.inr p7)
              subst e7
              have r7 : A.tmps[43]? = some (.slice (some ⟨g, 0, none⟩) n C) := hR.own 7 _ _ rfl rfl
              have p9 := hpre 9 (by kernel_rfl)
              have e9 : s9 = .int .i64 ((k : Int) + 1) := hF.get 9 _ rfl (.inr p9)
              subst e9
              have r9 : A.tmps[45]? = some (.int .i64 ((k : Int) + 1)) := hR.own 9 _ _ rfl rfl
              refine step_of ⟨some 46, _, _, _, _, _⟩ rfl (fun K' hK => ?_)
              go_simp
              exact hK.out _ _ ⟨_, hF.pure hok hla hpre rfl (Below.refl _ _), rfl⟩
          · replace hge : 11 ≤ i := hgt
            clear hgt
            rcases Nat.lt_or_ge i 12 with hlt | hgt
            · replace hi := hlt
              clear hlt
              obtain rfl := eqi hi hge
              have p10 := hpre 10 (by kernel_rfl)
              have e10 : s10 = .pointer (some ⟨g, (k + 1) * 2, none⟩) := hF.get 10 _ rfl (.inr p10)
              subst e10
              have r10 : A.tmps[46]? = some (.pointer (some ⟨g, (k + 1) * 2, none⟩)) := hR.own 10 _ _ rfl rfl
              have hcc := frac_at (HR.out.below (below_none hF.low)) (i := k + 1) (by have := HSS.out; have := HKN.out; omega)
              rw [HZ.out] at hcc
              obtain ⟨y0, y1⟩ := hcc
              refine step_of ⟨some 47, _, _, _, _, _⟩ rfl (fun K' hK => ?_)
              go_simp
              exact hK.out _ _ ⟨_, hF.pure hok hla hpre rfl (Below.refl _ _), rfl⟩
            · replace hge : 12 ≤ i := hgt
              clear hgt
              rcases Nat.lt_or_ge i 13 with hlt | hgt
              · replace hi := hlt
                clear hlt
                obtain rfl := eqi hi hge
                have ro0 : A.tmps[0]? = some (.slice (some ⟨g, 0, none⟩) n C) := hR.out 0 _ rfl
                refine step_of ⟨some 48, _, _, _, _, _⟩ rfl (fun K' hK => ?_)
                go_simp
                exact hK.out _ _ ⟨_, hF.pure hok hla hpre rfl (Below.refl _ _), rfl⟩
              · replace hge : 13 ≤ i := hgt
                clear hgt
                obtain rfl := eqi hi hge
                have ro7 : A.tmps[7]? = some (.int .i64 (k : Int)) := hR.out 1 _ rfl
                refine step_of ⟨some 49, _, _, _, _, _⟩ rfl (fun K' hK => ?_)
                go_simp
                exact hK.out _ _ ⟨_, hF.pure hok hla hpre rfl (Below.refl _ _), rfl⟩
        · replace hge : 14 ≤ i := hgt
          clear hgt
          rcases Nat.lt_or_ge i 16 with hlt | hgt
          · replace hi := hlt
            clear hlt
            rcases Nat.lt_or_ge i 15 with hlt | hgt
            · replace hi := hlt
              clear hlt
              obtain rfl := eqi hi hge
              have p12 := hpre 12 (by kernel_rfl)
              have e12 : s12 = .slice (some ⟨g, 0, none⟩) n C := hF.get 12 _ rfl (.inr p12)
              subst e12
              have r12 : A.tmps[48]? = some (.slice (some ⟨g, 0, none⟩) n C) := hR.own 12 _ _ rfl rfl
              have p13 := hpre 13 (by kernel_rfl)
              have e13 : s13 = .int .i64 (k : Int) := hF.get 13 _ rfl (.inr p13)
              subst e13
              have r13 : A.tmps[49]? = some (.int .i64 (k : Int)) := hR.own 13 _ _ rfl rfl
              refine step_of ⟨some 50, _, _, _, _, _⟩ rfl (fun K' hK => ?_)
              go_simp
              exact hK.out _ _ ⟨_, hF.pure hok hla hpre rfl (Below.refl _ _), rfl⟩
            · replace hge : 15 ≤ i := hgt
              clear hgt
              obtain rfl := eqi hi hge
              have p14 := hpre 14 (by kernel_rfl)
              have e14 : s14 = .pointer (some ⟨g, k * 2, none⟩) := hF.get 14 _ rfl (.inr p14)
              subst e14
              have r14 : A.tmps[50]? = some (.pointer (some ⟨g, k * 2, none⟩)) := hR.own 14 _ _ rfl rfl
              have hcc := frac_at (HR.out.below (below_none hF.low)) (i := k) (by have := HSS.out; omega)
              rw [HY.out] at hcc
              obtain ⟨y0, y1⟩ := hcc
              refine step_of ⟨some 51, _, _, _, _, _⟩ rfl (fun K' hK => ?_)
              go_simp
              exact hK.out _ _ ⟨_, hF.pure hok hla hpre rfl (Below.refl _ _), rfl⟩
          · replace hge : 16 ≤ i := hgt
            clear hgt
            rcases Nat.lt_or_ge i 17 with hlt | hgt
            · replace hi := hlt
              clear hlt
              obtain rfl := eqi hi hge
              have p11 := hpre 11 (by kernel_rfl)
              have e11 : s11 = .agg #[.string (numS z), .string (denS z)] := hF.get 11 _ rfl (.inr p11)
              subst e11
              have r11 : A.tmps[47]? = some (.agg #[.string (numS z), .string (denS z)]) := hR.own 11 _ _ rfl rfl
              have p15 := hpre 15 (by kernel_rfl)
              have e15 : s15 = .agg #[.string (numS y), .string (denS y)] := hF.get 15 _ rfl (.inr p15)
              subst e15
              have r15 : A.tmps[51]? = some (.agg #[.string (numS y), .string (denS y)]) := hR.own 15 _ _ rfl rfl
              refine step_of ⟨some 52, _, _, _, _, _⟩ rfl (fun K' hK => ?_)
              go_simp
              go_at_call 188
              (with_reducible refine (Qc6.out _ (HE.out.below (below_none hF.low))).mono ?_)
              rintro e Wq ⟨rfl, hq⟩
              exact hK.out _ _ ⟨_, hF.pure hok hla hpre rfl hq, rfl⟩
            · replace hge : 17 ≤ i := hgt
              clear hgt
              rcases Nat.lt_or_ge i 18 with hlt | hgt
              · replace hi := hlt
                clear hlt
                obtain rfl := eqi hi hge
                have p6 := hpre 6 (by kernel_rfl)
                have e6 : s6 = .agg #[.string (numS e), .string (denS e)] := hF.get 6 _ rfl (.inr p6)
                subst e6
                have r6 : A.tmps[42]? = some (.agg #[.string (numS e), .string (denS e)]) := hR.own 6 _ _ rfl rfl
                have p16 := hpre 16 (by kernel_rfl)
                have e16 : s16 = .agg #[.string (numS d), .string (denS d)] := hF.get 16 _ rfl (.inr p16)
                subst e16
                have r16 : A.tmps[52]? = some (.agg #[.string (numS d), .string (denS d)]) := hR.own 16 _ _ rfl rfl
                refine step_of ⟨some 53, _, _, _, _, _⟩ rfl (fun K' hK => ?_)
                go_simp
                go_at_call 187
                (with_reducible refine (Qc7.out _ (HE.out.below (below_none hF.low))).mono ?_)
                rintro e Wq ⟨rfl, hq⟩
                exact hK.out _ _ ⟨_, hF.pure hok hla hpre rfl hq, rfl⟩
              · replace hge : 18 ≤ i := hgt
                clear hgt
                obtain rfl := eqi hi hge
                have p3 := hpre 3 (by kernel_rfl)
                have e3 : s3 = .agg #[.string (numS y), .string (denS y)] := hF.get 3 _ rfl (.inr p3)
                subst e3
                have r3 : A.tmps[39]? = some (.agg #[.string (numS y), .string (denS y)]) := hR.own 3 _ _ rfl rfl
                have p17 := hpre 17 (by kernel_rfl)
                have e17 : s17 = .agg #[.string (numS t), .string (denS t)] := hF.get 17 _ rfl (.inr p17)
                subst e17
                have r17 : A.tmps[53]? = some (.agg #[.string (numS t), .string (denS t)]) := hR.own 17 _ _ rfl rfl
                refine step_of ⟨some 54, _, _, _, _, _⟩ rfl (fun K' hK => ?_)
                go_simp
                go_at_call 183
                (with_reducible refine (Qc8.out _ (HE.out.below (below_none hF.low))).mono ?_)
                rintro e Wq ⟨rfl, hq⟩
                exact hK.out _ _ ⟨_, hF.pure hok hla hpre rfl hq, rfl⟩
    case hd =>
      rintro listed vs WB hF hall
      obtain ⟨s0, s1, s2, s3, s4, s5, s6, s7, s8, s9, s10, s11, s12, s13, s14, s15, s16, s17, s18, s19, hvs⟩ := exl_of 20 vs (fun l => vs = l) hF.len rfl
      subst hvs
      have e18 : s18 = .agg #[.string (numS v), .string (denS v)] := hF.get 18 _ rfl (.inr (hall 18 (by decide)))
      subst e18
      have hq := below_none hF.low
      replace H3 := Lib.hid (keep_block H3.out hq)
      replace H4 := Lib.hid (keep_block H4.out hq)
      replace H5 := Lib.hid (keep_block H5.out hq)
      replace H6 := Lib.hid (keep_block H6.out hq)
      replace HE := Lib.hid (HE.out.below hq)
      replace HG := Lib.hid (HG.out.trans (hq.mono HG.out.size))
      replace HR := Lib.hid (HR.out.below hq)
      clear hq
      clear hF hall hok hla hna
      simp only [putO, layL]
      obtain ⟨⟨r0, r1⟩, rf0, rf1⟩ := two_at H4.out
      obtain ⟨nb, z0, z1⟩ := frac_put (x := .string (numS v)) (y := .string (denS v)) H4.out HG.out (by omega)
      refine rest_one 19 ⟨none, _, _, _, _, _⟩ rfl (by kernel_rfl) rfl (fun K' hK => ?_)
      go_simp
      refine hK.out _ _ ?_
      refine rest_end ?_
      go_wp2
      refine bodyPost_ret (v := .agg #[.string (numS v), .string (denS v)]) (by simp [results, Tryz.results92, go_sem, z0, z1]) rfl ⟨rfl, nb⟩

end Go.Proofs.YtgponoogifeopaaGreatDoor.Num.Ft

/- package fstat: quantile, and MEDIAN's function: a row in order, then the number at a place. Conditions: what the small functions and percentile give; the tables lie as they are laid. -/
namespace Go.Proofs.YtgponoogifeopaaGreatDoor.Num.Ft
open Go.RowKit Go.Lib Num
attribute [local irreducible] wpOp
/-- what percentile gives at a row of fractions -/
def PercF (ss : List Rat) (x v : Rat) : Prop := ∀ (W : World) (g C : Nat), FracsAt W g ss → EnvY W → Calls Tryz.prog 92 #[.slice (some ⟨g, 0, none⟩) ss.length C, .agg #[.string (numS x), .string (denS x)]] W fun e w' => e = .returned (.agg #[.string (numS v), .string (denS v)]) ∧ Below W.heap.size W w'
set_option linter.unusedVariables false in
/-- what the operations of region 2 yield -/
def quantile_anyKs2 (j0 j1 : Int) (x o : Rat) (n g C : Nat) : List RK :=
  [.pure (.agg #[.string (numS x), .string (denS x)]),
   .pure (.int .i64 j0),
   .pure (.bool false),
   .pure (.bool false),
   .pure (.agg #[.string (numS x), .string (denS x)]),
   .pure (.agg #[.string (numS o), .string (denS o)]),
   .pure (.int .i64 j1),
   .pure (.bool false),
   .pure (.bool false),
   .pure (.tuple #[])]
set_option linter.unusedSimpArgs false in
set_option linter.unusedVariables false in
set_option maxHeartbeats 4000000 in
set_option maxRecDepth 100000 in
theorem quantile_any (j0 j1 : Int) (g C : Nat) (qs : List Rat) (x o v : Rat) (W : World) (h0 : 0 < qs.length)
    (h9 : qs.length ≤ 1000)
    (hq : ∀ q ∈ qs, fits q = true)
    (hx0 : 0 ≤ j0)
    (hx1 : j1 ≤ 0)
    (c0 : Fun1 196 (.agg #[.string (numS x), .string (denS x)]) (.int .i64 j0))
    (c1 : Fun1 13 (.int .i64 1) (.agg #[.string (numS o), .string (denS o)]))
    (c2 : Fun2 184 (.agg #[.string (numS x), .string (denS x)]) (.agg #[.string (numS o), .string (denS o)]) (.int .i64 j1))
    (hp : PercF (sortL qs) x v)
    (hr : FracsAt W g qs) (hE : EnvY W) :
    Calls Tryz.prog 100 #[.slice (some ⟨g, 0, none⟩) qs.length C, .agg #[.string (numS x), .string (denS x)]] W fun e w' => e = .returned (.agg #[.string (numS v), .string (denS v)]) ∧ Below W.heap.size W w' := by
  have HR := Lib.hid hr
  have TS := Lib.hid (fun W hf hE => sorted_any qs g C W h0 h9 hq hf hE)
  have TP := Lib.hid hp
  unfold PercF at TP
  rw [sortL_len] at TP
  obtain ⟨n, hn⟩ : ∃ n, qs.length = n := ⟨_, rfl⟩
  rw [hn] at TS TP h0 h9 ⊢
  have e1 : decide (j0 < 0) = false := decide_eq_false (by omega)
  have e2 : decide (0 < j1) = false := decide_eq_false (by omega)
  have e3 : decide (j1 > 0) = false := decide_eq_false (by omega)
  have Qc0 := Lib.hid c0
  unfold Fun1 at Qc0
  have Qc1 := Lib.hid c1
  unfold Fun1 at Qc1
  have Qc2 := Lib.hid c2
  unfold Fun2 at Qc2
  have HE0 := Lib.hid hE
  have HG := Lib.hid (show Below W.heap.size W ((W.alloc (.cells #[.string (numS x), .string (denS x)] 24)).alloc (.cells #[.string { data := #[] }, .string { data := #[] }] 24)) from (((Below.refl _ _).alloc (Nat.le_refl _) _).alloc (by simp only [World.size_alloc]; omega) _))
  have H3 : Hid (((W.alloc (.cells #[.string (numS x), .string (denS x)] 24)).alloc (.cells #[.string { data := #[] }, .string { data := #[] }] 24)).heap[W.heap.size]? = some (.cells #[.string (numS x), .string (denS x)] 24 (0, 0))) := Lib.hid (by
    have h := heap_alloc_new W (.cells #[.string (numS x), .string (denS x)] 24)
    exact new_keep (h))
  have H4 : Hid (((W.alloc (.cells #[.string (numS x), .string (denS x)] 24)).alloc (.cells #[.string { data := #[] }, .string { data := #[] }] 24)).heap[W.heap.size + 1]? = some (.cells #[.string { data := #[] }, .string { data := #[] }] 24 (0, 0))) := Lib.hid (by
    have h := heap_alloc_new (W.alloc (.cells #[.string (numS x), .string (denS x)] 24)) (.cells #[.string { data := #[] }, .string { data := #[] }] 24)
    simp only [World.size_alloc] at h
    exact h)
  obtain ⟨W0, hW0⟩ : ∃ Z, ((W.alloc (.cells #[.string (numS x), .string (denS x)] 24)).alloc (.cells #[.string { data := #[] }, .string { data := #[] }] 24)) = Z := ⟨_, rfl⟩
  rw [hW0] at HG H3 H4
  have EW0 := Lib.hid hW0
  have HE := Lib.hid (HE0.out.below HG.out)
  clear hW0 hE  c0 c1 c2 hr hp hq hn
  go_enter Tryz.func100, Tryz.ntmps100
  replace HR := Lib.hid (show FracsAt W0 g qs from by rw [← EW0.out]; exact (HR.out.below ((Below.refl _ _).alloc (Nat.le_refl _) _)).below ((Below.refl _ _).alloc (Nat.le_refl _) _))
  go_wp2_with fail
  rw [EW0.out]
  refine (some_any _ _ _ _ h0).mono ?_
  rintro e w1 ⟨rfl, hws⟩
  replace hws := hws.symm
  subst hws
  go_wp2_with fail
  have hok : okB 10 (quantile_anyKs2 j0 j1 x o n g C) = true := by kernel_rfl
  have hna := noAny_of (ks := (quantile_anyKs2 j0 j1 x o n g C)) (by kernel_rfl)
  have hla := lasts_of hna
  refine wp_region_facts_abs (row := none) (w := W0) 10 0 10 [] (quantile_anyKs2 j0 j1 x o n g C) [some 7, some 8, some 9, some 10, some 11, some 12, some 13, some 14, some 15, some 16] [(3, .pointer (some ⟨W.heap.size, 0, none⟩))] 21 (by kernel_rfl) (by kernel_rfl) (by kernel_rfl) rfl rfl (by decide) rfl (by kernel_rfl) rfl (Nat.le_of_eq rfl) rfl ?ho [undef, undef, undef, undef, undef, undef, undef, undef, undef, undef] ?h00 (Fs.start rfl rfl) ?hs ?hd
  case ho =>
    intro k x hk
    match k, hk with
    | 0, hk => have hk := Option.some.inj hk; subst hk; rfl
    | _ + 1, hk => exact absurd hk (by simp)
  case h00 => simp only [putO, layL]
  case hs =>
    rintro A listed vs Wr hF hR i hi hun hpre
    obtain ⟨s0, s1, s2, s3, s4, s5, s6, s7, s8, s9, hvs⟩ := exl_of 10 vs (fun l => vs = l) hF.len rfl
    subst hvs
    have hge := Nat.zero_le i
    rcases Nat.lt_or_ge i 5 with hlt | hgt
    · replace hi := hlt
      clear hlt
      rcases Nat.lt_or_ge i 2 with hlt | hgt
      · replace hi := hlt
        clear hlt
        rcases Nat.lt_or_ge i 1 with hlt | hgt
        · replace hi := hlt
          clear hlt
          obtain rfl := eqi hi hge
          have ro3 : A.tmps[3]? = some (.pointer (some ⟨W.heap.size, 0, none⟩)) := hR.out 0 _ rfl
          have hcc := (two_at (keep_block H3.out (below_none hF.low))).1
          have cH30 := hcc.1
          have cH31 := hcc.2
          clear hcc
          refine step_of ⟨some 7, _, _, _, _, _⟩ rfl (fun K' hK => ?_)
          go_simp
          exact hK.out _ _ ⟨_, hF.pure hok hla hpre rfl (Below.refl _ _), rfl⟩
        · replace hge : 1 ≤ i := hgt
          clear hgt
          obtain rfl := eqi hi hge
          have p0 := hpre 0 (by kernel_rfl)
          have e0 : s0 = .agg #[.string (numS x), .string (denS x)] := hF.get 0 _ rfl (.inr p0)
          subst e0
          have r0 : A.tmps[7]? = some (.agg #[.string (numS x), .string (denS x)]) := hR.own 0 _ _ rfl rfl
          refine step_of ⟨some 8, _, _, _, _, _⟩ rfl (fun K' hK => ?_)
          go_simp
          go_at_call 196
          (with_reducible refine (Qc0.out _ (HE.out.below (below_none hF.low))).mono ?_)
          rintro e Wq ⟨rfl, hq⟩
          exact hK.out _ _ ⟨_, hF.pure hok hla hpre rfl hq, rfl⟩
      · replace hge : 2 ≤ i := hgt
        clear hgt
        rcases Nat.lt_or_ge i 3 with hlt | hgt
        · replace hi := hlt
          clear hlt
          obtain rfl := eqi hi hge
          have p1 := hpre 1 (by kernel_rfl)
          have e1 : s1 = .int .i64 j0 := hF.get 1 _ rfl (.inr p1)
          subst e1
          have r1 : A.tmps[8]? = some (.int .i64 j0) := hR.own 1 _ _ rfl rfl
          refine step_of ⟨some 9, _, _, _, _, _⟩ rfl (fun K' hK => ?_)
          go_simp
          exact hK.out _ _ ⟨_, hF.pure hok hla hpre rfl (Below.refl _ _), rfl⟩
        · replace hge : 3 ≤ i := hgt
          clear hgt
          rcases Nat.lt_or_ge i 4 with hlt | hgt
          · replace hi := hlt
            clear hlt
            obtain rfl := eqi hi hge
            have p2 := hpre 2 (by kernel_rfl)
            have e2 : s2 = .bool false := hF.get 2 _ rfl (.inr p2)
            subst e2
            have r2 : A.tmps[9]? = some (.bool false) := hR.own 2 _ _ rfl rfl
            refine step_of ⟨some 10, _, _, _, _, _⟩ rfl (fun K' hK => ?_)
            go_simp
            exact hK.out _ _ ⟨_, hF.pure hok hla hpre rfl (Below.refl _ _), rfl⟩
          · replace hge : 4 ≤ i := hgt
            clear hgt
            obtain rfl := eqi hi hge
            have p3 := hpre 3 (by kernel_rfl)
            have e3 : s3 = .bool false := hF.get 3 _ rfl (.inr p3)
            subst e3
            have r3 : A.tmps[10]? = some (.bool false) := hR.own 3 _ _ rfl rfl
            have ro3 : A.tmps[3]? = some (.pointer (some ⟨W.heap.size, 0, none⟩)) := hR.out 0 _ rfl
            have hcc := (two_at (keep_block H3.out (below_none hF.low))).1
            have cH30 := hcc.1
            have cH31 := hcc.2
            clear hcc
            refine step_of ⟨some 11, _, _, _, _, _⟩ rfl (fun K' hK => ?_)
            rw [if_pos (by simp [Region.wanted, yielded, r3])]
            go_simp
            exact hK.out _ _ ⟨_, hF.pure hok hla hpre rfl (Below.refl _ _), rfl⟩
    · replace hge : 5 ≤ i := hgt
      clear hgt
      rcases Nat.lt_or_ge i 7 with hlt | hgt
      · replace hi := hlt
        clear hlt
        rcases Nat.lt_or_ge i 6 with hlt | hgt
        · replace hi := hlt
          clear hlt
          obtain rfl := eqi hi hge
          have p3 := hpre 3 (by kernel_rfl)
          have e3 : s3 = .bool false := hF.get 3 _ rfl (.inr p3)
          subst e3
          have r3 : A.tmps[10]? = some (.bool false) := hR.own 3 _ _ rfl rfl
          refine step_of ⟨some 12, _, _, _, _, _⟩ rfl (fun K' hK => ?_)
          rw [if_pos (by simp [Region.wanted, yielded, r3])]
          go_simp
          go_at_call 13
          (with_reducible refine (Qc1.out _ (HE.out.below (below_none hF.low))).mono ?_)
          rintro e Wq ⟨rfl, hq⟩
          exact hK.out _ _ ⟨_, hF.pure hok hla hpre rfl hq, rfl⟩
        · replace hge : 6 ≤ i := hgt
          clear hgt
          obtain rfl := eqi hi hge
          have p4 := hpre 4 (by kernel_rfl)
          have e4 : s4 = .agg #[.string (numS x), .string (denS x)] := hF.get 4 _ rfl (.inr p4)
          subst e4
          have r4 : A.tmps[11]? = some (.agg #[.string (numS x), .string (denS x)]) := hR.own 4 _ _ rfl rfl
          have p5 := hpre 5 (by kernel_rfl)
          have e5 : s5 = .agg #[.string (numS o), .string (denS o)] := hF.get 5 _ rfl (.inr p5)
          subst e5
          have r5 : A.tmps[12]? = some (.agg #[.string (numS o), .string (denS o)]) := hR.own 5 _ _ rfl rfl
          have p3 := hpre 3 (by kernel_rfl)
          have e3 : s3 = .bool false := hF.get 3 _ rfl (.inr p3)
          subst e3
          have r3 : A.tmps[10]? = some (.bool false) := hR.own 3 _ _ rfl rfl
          refine step_of ⟨some 13, _, _, _, _, _⟩ rfl (fun K' hK => ?_)
          rw [if_pos (by simp [Region.wanted, yielded, r3])]
          go_simp
          go_at_call 184
          (with_reducible refine (Qc2.out _ (HE.out.below (below_none hF.low))).mono ?_)
          rintro e Wq ⟨rfl, hq⟩
          exact hK.out _ _ ⟨_, hF.pure hok hla hpre rfl hq, rfl⟩
      · replace hge : 7 ≤ i := hgt
        clear hgt
        rcases Nat.lt_or_ge i 8 with hlt | hgt
        · replace hi := hlt
          clear hlt
          obtain rfl := eqi hi hge
          have p6 := hpre 6 (by kernel_rfl)
          have e6 : s6 = .int .i64 j1 := hF.get 6 _ rfl (.inr p6)
          subst e6
          have r6 : A.tmps[13]? = some (.int .i64 j1) := hR.own 6 _ _ rfl rfl
          have p3 := hpre 3 (by kernel_rfl)
          have e3 : s3 = .bool false := hF.get 3 _ rfl (.inr p3)
          subst e3
          have r3 : A.tmps[10]? = some (.bool false) := hR.own 3 _ _ rfl rfl
          refine step_of ⟨some 14, _, _, _, _, _⟩ rfl (fun K' hK => ?_)
          rw [if_pos (by simp [Region.wanted, yielded, r3])]
          go_simp
          exact hK.out _ _ ⟨_, hF.pure hok hla hpre rfl (Below.refl _ _), rfl⟩
        · replace hge : 8 ≤ i := hgt
          clear hgt
          rcases Nat.lt_or_ge i 9 with hlt | hgt
          · replace hi := hlt
            clear hlt
            obtain rfl := eqi hi hge
            have p3 := hpre 3 (by kernel_rfl)
            have e3 : s3 = .bool false := hF.get 3 _ rfl (.inr p3)
            subst e3
            have r3 : A.tmps[10]? = some (.bool false) := hR.own 3 _ _ rfl rfl
            have p7 := hpre 7 (by kernel_rfl)
            have e7 : s7 = .bool false := hF.get 7 _ rfl (.inr p7)
            subst e7
            have r7 : A.tmps[14]? = some (.bool false) := hR.own 7 _ _ rfl rfl
            refine step_of ⟨some 15, _, _, _, _, _⟩ rfl (fun K' hK => ?_)
            go_simp
            exact hK.out _ _ ⟨_, hF.pure hok hla hpre rfl (Below.refl _ _), rfl⟩
          · replace hge : 9 ≤ i := hgt
            clear hgt
            obtain rfl := eqi hi hge
            have p8 := hpre 8 (by kernel_rfl)
            have e8 : s8 = .bool false := hF.get 8 _ rfl (.inr p8)
            subst e8
            have r8 : A.tmps[15]? = some (.bool false) := hR.own 8 _ _ rfl rfl
            refine step_of ⟨some 16, _, _, _, _, _⟩ rfl (fun K' hK => ?_)
            go_simp
            go_at_call 191
            (with_reducible refine (stop_no 5 _).mono ?_)
            rintro e Wq ⟨rfl, hq⟩
            subst hq
            exact hK.out _ _ ⟨_, hF.pure hok hla hpre rfl (Below.refl _ _), rfl⟩
  case hd =>
    rintro listed vs WA hF hall
    obtain ⟨s0, s1, s2, s3, s4, s5, s6, s7, s8, s9, hvs⟩ := exl_of 10 vs (fun l => vs = l) hF.len rfl
    subst hvs
    have hq := below_none hF.low
    replace H3 := Lib.hid (keep_block H3.out hq)
    replace H4 := Lib.hid (keep_block H4.out hq)
    replace HE := Lib.hid (HE.out.below hq)
    replace HG := Lib.hid (HG.out.trans (hq.mono HG.out.size))
    replace HR := Lib.hid (HR.out.below hq)
    clear hq
    clear hF hall hok hla hna
    refine rest_end ?_
    simp only [putO, layL]
    go_upto_region 3 with fail
    refine wp_region_rest 0 (fun _ a W => a = _ ∧ W = WA.drew) (by kernel_rfl) (by kernel_rfl) (Nat.zero_le _) (by kernel_rfl) ⟨rfl, rfl⟩ (fun _ _ _ _ i hi => absurd hi (Nat.not_lt_zero _)) ?_
    rintro listed a W ⟨rfl, rfl⟩ _
    have hq : Below WA.heap.size WA WA.drew := (Below.refl _ _).drew
    replace H3 := Lib.hid (keep_block H3.out hq)
    replace H4 := Lib.hid (keep_block H4.out hq)
    replace HE := Lib.hid (HE.out.below hq)
    replace HG := Lib.hid (HG.out.trans (hq.mono HG.out.size))
    replace HR := Lib.hid (HR.out.below hq)
    clear hq
    obtain ⟨V0, hV0⟩ : ∃ Z, WA.drew = Z := ⟨_, rfl⟩
    rw [hV0] at HR HE HG H3 H4 ⊢
    clear hV0
    show restOps _ _ _ 5 [0, 1, 2, 3, 4] _ _
    refine rest_two 0 2 ⟨some 17, _, _, _, _, _⟩ ⟨some 19, _, _, _, _, _⟩ rfl rfl (by kernel_rfl) rfl rfl (fun K' hK => ?_) (fun K' hK => ?_)
    · skip
      go_simp
      refine hK.out _ _ ?_
      refine rest_two 1 2 ⟨some 18, _, _, _, _, _⟩ ⟨some 19, _, _, _, _, _⟩ rfl rfl (by kernel_rfl) rfl rfl (fun K' hK => ?_) (fun K' hK => ?_)
      · skip
        go_simp
        go_at_call 93
        (with_reducible refine (TS.out _ HR.out HE.out).mono ?_)
        rintro e V1 ⟨g1, C1, rfl, hf, _, _, hb⟩
        replace H3 := Lib.hid (keep_block H3.out hb)
        replace H4 := Lib.hid (keep_block H4.out hb)
        replace HE := Lib.hid (HE.out.below hb)
        replace HG := Lib.hid (HG.out.trans (hb.mono HG.out.size))
        replace HR := Lib.hid (HR.out.below hb)
        have HF1 := Lib.hid hf
        clear hf hb
        refine hK.out _ _ ?_
        refine rest_one 2 ⟨some 19, _, _, _, _, _⟩ rfl (by kernel_rfl) rfl (fun K' hK => ?_)
        obtain ⟨⟨xl0, xl1⟩, _⟩ := two_at H3.out
        go_simp
        refine hK.out _ _ ?_
        clear xl0 xl1
        refine rest_one 3 ⟨some 20, _, _, _, _, _⟩ rfl (by kernel_rfl) rfl (fun K' hK => ?_)
        go_simp
        go_at_call 92
        (with_reducible refine (TP.out _ _ _ HF1.out HE.out).mono ?_)
        rintro e V2 ⟨rfl, hb⟩
        replace H3 := Lib.hid (keep_block H3.out hb)
        replace H4 := Lib.hid (keep_block H4.out hb)
        replace HE := Lib.hid (HE.out.below hb)
        replace HG := Lib.hid (HG.out.trans (hb.mono HG.out.size))
        replace HR := Lib.hid (HR.out.below hb)
        clear hb
        refine hK.out _ _ ?_
        refine rest_one 4 ⟨none, _, _, _, _, _⟩ rfl (by kernel_rfl) rfl (fun K' hK => ?_)
        obtain ⟨⟨r0, r1⟩, rf0, rf1⟩ := two_at H4.out
        obtain ⟨nb, z0, z1⟩ := frac_put (x := .string (numS v)) (y := .string (denS v)) H4.out HG.out (by omega)
        go_simp
        refine hK.out _ _ ?_
        refine rest_end ?_
        go_wp2
        refine bodyPost_ret (v := .agg #[.string (numS v), .string (denS v)]) (by simp [results, Tryz.results100, go_sem, z0, z1]) rfl ⟨rfl, nb⟩
      · skip
        obtain ⟨⟨xl0, xl1⟩, _⟩ := two_at H3.out
        go_simp
        refine hK.out _ _ ?_
        clear xl0 xl1
        refine rest_one 1 ⟨some 18, _, _, _, _, _⟩ rfl (by kernel_rfl) rfl (fun K' hK => ?_)
        go_simp
        go_at_call 93
        (with_reducible refine (TS.out _ HR.out HE.out).mono ?_)
        rintro e V1 ⟨g1, C1, rfl, hf, _, _, hb⟩
        replace H3 := Lib.hid (keep_block H3.out hb)
        replace H4 := Lib.hid (keep_block H4.out hb)
        replace HE := Lib.hid (HE.out.below hb)
        replace HG := Lib.hid (HG.out.trans (hb.mono HG.out.size))
        replace HR := Lib.hid (HR.out.below hb)
        have HF1 := Lib.hid hf
        clear hf hb
        refine hK.out _ _ ?_
        refine rest_one 3 ⟨some 20, _, _, _, _, _⟩ rfl (by kernel_rfl) rfl (fun K' hK => ?_)
        go_simp
        go_at_call 92
        (with_reducible refine (TP.out _ _ _ HF1.out HE.out).mono ?_)
        rintro e V2 ⟨rfl, hb⟩
        replace H3 := Lib.hid (keep_block H3.out hb)
        replace H4 := Lib.hid (keep_block H4.out hb)
        replace HE := Lib.hid (HE.out.below hb)
        replace HG := Lib.hid (HG.out.trans (hb.mono HG.out.size))
        replace HR := Lib.hid (HR.out.below hb)
        clear hb
        refine hK.out _ _ ?_
        refine rest_one 4 ⟨none, _, _, _, _, _⟩ rfl (by kernel_rfl) rfl (fun K' hK => ?_)
        obtain ⟨⟨r0, r1⟩, rf0, rf1⟩ := two_at H4.out
        obtain ⟨nb, z0, z1⟩ := frac_put (x := .string (numS v)) (y := .string (denS v)) H4.out HG.out (by omega)
        go_simp
        refine hK.out _ _ ?_
        refine rest_end ?_
        go_wp2
        refine bodyPost_ret (v := .agg #[.string (numS v), .string (denS v)]) (by simp [results, Tryz.results100, go_sem, z0, z1]) rfl ⟨rfl, nb⟩
    · skip
      obtain ⟨⟨xl0, xl1⟩, _⟩ := two_at H3.out
      go_simp
      refine hK.out _ _ ?_
      clear xl0 xl1
      refine rest_one 0 ⟨some 17, _, _, _, _, _⟩ rfl (by kernel_rfl) rfl (fun K' hK => ?_)
      go_simp
      refine hK.out _ _ ?_
      refine rest_one 1 ⟨some 18, _, _, _, _, _⟩ rfl (by kernel_rfl) rfl (fun K' hK => ?_)
      go_simp
      go_at_call 93
      (with_reducible refine (TS.out _ HR.out HE.out).mono ?_)
      rintro e V1 ⟨g1, C1, rfl, hf, _, _, hb⟩
      replace H3 := Lib.hid (keep_block H3.out hb)
      replace H4 := Lib.hid (keep_block H4.out hb)
      replace HE := Lib.hid (HE.out.below hb)
      replace HG := Lib.hid (HG.out.trans (hb.mono HG.out.size))
      replace HR := Lib.hid (HR.out.below hb)
      have HF1 := Lib.hid hf
      clear hf hb
      refine hK.out _ _ ?_
      refine rest_one 3 ⟨some 20, _, _, _, _, _⟩ rfl (by kernel_rfl) rfl (fun K' hK => ?_)
      go_simp
      go_at_call 92
      (with_reducible refine (TP.out _ _ _ HF1.out HE.out).mono ?_)
      rintro e V2 ⟨rfl, hb⟩
      replace H3 := Lib.hid (keep_block H3.out hb)
      replace H4 := Lib.hid (keep_block H4.out hb)
      replace HE := Lib.hid (HE.out.below hb)
      replace HG := Lib.hid (HG.out.trans (hb.mono HG.out.size))
      replace HR := Lib.hid (HR.out.below hb)
      clear hb
      refine hK.out _ _ ?_
      refine rest_one 4 ⟨none, _, _, _, _, _⟩ rfl (by kernel_rfl) rfl (fun K' hK => ?_)
      obtain ⟨⟨r0, r1⟩, rf0, rf1⟩ := two_at H4.out
      obtain ⟨nb, z0, z1⟩ := frac_put (x := .string (numS v)) (y := .string (denS v)) H4.out HG.out (by omega)
      go_simp
      refine hK.out _ _ ?_
      refine rest_end ?_
      go_wp2
      refine bodyPost_ret (v := .agg #[.string (numS v), .string (denS v)]) (by simp [results, Tryz.results100, go_sem, z0, z1]) rfl ⟨rfl, nb⟩

set_option linter.unusedSimpArgs false in
set_option linter.unusedVariables false in
set_option maxHeartbeats 4000000 in
set_option maxRecDepth 100000 in
theorem median_any (g C : Nat) (qs : List Rat) (x v : Rat) (W : World) (h0 : 0 < qs.length)
    (h9 : qs.length ≤ 1000)
    (hq : ∀ q ∈ qs, fits q = true)
    (hp : PercF (sortL qs) x v)
    (hh : W.cell? ⟨0, 0, none⟩ = some (.string (numS x)) ∧ W.cell? ⟨0, 1, none⟩ = some (.string (denS x)))
    (hr : FracsAt W g qs) (hE : EnvY W) :
    Calls Tryz.prog 91 #[.slice (some ⟨g, 0, none⟩) qs.length C] W fun e w' => e = .returned (.agg #[.string (numS v), .string (denS v)]) ∧ Below W.heap.size W w' := by
  have HR := Lib.hid hr
  have TS := Lib.hid (fun W hf hE => sorted_any qs g C W h0 h9 hq hf hE)
  have TP := Lib.hid hp
  unfold PercF at TP
  rw [sortL_len] at TP
  obtain ⟨n, hn⟩ : ∃ n, qs.length = n := ⟨_, rfl⟩
  rw [hn] at TS TP h0 h9 ⊢
  have HH := Lib.hid hh
  have HE0 := Lib.hid hE
  have HG := Lib.hid (show Below W.heap.size W (W.alloc (.cells #[.string { data := #[] }, .string { data := #[] }] 24)) from ((Below.refl _ _).alloc (Nat.le_refl _) _))
  have H2 : Hid ((W.alloc (.cells #[.string { data := #[] }, .string { data := #[] }] 24)).heap[W.heap.size]? = some (.cells #[.string { data := #[] }, .string { data := #[] }] 24 (0, 0))) := Lib.hid (by
    have h := heap_alloc_new W (.cells #[.string { data := #[] }, .string { data := #[] }] 24)
    exact h)
  obtain ⟨W0, hW0⟩ : ∃ Z, (W.alloc (.cells #[.string { data := #[] }, .string { data := #[] }] 24)) = Z := ⟨_, rfl⟩
  rw [hW0] at HG H2
  have EW0 := Lib.hid hW0
  have HE := Lib.hid (HE0.out.below HG.out)
  clear hW0 hE  hr hp hq hn hh
  go_enter Tryz.func91, Tryz.ntmps91
  have hb0 : Below W.heap.size W W0 := by rw [← EW0.out]; exact (Below.refl _ _).alloc (Nat.le_refl _) _
  replace HR := Lib.hid (HR.out.below hb0)
  replace HH := Lib.hid (⟨cell_below HH.out.1 hb0, cell_below HH.out.2 hb0⟩ : _ ∧ _)
  clear hb0
  go_upto_region 1 with fail
  rw [EW0.out]
  refine wp_region_rest 0 (fun _ a W => a = _ ∧ W = W0.drew) (by kernel_rfl) (by kernel_rfl) (Nat.zero_le _) (by kernel_rfl) ⟨rfl, rfl⟩ (fun _ _ _ _ i hi => absurd hi (Nat.not_lt_zero _)) ?_
  rintro listed a W ⟨rfl, rfl⟩ _
  have hq : Below W0.heap.size W0 W0.drew := (Below.refl _ _).drew
  replace H2 := Lib.hid (keep_block H2.out hq)
  replace HE := Lib.hid (HE.out.below hq)
  replace HG := Lib.hid (HG.out.trans (hq.mono HG.out.size))
  replace HR := Lib.hid (HR.out.below hq)
  replace HH := Lib.hid (⟨cell_below HH.out.1 hq, cell_below HH.out.2 hq⟩ : _ ∧ _)
  clear hq
  obtain ⟨V0, hV0⟩ : ∃ Z, W0.drew = Z := ⟨_, rfl⟩
  rw [hV0] at HH HR HE HG H2 ⊢
  clear hV0
  show restOps _ _ _ 5 [0, 1, 2, 3, 4] _ _
  refine rest_two 0 2 ⟨some 3, _, _, _, _, _⟩ ⟨some 5, _, _, _, _, _⟩ rfl rfl (by kernel_rfl) rfl rfl (fun K' hK => ?_) (fun K' hK => ?_)
  · skip
    go_simp
    refine hK.out _ _ ?_
    refine rest_two 1 2 ⟨some 4, _, _, _, _, _⟩ ⟨some 5, _, _, _, _, _⟩ rfl rfl (by kernel_rfl) rfl rfl (fun K' hK => ?_) (fun K' hK => ?_)
    · skip
      go_simp
      go_at_call 93
      (with_reducible refine (TS.out _ HR.out HE.out).mono ?_)
      rintro e V1 ⟨g1, C1, rfl, hf, _, _, hb⟩
      replace H2 := Lib.hid (keep_block H2.out hb)
      replace HE := Lib.hid (HE.out.below hb)
      replace HG := Lib.hid (HG.out.trans (hb.mono HG.out.size))
      replace HR := Lib.hid (HR.out.below hb)
      replace HH := Lib.hid (⟨cell_below HH.out.1 hb, cell_below HH.out.2 hb⟩ : _ ∧ _)
      have HF1 := Lib.hid hf
      clear hf hb
      refine hK.out _ _ ?_
      refine rest_one 2 ⟨some 5, _, _, _, _, _⟩ rfl (by kernel_rfl) rfl (fun K' hK => ?_)
      obtain ⟨xl0, xl1⟩ := HH.out
      go_simp
      refine hK.out _ _ ?_
      clear xl0 xl1
      refine rest_one 3 ⟨some 6, _, _, _, _, _⟩ rfl (by kernel_rfl) rfl (fun K' hK => ?_)
      go_simp
      go_at_call 92
      (with_reducible refine (TP.out _ _ _ HF1.out HE.out).mono ?_)
      rintro e V2 ⟨rfl, hb⟩
      replace H2 := Lib.hid (keep_block H2.out hb)
      replace HE := Lib.hid (HE.out.below hb)
      replace HG := Lib.hid (HG.out.trans (hb.mono HG.out.size))
      replace HR := Lib.hid (HR.out.below hb)
      replace HH := Lib.hid (⟨cell_below HH.out.1 hb, cell_below HH.out.2 hb⟩ : _ ∧ _)
      clear hb
      refine hK.out _ _ ?_
      refine rest_one 4 ⟨none, _, _, _, _, _⟩ rfl (by kernel_rfl) rfl (fun K' hK => ?_)
      obtain ⟨⟨r0, r1⟩, rf0, rf1⟩ := two_at H2.out
      obtain ⟨nb, z0, z1⟩ := frac_put (x := .string (numS v)) (y := .string (denS v)) H2.out HG.out (by omega)
      go_simp
      refine hK.out _ _ ?_
      refine rest_end ?_
      go_wp2
      refine bodyPost_ret (v := .agg #[.string (numS v), .string (denS v)]) (by simp [results, Tryz.results91, go_sem, z0, z1]) rfl ⟨rfl, nb⟩
    · skip
      obtain ⟨xl0, xl1⟩ := HH.out
      go_simp
      refine hK.out _ _ ?_
      clear xl0 xl1
      refine rest_one 1 ⟨some 4, _, _, _, _, _⟩ rfl (by kernel_rfl) rfl (fun K' hK => ?_)
      go_simp
      go_at_call 93
      (with_reducible refine (TS.out _ HR.out HE.out).mono ?_)
      rintro e V1 ⟨g1, C1, rfl, hf, _, _, hb⟩
      replace H2 := Lib.hid (keep_block H2.out hb)
      replace HE := Lib.hid (HE.out.below hb)
      replace HG := Lib.hid (HG.out.trans (hb.mono HG.out.size))
      replace HR := Lib.hid (HR.out.below hb)
      replace HH := Lib.hid (⟨cell_below HH.out.1 hb, cell_below HH.out.2 hb⟩ : _ ∧ _)
      have HF1 := Lib.hid hf
      clear hf hb
      refine hK.out _ _ ?_
      refine rest_one 3 ⟨some 6, _, _, _, _, _⟩ rfl (by kernel_rfl) rfl (fun K' hK => ?_)
      go_simp
      go_at_call 92
      (with_reducible refine (TP.out _ _ _ HF1.out HE.out).mono ?_)
      rintro e V2 ⟨rfl, hb⟩
      replace H2 := Lib.hid (keep_block H2.out hb)
      replace HE := Lib.hid (HE.out.below hb)
      replace HG := Lib.hid (HG.out.trans (hb.mono HG.out.size))
      replace HR := Lib.hid (HR.out.below hb)
      replace HH := Lib.hid (⟨cell_below HH.out.1 hb, cell_below HH.out.2 hb⟩ : _ ∧ _)
      clear hb
      refine hK.out _ _ ?_
      refine rest_one 4 ⟨none, _, _, _, _, _⟩ rfl (by kernel_rfl) rfl (fun K' hK => ?_)
      obtain ⟨⟨r0, r1⟩, rf0, rf1⟩ := two_at H2.out
      obtain ⟨nb, z0, z1⟩ := frac_put (x := .string (numS v)) (y := .string (denS v)) H2.out HG.out (by omega)
      go_simp
      refine hK.out _ _ ?_
      refine rest_end ?_
      go_wp2
      refine bodyPost_ret (v := .agg #[.string (numS v), .string (denS v)]) (by simp [results, Tryz.results91, go_sem, z0, z1]) rfl ⟨rfl, nb⟩
  · skip
    obtain ⟨xl0, xl1⟩ := HH.out
    go_simp
    refine hK.out _ _ ?_
    clear xl0 xl1
    refine rest_one 0 ⟨some 3, _, _, _, _, _⟩ rfl (by kernel_rfl) rfl (fun K' hK => ?_)
    go_simp
    refine hK.out _ _ ?_
    refine rest_one 1 ⟨some 4, _, _, _, _, _⟩ rfl (by kernel_rfl) rfl (fun K' hK => ?_)
    go_simp
    go_at_call 93
    (with_reducible refine (TS.out _ HR.out HE.out).mono ?_)
    rintro e V1 ⟨g1, C1, rfl, hf, _, _, hb⟩
    replace H2 := Lib.hid (keep_block H2.out hb)
    replace HE := Lib.hid (HE.out.below hb)
    replace HG := Lib.hid (HG.out.trans (hb.mono HG.out.size))
    replace HR := Lib.hid (HR.out.below hb)
    replace HH := Lib.hid (⟨cell_below HH.out.1 hb, cell_below HH.out.2 hb⟩ : _ ∧ _)
    have HF1 := Lib.hid hf
    clear hf hb
    refine hK.out _ _ ?_
    refine rest_one 3 ⟨some 6, _, _, _, _, _⟩ rfl (by kernel_rfl) rfl (fun K' hK => ?_)
    go_simp
    go_at_call 92
    (with_reducible refine (TP.out _ _ _ HF1.out HE.out).mono ?_)
    rintro e V2 ⟨rfl, hb⟩
    replace H2 := Lib.hid (keep_block H2.out hb)
    replace HE := Lib.hid (HE.out.below hb)
    replace HG := Lib.hid (HG.out.trans (hb.mono HG.out.size))
    replace HR := Lib.hid (HR.out.below hb)
    replace HH := Lib.hid (⟨cell_below HH.out.1 hb, cell_below HH.out.2 hb⟩ : _ ∧ _)
    clear hb
    refine hK.out _ _ ?_
    refine rest_one 4 ⟨none, _, _, _, _, _⟩ rfl (by kernel_rfl) rfl (fun K' hK => ?_)
    obtain ⟨⟨r0, r1⟩, rf0, rf1⟩ := two_at H2.out
    obtain ⟨nb, z0, z1⟩ := frac_put (x := .string (numS v)) (y := .string (denS v)) H2.out HG.out (by omega)
    go_simp
    refine hK.out _ _ ?_
    refine rest_end ?_
    go_wp2
    refine bodyPost_ret (v := .agg #[.string (numS v), .string (denS v)]) (by simp [results, Tryz.results91, go_sem, z0, z1]) rfl ⟨rfl, nb⟩

end Go.Proofs.YtgponoogifeopaaGreatDoor.Num.Ft
