/- Numbers as texts of digits, fractions, values and the functions of fmath: contracts of the program's functions, joined from smaller texts. Conditions stand at each theorem. -/
import Derived.Test.YtkbhlkinlcmgoaaGreatDoorPlmA

/- package fmoney: the terms of a loan, its value in the end, its payment. Conditions: what the small functions give. -/
namespace Go.Proofs.YtkbhlkinlcmgoaaGreatDoor.Num.Fy
open Go.RowKit Go.Lib Num

attribute [local irreducible] wpOp
set_option linter.unusedVariables false in
/-- what the operations of region 3 yield -/
def loan_z0Ks3 (r o g sn : Rat) (n sg : Int) : List RK :=
  [.pure (.agg #[.string (numS r), .string (denS r)]),
   .pure (.agg #[.string { data := #[49] }, .string { data := #[49] }]),
   .pure (.agg #[.string (numS r), .string (denS r)]),
   .pure (.agg #[.string (numS o), .string (denS o)]),
   .pure (.int .i64 n),
   .pure (.agg #[.string (numS g), .string (denS g)]),
   .pure (.int .i64 n),
   .pure (.agg #[.string (numS sn), .string (denS sn)]),
   .pure (.agg #[.string (numS r), .string (denS r), .string (numS g), .string (denS g), .string (numS sn), .string (denS sn)]),
   .box none #[.string { data := #[] }, .string { data := #[] }, .string { data := #[] }, .string { data := #[] }, .string { data := #[] }, .string { data := #[] }] #[.string (numS r), .string (denS r), .string (numS g), .string (denS g), .string (numS sn), .string (denS sn)] 107 10,
   .put 9]
set_option linter.unusedSimpArgs false in
set_option linter.unusedVariables false in
set_option maxHeartbeats 4000000 in
set_option maxRecDepth 100000 in
theorem loan_z0 (r o g sn : Rat) (n sg : Int) (W : World) (hn0 : 0 ≤ n)
    (hn1 : n ≤ 1000)
    (hsg : sg = 0)
    (c0 : Fun2 79 (.agg #[.string { data := #[49] }, .string { data := #[49] }]) (.agg #[.string (numS r), .string (denS r)]) (.agg #[.string (numS o), .string (denS o)]))
    (c1 : Fun2 197 (.agg #[.string (numS o), .string (denS o)]) (.int .i64 n) (.agg #[.string (numS g), .string (denS g)]))
    (c2 : Fun1 7 (.int .i64 n) (.agg #[.string (numS sn), .string (denS sn)]))
    (c3 : Fun1 198 (.agg #[.string (numS r), .string (denS r)]) (.int .i64 sg)) (hE : EnvY W) :
    Calls Tryz.prog 74 #[.agg #[.string (numS r), .string (denS r)], .int .i64 n, .int .i64 0] W fun e w' => e = .returned (.agg #[.string (numS r), .string (denS r), .string (numS g), .string (denS g), .string (numS sn), .string (denS sn)]) ∧ Below W.heap.size W w' := by
  have TW0 := Lib.hid (fun W => y_within (n) (0) (1000) W (by omega) (by omega))
  have TW1 := Lib.hid (fun W => y_within (0) (0) (1) W (by decide) (by decide))
  have Qc0 := Lib.hid c0
  have Qc1 := Lib.hid c1
  have Qc2 := Lib.hid c2
  have Qc3 := Lib.hid c3
  unfold Fun1 at Qc2 Qc3
  unfold Fun2 at Qc0 Qc1
  have hsd : (sg != 0) = false := by rw [hsg]; rfl
  have HE0 := Lib.hid hE
  have HG := Lib.hid (show Below W.heap.size W ((W.alloc (.cells #[.string (numS r), .string (denS r)] 24)).alloc (.cells #[.string { data := #[] }, .string { data := #[] }, .string { data := #[] }, .string { data := #[] }, .string { data := #[] }, .string { data := #[] }] 107)) from (((Below.refl _ _).alloc (Nat.le_refl _) _).alloc (by simp only [World.size_alloc]; omega) _))
  have H3 : Hid (((W.alloc (.cells #[.string (numS r), .string (denS r)] 24)).alloc (.cells #[.string { data := #[] }, .string { data := #[] }, .string { data := #[] }, .string { data := #[] }, .string { data := #[] }, .string { data := #[] }] 107)).heap[W.heap.size]? = some (.cells #[.string (numS r), .string (denS r)] 24 (0, 0))) := Lib.hid (by
    have h := heap_alloc_new W (.cells #[.string (numS r), .string (denS r)] 24)
    exact new_keep (h))
  have H6 : Hid (((W.alloc (.cells #[.string (numS r), .string (denS r)] 24)).alloc (.cells #[.string { data := #[] }, .string { data := #[] }, .string { data := #[] }, .string { data := #[] }, .string { data := #[] }, .string { data := #[] }] 107)).heap[W.heap.size + 1]? = some (.cells #[.string { data := #[] }, .string { data := #[] }, .string { data := #[] }, .string { data := #[] }, .string { data := #[] }, .string { data := #[] }] 107 (0, 0))) := Lib.hid (by
    have h := heap_alloc_new (W.alloc (.cells #[.string (numS r), .string (denS r)] 24)) (.cells #[.string { data := #[] }, .string { data := #[] }, .string { data := #[] }, .string { data := #[] }, .string { data := #[] }, .string { data := #[] }] 107)
    simp only [World.size_alloc] at h
    exact h)
  obtain ⟨W0, hW0⟩ : ∃ Z, ((W.alloc (.cells #[.string (numS r), .string (denS r)] 24)).alloc (.cells #[.string { data := #[] }, .string { data := #[] }, .string { data := #[] }, .string { data := #[] }, .string { data := #[] }, .string { data := #[] }] 107)) = Z := ⟨_, rfl⟩
  rw [hW0] at HG H3 H6
  have EW0 := Lib.hid hW0
  have HE := Lib.hid (HE0.out.below HG.out)
  clear hW0 hE c0 c1 c2 c3 hn0 hn1
  go_enter Tryz.func74, Tryz.ntmps74
  go_wp2_with fail
  rw [EW0.out]
  refine (TW0.out _).mono ?_
  rintro e w1 ⟨rfl, hws⟩
  replace hws := hws.symm
  subst hws
  go_wp2_with fail
  refine (TW1.out _).mono ?_
  rintro e w2 ⟨rfl, hws⟩
  replace hws := hws.symm
  subst hws
  have lt_3 := Lib.hid (heap_lt H3.out)
  have lt_6 := Lib.hid (heap_lt H6.out)
  have geW := Lib.hid HG.out.size
  go_wp2_with fail
  have hok : okB 11 (loan_z0Ks3 r o g sn n sg) = true := by kernel_rfl
  have hna := noAny_of (ks := (loan_z0Ks3 r o g sn n sg)) (by kernel_rfl)
  have hla := lasts_of hna
  refine wp_region_facts (row := none) (w := W0) 11 (loan_z0Ks3 r o g sn n sg) [some 12, some 13, some 14, some 15, some 16, some 17, some 18, some 19, some 20, some 7, none] (by kernel_rfl) (by kernel_rfl) rfl [undef, undef, undef, undef, undef, undef, undef, undef, undef, undef, undef] ?h00 (Fs.start rfl rfl) ?hs ?hd
  case h00 => simp only [putO, layL]
  case hs =>
    rintro listed vs Wr hF i hi hun hpre
    obtain ⟨s0, s1, s2, s3, s4, s5, s6, s7, s8, s9, s10, hvs⟩ := exl_of 11 vs (fun l => vs = l) hF.len rfl
    subst hvs
    have hge := Nat.zero_le i
    simp only [putO, layL]
    rcases Nat.lt_or_ge i 5 with hlt | hgt
    · replace hi := hlt
      clear hlt
      rcases Nat.lt_or_ge i 2 with hlt | hgt
      · replace hi := hlt
        clear hlt
        rcases Nat.lt_or_ge i 1 with hlt | hgt
        · replace hi := hlt
          clear hlt
          obtain rfl := eqi hi hge
          have hcc := (two_at (keep_block H3.out (below_none hF.low))).1
          have cH30 := hcc.1
          have cH31 := hcc.2
          clear hcc
          refine step_of ⟨some 12, _, _, _, _, _⟩ rfl (fun K' hK => ?_)
          go_simp
          refine hK.out _ _ ⟨_, hF.pure hok hla hpre rfl (Below.refl _ _), ?fr⟩
          case fr => simp only [putO, layL]
        · replace hge : 1 ≤ i := hgt
          clear hgt
          obtain rfl := eqi hi hge
          have o0 := ((HE.out.below (below_none hF.low))).one 0 (by decide)
          have o1 := ((HE.out.below (below_none hF.low))).one 1 (by decide)
          refine step_of ⟨some 13, _, _, _, _, _⟩ rfl (fun K' hK => ?_)
          go_simp
          refine hK.out _ _ ⟨_, hF.pure hok hla hpre rfl (Below.refl _ _), ?fr⟩
          case fr => simp only [putO, layL]
      · replace hge : 2 ≤ i := hgt
        clear hgt
        rcases Nat.lt_or_ge i 3 with hlt | hgt
        · replace hi := hlt
          clear hlt
          obtain rfl := eqi hi hge
          have hcc := (two_at (keep_block H3.out (below_none hF.low))).1
          have cH30 := hcc.1
          have cH31 := hcc.2
          clear hcc
          refine step_of ⟨some 14, _, _, _, _, _⟩ rfl (fun K' hK => ?_)
          go_simp
          refine hK.out _ _ ⟨_, hF.pure hok hla hpre rfl (Below.refl _ _), ?fr⟩
          case fr => simp only [putO, layL]
        · replace hge : 3 ≤ i := hgt
          clear hgt
          rcases Nat.lt_or_ge i 4 with hlt | hgt
          · replace hi := hlt
            clear hlt
            obtain rfl := eqi hi hge
            have p1 := hpre 1 (by kernel_rfl)
            have e1 : s1 = .agg #[.string { data := #[49] }, .string { data := #[49] }] := hF.get 1 _ rfl (.inr p1)
            subst e1
            have p2 := hpre 2 (by kernel_rfl)
            have e2 : s2 = .agg #[.string (numS r), .string (denS r)] := hF.get 2 _ rfl (.inr p2)
            subst e2
            refine step_of ⟨some 15, _, _, _, _, _⟩ rfl (fun K' hK => ?_)
            go_simp
            go_at_call 79
            (with_reducible refine (Qc0.out _ (HE.out.below (below_none hF.low))).mono ?_)
            rintro e Wq ⟨rfl, hq⟩
            refine hK.out _ _ ⟨_, hF.pure hok hla hpre rfl hq, ?fr⟩
            case fr => simp only [putO, layL]
          · replace hge : 4 ≤ i := hgt
            clear hgt
            obtain rfl := eqi hi hge
            refine step_of ⟨some 16, _, _, _, _, _⟩ rfl (fun K' hK => ?_)
            go_simp
            refine hK.out _ _ ⟨_, hF.pure hok hla hpre rfl (Below.refl _ _), ?fr⟩
            case fr => simp only [putO, layL]
    · replace hge : 5 ≤ i := hgt
      clear hgt
      rcases Nat.lt_or_ge i 8 with hlt | hgt
      · replace hi := hlt
        clear hlt
        rcases Nat.lt_or_ge i 6 with hlt | hgt
        · replace hi := hlt
          clear hlt
          obtain rfl := eqi hi hge
          have p3 := hpre 3 (by kernel_rfl)
          have e3 : s3 = .agg #[.string (numS o), .string (denS o)] := hF.get 3 _ rfl (.inr p3)
          subst e3
          have p4 := hpre 4 (by kernel_rfl)
          have e4 : s4 = .int .i64 n := hF.get 4 _ rfl (.inr p4)
          subst e4
          refine step_of ⟨some 17, _, _, _, _, _⟩ rfl (fun K' hK => ?_)
          go_simp
          go_at_call 197
          (with_reducible refine (Qc1.out _ (HE.out.below (below_none hF.low))).mono ?_)
          rintro e Wq ⟨rfl, hq⟩
          refine hK.out _ _ ⟨_, hF.pure hok hla hpre rfl hq, ?fr⟩
          case fr => simp only [putO, layL]
        · replace hge : 6 ≤ i := hgt
          clear hgt
          rcases Nat.lt_or_ge i 7 with hlt | hgt
          · replace hi := hlt
            clear hlt
            obtain rfl := eqi hi hge
            refine step_of ⟨some 18, _, _, _, _, _⟩ rfl (fun K' hK => ?_)
            go_simp
            refine hK.out _ _ ⟨_, hF.pure hok hla hpre rfl (Below.refl _ _), ?fr⟩
            case fr => simp only [putO, layL]
          · replace hge : 7 ≤ i := hgt
            clear hgt
            obtain rfl := eqi hi hge
            have p6 := hpre 6 (by kernel_rfl)
            have e6 : s6 = .int .i64 n := hF.get 6 _ rfl (.inr p6)
            subst e6
            refine step_of ⟨some 19, _, _, _, _, _⟩ rfl (fun K' hK => ?_)
            go_simp
            go_at_call 7
            (with_reducible refine (Qc2.out _ (HE.out.below (below_none hF.low))).mono ?_)
            rintro e Wq ⟨rfl, hq⟩
            refine hK.out _ _ ⟨_, hF.pure hok hla hpre rfl hq, ?fr⟩
            case fr => simp only [putO, layL]
      · replace hge : 8 ≤ i := hgt
        clear hgt
        rcases Nat.lt_or_ge i 9 with hlt | hgt
        · replace hi := hlt
          clear hlt
          obtain rfl := eqi hi hge
          have p0 := hpre 0 (by kernel_rfl)
          have e0 : s0 = .agg #[.string (numS r), .string (denS r)] := hF.get 0 _ rfl (.inr p0)
          subst e0
          have p5 := hpre 5 (by kernel_rfl)
          have e5 : s5 = .agg #[.string (numS g), .string (denS g)] := hF.get 5 _ rfl (.inr p5)
          subst e5
          have p7 := hpre 7 (by kernel_rfl)
          have e7 : s7 = .agg #[.string (numS sn), .string (denS sn)] := hF.get 7 _ rfl (.inr p7)
          subst e7
          refine step_of ⟨some 20, _, _, _, _, _⟩ rfl (fun K' hK => ?_)
          go_simp
          refine hK.out _ _ ⟨_, hF.pure hok hla hpre rfl (Below.refl _ _), ?fr⟩
          case fr => simp only [putO, layL]
        · replace hge : 9 ≤ i := hgt
          clear hgt
          rcases Nat.lt_or_ge i 10 with hlt | hgt
          · replace hi := hlt
            clear hlt
            obtain rfl := eqi hi hge
            refine step_of ⟨some 7, _, _, _, _, _⟩ rfl (fun K' hK => ?_)
            go_simp
            refine hK.out _ _ ⟨_, hF.box hok hla hpre hun rfl, ?fr⟩
            case fr => simp only [putO, layL]
          · replace hge : 10 ≤ i := hgt
            clear hgt
            obtain rfl := eqi hi hge
            have p9 := hpre 9 (by kernel_rfl)
            obtain ⟨G, eG, _, hGl, hGB⟩ : ∃ G, s9 = .pointer (some ⟨G, 0, none⟩) ∧ (∀ k, none = some k → G = k) ∧ W0.heap.size ≤ G ∧ Wr.heap[G]? = some (.cells (if listed.getD 10 false = true then #[.string (numS r), .string (denS r), .string (numS g), .string (denS g), .string (numS sn), .string (denS sn)] else #[.string { data := #[] }, .string { data := #[] }, .string { data := #[] }, .string { data := #[] }, .string { data := #[] }, .string { data := #[] }]) 107 (0, 0)) := hF.get 9 _ rfl (.inr p9)
            subst eG
            rw [if_neg (bit_off hun)] at hGB
            have HGB := Lib.hid hGB
            clear hGB
            have p8 := hpre 8 (by kernel_rfl)
            have e8 : s8 = .agg #[.string (numS r), .string (denS r), .string (numS g), .string (denS g), .string (numS sn), .string (denS sn)] := hF.get 8 _ rfl (.inr p8)
            subst e8
            obtain ⟨⟨y0, y1, y2, y3, y4, y5⟩, g0, g1, g2, g3, g4, g5⟩ := six_at HGB.out
            refine step_of ⟨none, _, _, _, _, _⟩ rfl (fun K' hK => ?_)
            go_simp
            refine hK.out _ _ ⟨undef, hF.put hok hna hpre hun rfl undef rfl (.inr p9) rfl (set6_at HGB.out (.string (numS r)) (.string (denS r)) (.string (numS g)) (.string (denS g)) (.string (numS sn)) (.string (denS sn))) (fun k hk => set6_other _ _ (.string (numS r)) (.string (denS r)) (.string (numS g)) (.string (denS g)) (.string (numS sn)) (.string (denS sn)) hk) (put6_below hGl _ (.string (numS r)) (.string (denS r)) (.string (numS g)) (.string (denS g)) (.string (numS sn)) (.string (denS sn))), ?fr⟩
            case fr => simp only [putO, layL]
  case hd =>
    rintro listed vs WA hF hall
    obtain ⟨s0, s1, s2, s3, s4, s5, s6, s7, s8, s9, s10, hvs⟩ := exl_of 11 vs (fun l => vs = l) hF.len rfl
    subst hvs
    obtain ⟨b7, e9, _, gq, k9⟩ : ∃ G, s9 = .pointer (some ⟨G, 0, none⟩) ∧ (∀ k, none = some k → G = k) ∧ _ ≤ G ∧ WA.heap[G]? = some (.cells (if listed.getD 10 false = true then #[.string (numS r), .string (denS r), .string (numS g), .string (denS g), .string (numS sn), .string (denS sn)] else #[.string { data := #[] }, .string { data := #[] }, .string { data := #[] }, .string { data := #[] }, .string { data := #[] }, .string { data := #[] }]) 107 (0, 0)) := hF.get 9 _ rfl (.inr (hall 9 (by decide)))
    subst e9
    rw [if_pos (hall 10 (by decide))] at k9
    have H7 := Lib.hid k9
    clear k9
    have ge7 := Lib.hid gq
    clear gq
    have hq := below_none hF.low
    replace H3 := Lib.hid (keep_block H3.out hq)
    replace H6 := Lib.hid (keep_block H6.out hq)
    replace HE := Lib.hid (HE.out.below hq)
    replace HG := Lib.hid (HG.out.trans (hq.mono HG.out.size))
    clear hq
    clear hF hall hok hna hla
    simp only [putO, layL]
    have L7_3 : Hid (W.heap.size < b7) := Lib.hid (by have := lt_3.out; have := ge7.out; omega)
    have L7_6 : Hid (W.heap.size + 1 < b7) := Lib.hid (by have := lt_6.out; have := ge7.out; omega)
    have G7 : Hid (W.heap.size ≤ b7) := Lib.hid (by have := geW.out; have := ge7.out; omega)
    clear geW lt_3 lt_6
    obtain ⟨⟨x3_0, x3_1⟩, x3_f0, x3_f1⟩ := two_at H3.out
    go_wp2_with fail
    refine (Qc3.out _ HE.out).mono ?_
    clear x3_0 x3_1 x3_f0 x3_f1
    rintro e w3 ⟨rfl, hb⟩
    replace H3 := Lib.hid (keep_block H3.out hb)
    replace H6 := Lib.hid (keep_block H6.out hb)
    replace H7 := Lib.hid (keep_block H7.out hb)
    replace HE := Lib.hid (HE.out.below hb)
    replace HG := Lib.hid (HG.out.trans (hb.mono HG.out.size))
    clear hb
    obtain ⟨⟨x7_0, x7_1, x7_2, x7_3, x7_4, x7_5⟩, x7_f0, x7_f1, x7_f2, x7_f3, x7_f4, x7_f5⟩ := six_at H7.out
    obtain ⟨⟨x6_0, x6_1, x6_2, x6_3, x6_4, x6_5⟩, x6_f0, x6_f1, x6_f2, x6_f3, x6_f4, x6_f5⟩ := six_at H6.out
    have n6 := set6_at H6.out (.string (numS r)) (.string (denS r)) (.string (numS g)) (.string (denS g)) (.string (numS sn)) (.string (denS sn))
    have hgl : Below W.heap.size W ((((((w3.setCell ⟨W.heap.size + 1, 0, none⟩ (.string (numS r))).setCell ⟨W.heap.size + 1, 1, none⟩ (.string (denS r))).setCell ⟨W.heap.size + 1, 2, none⟩ (.string (numS g))).setCell ⟨W.heap.size + 1, 3, none⟩ (.string (denS g))).setCell ⟨W.heap.size + 1, 4, none⟩ (.string (numS sn))).setCell ⟨W.heap.size + 1, 5, none⟩ (.string (denS sn))) := HG.out.trans (put6_below (show W.heap.size ≤ W.heap.size + 1 from (by omega)) w3 (.string (numS r)) (.string (denS r)) (.string (numS g)) (.string (denS g)) (.string (numS sn)) (.string (denS sn)))
    clear HG
    have HG := Lib.hid hgl
    clear hgl
    obtain ⟨⟨r6_0, r6_1, r6_2, r6_3, r6_4, r6_5⟩, _⟩ := six_at n6
    go_wp2
    refine bodyPost_ret (v := .agg #[.string (numS r), .string (denS r), .string (numS g), .string (denS g), .string (numS sn), .string (denS sn)]) (by simp [results, Tryz.results74, go_sem, r6_0, r6_1, r6_2, r6_3, r6_4, r6_5]) rfl ⟨rfl, HG.out⟩

set_option linter.unusedVariables false in
/-- what the operations of region 3 yield -/
def loan_r0Ks3 (r o g sn g1 sq : Rat) (n sg : Int) : List RK :=
  [.pure (.agg #[.string (numS r), .string (denS r)]),
   .pure (.agg #[.string { data := #[49] }, .string { data := #[49] }]),
   .pure (.agg #[.string (numS r), .string (denS r)]),
   .pure (.agg #[.string (numS o), .string (denS o)]),
   .pure (.int .i64 n),
   .pure (.agg #[.string (numS g), .string (denS g)]),
   .pure (.int .i64 n),
   .pure (.agg #[.string (numS sn), .string (denS sn)]),
   .pure (.agg #[.string (numS r), .string (denS r), .string (numS g), .string (denS g), .string (numS sn), .string (denS sn)]),
   .box none #[.string { data := #[] }, .string { data := #[] }, .string { data := #[] }, .string { data := #[] }, .string { data := #[] }, .string { data := #[] }] #[.string (numS r), .string (denS r), .string (numS g), .string (denS g), .string (numS sn), .string (denS sn)] 107 10,
   .put 9]
set_option linter.unusedVariables false in
/-- what the operations of region 5 yield -/
def loan_r0Ks5 (r o g sn g1 sq : Rat) (n sg : Int) (W : World) (b7 : Nat) : List RK :=
  [.pure (.pointer (some ⟨b7, 2, none⟩)),
   .pure (.agg #[.string (numS g), .string (denS g)]),
   .pure (.agg #[.string { data := #[49] }, .string { data := #[49] }]),
   .pure (.agg #[.string (numS g1), .string (denS g1)]),
   .pure (.agg #[.string (numS r), .string (denS r)]),
   .pure (.agg #[.string (numS sq), .string (denS sq)]),
   .pure (.pointer (some ⟨b7, 4, none⟩)),
   .put 10,
   .box (some (W.heap.size)) #[.string (numS r), .string (denS r)] #[.string (numS r), .string (denS r)] 24 11,
   .box (some (W.heap.size + 1)) #[.string { data := #[] }, .string { data := #[] }, .string { data := #[] }, .string { data := #[] }, .string { data := #[] }, .string { data := #[] }] #[.string { data := #[] }, .string { data := #[] }, .string { data := #[] }, .string { data := #[] }, .string { data := #[] }, .string { data := #[] }] 107 11,
   .box (some (b7)) #[.string (numS r), .string (denS r), .string (numS g), .string (denS g), .string (numS sn), .string (denS sn)] #[.string (numS r), .string (denS r), .string (numS g), .string (denS g), .string (numS sq), .string (denS sq)] 107 7]
set_option linter.unusedSimpArgs false in
set_option linter.unusedVariables false in
set_option maxHeartbeats 4000000 in
set_option maxRecDepth 100000 in
theorem loan_r0 (r o g sn g1 sq : Rat) (n sg : Int) (W : World) (hn0 : 0 ≤ n)
    (hn1 : n ≤ 1000)
    (hsg : sg ≠ 0)
    (c0 : Fun2 79 (.agg #[.string { data := #[49] }, .string { data := #[49] }]) (.agg #[.string (numS r), .string (denS r)]) (.agg #[.string (numS o), .string (denS o)]))
    (c1 : Fun2 197 (.agg #[.string (numS o), .string (denS o)]) (.int .i64 n) (.agg #[.string (numS g), .string (denS g)]))
    (c2 : Fun1 7 (.int .i64 n) (.agg #[.string (numS sn), .string (denS sn)]))
    (c3 : Fun1 198 (.agg #[.string (numS r), .string (denS r)]) (.int .i64 sg))
    (c4 : Fun2 94 (.agg #[.string (numS g), .string (denS g)]) (.agg #[.string { data := #[49] }, .string { data := #[49] }]) (.agg #[.string (numS g1), .string (denS g1)]))
    (c5 : Fun2 78 (.agg #[.string (numS g1), .string (denS g1)]) (.agg #[.string (numS r), .string (denS r)]) (.agg #[.string (numS sq), .string (denS sq)])) (hE : EnvY W) :
    Calls Tryz.prog 74 #[.agg #[.string (numS r), .string (denS r)], .int .i64 n, .int .i64 0] W fun e w' => e = .returned (.agg #[.string (numS r), .string (denS r), .string (numS g), .string (denS g), .string (numS sq), .string (denS sq)]) ∧ Below W.heap.size W w' := by
  have TW0 := Lib.hid (fun W => y_within (n) (0) (1000) W (by omega) (by omega))
  have TW1 := Lib.hid (fun W => y_within (0) (0) (1) W (by decide) (by decide))
  have Qc0 := Lib.hid c0
  have Qc1 := Lib.hid c1
  have Qc2 := Lib.hid c2
  have Qc3 := Lib.hid c3
  have Qc4 := Lib.hid c4
  have Qc5 := Lib.hid c5
  unfold Fun1 at Qc2 Qc3
  unfold Fun2 at Qc0 Qc1 Qc4 Qc5
  have hsd : (sg != 0) = true := by simpa using hsg
  have HE0 := Lib.hid hE
  have HG := Lib.hid (show Below W.heap.size W ((W.alloc (.cells #[.string (numS r), .string (denS r)] 24)).alloc (.cells #[.string { data := #[] }, .string { data := #[] }, .string { data := #[] }, .string { data := #[] }, .string { data := #[] }, .string { data := #[] }] 107)) from (((Below.refl _ _).alloc (Nat.le_refl _) _).alloc (by simp only [World.size_alloc]; omega) _))
  have H3 : Hid (((W.alloc (.cells #[.string (numS r), .string (denS r)] 24)).alloc (.cells #[.string { data := #[] }, .string { data := #[] }, .string { data := #[] }, .string { data := #[] }, .string { data := #[] }, .string { data := #[] }] 107)).heap[W.heap.size]? = some (.cells #[.string (numS r), .string (denS r)] 24 (0, 0))) := Lib.hid (by
    have h := heap_alloc_new W (.cells #[.string (numS r), .string (denS r)] 24)
    exact new_keep (h))
  have H6 : Hid (((W.alloc (.cells #[.string (numS r), .string (denS r)] 24)).alloc (.cells #[.string { data := #[] }, .string { data := #[] }, .string { data := #[] }, .string { data := #[] }, .string { data := #[] }, .string { data := #[] }] 107)).heap[W.heap.size + 1]? = some (.cells #[.string { data := #[] }, .string { data := #[] }, .string { data := #[] }, .string { data := #[] }, .string { data := #[] }, .string { data := #[] }] 107 (0, 0))) := Lib.hid (by
    have h := heap_alloc_new (W.alloc (.cells #[.string (numS r), .string (denS r)] 24)) (.cells #[.string { data := #[] }, .string { data := #[] }, .string { data := #[] }, .string { data := #[] }, .string { data := #[] }, .string { data := #[] }] 107)
    simp only [World.size_alloc] at h
    exact h)
  obtain ⟨W0, hW0⟩ : ∃ Z, ((W.alloc (.cells #[.string (numS r), .string (denS r)] 24)).alloc (.cells #[.string { data := #[] }, .string { data := #[] }, .string { data := #[] }, .string { data := #[] }, .string { data := #[] }, .string { data := #[] }] 107)) = Z := ⟨_, rfl⟩
  rw [hW0] at HG H3 H6
  have EW0 := Lib.hid hW0
  have HE := Lib.hid (HE0.out.below HG.out)
  clear hW0 hE c0 c1 c2 c3 c4 c5 hn0 hn1 hsg
  go_enter Tryz.func74, Tryz.ntmps74
  go_wp2_with fail
  rw [EW0.out]
  refine (TW0.out _).mono ?_
  rintro e w1 ⟨rfl, hws⟩
  replace hws := hws.symm
  subst hws
  go_wp2_with fail
  refine (TW1.out _).mono ?_
  rintro e w2 ⟨rfl, hws⟩
  replace hws := hws.symm
  subst hws
  have lt_3 := Lib.hid (heap_lt H3.out)
  have lt_6 := Lib.hid (heap_lt H6.out)
  have geW := Lib.hid HG.out.size
  go_wp2_with fail
  have hok : okB 11 (loan_r0Ks3 r o g sn g1 sq n sg) = true := by kernel_rfl
  have hna := noAny_of (ks := (loan_r0Ks3 r o g sn g1 sq n sg)) (by kernel_rfl)
  have hla := lasts_of hna
  refine wp_region_facts (row := none) (w := W0) 11 (loan_r0Ks3 r o g sn g1 sq n sg) [some 12, some 13, some 14, some 15, some 16, some 17, some 18, some 19, some 20, some 7, none] (by kernel_rfl) (by kernel_rfl) rfl [undef, undef, undef, undef, undef, undef, undef, undef, undef, undef, undef] ?h00 (Fs.start rfl rfl) ?hs ?hd
  case h00 => simp only [putO, layL]
  case hs =>
    rintro listed vs Wr hF i hi hun hpre
    obtain ⟨s0, s1, s2, s3, s4, s5, s6, s7, s8, s9, s10, hvs⟩ := exl_of 11 vs (fun l => vs = l) hF.len rfl
    subst hvs
    have hge := Nat.zero_le i
    simp only [putO, layL]
    rcases Nat.lt_or_ge i 5 with hlt | hgt
    · replace hi := hlt
      clear hlt
      rcases Nat.lt_or_ge i 2 with hlt | hgt
      · replace hi := hlt
        clear hlt
        rcases Nat.lt_or_ge i 1 with hlt | hgt
        · replace hi := hlt
          clear hlt
          obtain rfl := eqi hi hge
          have hcc := (two_at (keep_block H3.out (below_none hF.low))).1
          have cH30 := hcc.1
          have cH31 := hcc.2
          clear hcc
          refine step_of ⟨some 12, _, _, _, _, _⟩ rfl (fun K' hK => ?_)
          go_simp
          refine hK.out _ _ ⟨_, hF.pure hok hla hpre rfl (Below.refl _ _), ?fr⟩
          case fr => simp only [putO, layL]
        · replace hge : 1 ≤ i := hgt
          clear hgt
          obtain rfl := eqi hi hge
          have o0 := ((HE.out.below (below_none hF.low))).one 0 (by decide)
          have o1 := ((HE.out.below (below_none hF.low))).one 1 (by decide)
          refine step_of ⟨some 13, _, _, _, _, _⟩ rfl (fun K' hK => ?_)
          go_simp
          refine hK.out _ _ ⟨_, hF.pure hok hla hpre rfl (Below.refl _ _), ?fr⟩
          case fr => simp only [putO, layL]
      · replace hge : 2 ≤ i := hgt
        clear hgt
        rcases Nat.lt_or_ge i 3 with hlt | hgt
        · replace hi := hlt
          clear hlt
          obtain rfl := eqi hi hge
          have hcc := (two_at (keep_block H3.out (below_none hF.low))).1
          have cH30 := hcc.1
          have cH31 := hcc.2
          clear hcc
          refine step_of ⟨some 14, _, _, _, _, _⟩ rfl (fun K' hK => ?_)
          go_simp
          refine hK.out _ _ ⟨_, hF.pure hok hla hpre rfl (Below.refl _ _), ?fr⟩
          case fr => simp only [putO, layL]
        · replace hge : 3 ≤ i := hgt
          clear hgt
          rcases Nat.lt_or_ge i 4 with hlt | hgt
          · replace hi := hlt
            clear hlt
            obtain rfl := eqi hi hge
            have p1 := hpre 1 (by kernel_rfl)
            have e1 : s1 = .agg #[.string { data := #[49] }, .string { data := #[49] }] := hF.get 1 _ rfl (.inr p1)
            subst e1
            have p2 := hpre 2 (by kernel_rfl)
            have e2 : s2 = .agg #[.string (numS r), .string (denS r)] := hF.get 2 _ rfl (.inr p2)
            subst e2
            refine step_of ⟨some 15, _, _, _, _, _⟩ rfl (fun K' hK => ?_)
            go_simp
            go_at_call 79
            (with_reducible refine (Qc0.out _ (HE.out.below (below_none hF.low))).mono ?_)
            rintro e Wq ⟨rfl, hq⟩
            refine hK.out _ _ ⟨_, hF.pure hok hla hpre rfl hq, ?fr⟩
            case fr => simp only [putO, layL]
          · replace hge : 4 ≤ i := hgt
            clear hgt
            obtain rfl := eqi hi hge
            refine step_of ⟨some 16, _, _, _, _, _⟩ rfl (fun K' hK => ?_)
            go_simp
            refine hK.out _ _ ⟨_, hF.pure hok hla hpre rfl (Below.refl _ _), ?fr⟩
            case fr => simp only [putO, layL]
    · replace hge : 5 ≤ i := hgt
      clear hgt
      rcases Nat.lt_or_ge i 8 with hlt | hgt
      · replace hi := hlt
        clear hlt
        rcases Nat.lt_or_ge i 6 with hlt | hgt
        · replace hi := hlt
          clear hlt
          obtain rfl := eqi hi hge
          have p3 := hpre 3 (by kernel_rfl)
          have e3 : s3 = .agg #[.string (numS o), .string (denS o)] := hF.get 3 _ rfl (.inr p3)
          subst e3
          have p4 := hpre 4 (by kernel_rfl)
          have e4 : s4 = .int .i64 n := hF.get 4 _ rfl (.inr p4)
          subst e4
          refine step_of ⟨some 17, _, _, _, _, _⟩ rfl (fun K' hK => ?_)
          go_simp
          go_at_call 197
          (with_reducible refine (Qc1.out _ (HE.out.below (below_none hF.low))).mono ?_)
          rintro e Wq ⟨rfl, hq⟩
          refine hK.out _ _ ⟨_, hF.pure hok hla hpre rfl hq, ?fr⟩
          case fr => simp only [putO, layL]
        · replace hge : 6 ≤ i := hgt
          clear hgt
          rcases Nat.lt_or_ge i 7 with hlt | hgt
          · replace hi := hlt
            clear hlt
            obtain rfl := eqi hi hge
            refine step_of ⟨some 18, _, _, _, _, _⟩ rfl (fun K' hK => ?_)
            go_simp
            refine hK.out _ _ ⟨_, hF.pure hok hla hpre rfl (Below.refl _ _), ?fr⟩
            case fr => simp only [putO, layL]
          · replace hge : 7 ≤ i := hgt
            clear hgt
            obtain rfl := eqi hi hge
            have p6 := hpre 6 (by kernel_rfl)
            have e6 : s6 = .int .i64 n := hF.get 6 _ rfl (.inr p6)
            subst e6
            refine step_of ⟨some 19, _, _, _, _, _⟩ rfl (fun K' hK => ?_)
            go_simp
            go_at_call 7
            (with_reducible refine (Qc2.out _ (HE.out.below (below_none hF.low))).mono ?_)
            rintro e Wq ⟨rfl, hq⟩
            refine hK.out _ _ ⟨_, hF.pure hok hla hpre rfl hq, ?fr⟩
            case fr => simp only [putO, layL]
      · replace hge : 8 ≤ i := hgt
        clear hgt
        rcases Nat.lt_or_ge i 9 with hlt | hgt
        · replace hi := hlt
          clear hlt
          obtain rfl := eqi hi hge
          have p0 := hpre 0 (by kernel_rfl)
          have e0 : s0 = .agg #[.string (numS r), .string (denS r)] := hF.get 0 _ rfl (.inr p0)
          subst e0
          have p5 := hpre 5 (by kernel_rfl)
          have e5 : s5 = .agg #[.string (numS g), .string (denS g)] := hF.get 5 _ rfl (.inr p5)
          subst e5
          have p7 := hpre 7 (by kernel_rfl)
          have e7 : s7 = .agg #[.string (numS sn), .string (denS sn)] := hF.get 7 _ rfl (.inr p7)
          subst e7
          refine step_of ⟨some 20, _, _, _, _, _⟩ rfl (fun K' hK => ?_)
          go_simp
          refine hK.out _ _ ⟨_, hF.pure hok hla hpre rfl (Below.refl _ _), ?fr⟩
          case fr => simp only [putO, layL]
        · replace hge : 9 ≤ i := hgt
          clear hgt
          rcases Nat.lt_or_ge i 10 with hlt | hgt
          · replace hi := hlt
            clear hlt
            obtain rfl := eqi hi hge
            refine step_of ⟨some 7, _, _, _, _, _⟩ rfl (fun K' hK => ?_)
            go_simp
            refine hK.out _ _ ⟨_, hF.box hok hla hpre hun rfl, ?fr⟩
            case fr => simp only [putO, layL]
          · replace hge : 10 ≤ i := hgt
            clear hgt
            obtain rfl := eqi hi hge
            have p9 := hpre 9 (by kernel_rfl)
            obtain ⟨G, eG, _, hGl, hGB⟩ : ∃ G, s9 = .pointer (some ⟨G, 0, none⟩) ∧ (∀ k, none = some k → G = k) ∧ W0.heap.size ≤ G ∧ Wr.heap[G]? = some (.cells (if listed.getD 10 false = true then #[.string (numS r), .string (denS r), .string (numS g), .string (denS g), .string (numS sn), .string (denS sn)] else #[.string { data := #[] }, .string { data := #[] }, .string { data := #[] }, .string { data := #[] }, .string { data := #[] }, .string { data := #[] }]) 107 (0, 0)) := hF.get 9 _ rfl (.inr p9)
            subst eG
            rw [if_neg (bit_off hun)] at hGB
            have HGB := Lib.hid hGB
            clear hGB
            have p8 := hpre 8 (by kernel_rfl)
            have e8 : s8 = .agg #[.string (numS r), .string (denS r), .string (numS g), .string (denS g), .string (numS sn), .string (denS sn)] := hF.get 8 _ rfl (.inr p8)
            subst e8
            obtain ⟨⟨y0, y1, y2, y3, y4, y5⟩, g0, g1, g2, g3, g4, g5⟩ := six_at HGB.out
            refine step_of ⟨none, _, _, _, _, _⟩ rfl (fun K' hK => ?_)
            go_simp
            refine hK.out _ _ ⟨undef, hF.put hok hna hpre hun rfl undef rfl (.inr p9) rfl (set6_at HGB.out (.string (numS r)) (.string (denS r)) (.string (numS g)) (.string (denS g)) (.string (numS sn)) (.string (denS sn))) (fun k hk => set6_other _ _ (.string (numS r)) (.string (denS r)) (.string (numS g)) (.string (denS g)) (.string (numS sn)) (.string (denS sn)) hk) (put6_below hGl _ (.string (numS r)) (.string (denS r)) (.string (numS g)) (.string (denS g)) (.string (numS sn)) (.string (denS sn))), ?fr⟩
            case fr => simp only [putO, layL]
  case hd =>
    rintro listed vs WA hF hall
    obtain ⟨s0, s1, s2, s3, s4, s5, s6, s7, s8, s9, s10, hvs⟩ := exl_of 11 vs (fun l => vs = l) hF.len rfl
    subst hvs
    obtain ⟨b7, e9, _, gq, k9⟩ : ∃ G, s9 = .pointer (some ⟨G, 0, none⟩) ∧ (∀ k, none = some k → G = k) ∧ _ ≤ G ∧ WA.heap[G]? = some (.cells (if listed.getD 10 false = true then #[.string (numS r), .string (denS r), .string (numS g), .string (denS g), .string (numS sn), .string (denS sn)] else #[.string { data := #[] }, .string { data := #[] }, .string { data := #[] }, .string { data := #[] }, .string { data := #[] }, .string { data := #[] }]) 107 (0, 0)) := hF.get 9 _ rfl (.inr (hall 9 (by decide)))
    subst e9
    rw [if_pos (hall 10 (by decide))] at k9
    have H7 := Lib.hid k9
    clear k9
    have ge7 := Lib.hid gq
    clear gq
    have hq := below_none hF.low
    replace H3 := Lib.hid (keep_block H3.out hq)
    replace H6 := Lib.hid (keep_block H6.out hq)
    replace HE := Lib.hid (HE.out.below hq)
    replace HG := Lib.hid (HG.out.trans (hq.mono HG.out.size))
    clear hq
    clear hF hall hok hna hla
    simp only [putO, layL]
    have L7_3 : Hid (W.heap.size < b7) := Lib.hid (by have := lt_3.out; have := ge7.out; omega)
    have L7_6 : Hid (W.heap.size + 1 < b7) := Lib.hid (by have := lt_6.out; have := ge7.out; omega)
    have G7 : Hid (W.heap.size ≤ b7) := Lib.hid (by have := geW.out; have := ge7.out; omega)
    clear geW lt_3 lt_6
    obtain ⟨⟨x3_0, x3_1⟩, x3_f0, x3_f1⟩ := two_at H3.out
    go_wp2_with fail
    refine (Qc3.out _ HE.out).mono ?_
    clear x3_0 x3_1 x3_f0 x3_f1
    rintro e w3 ⟨rfl, hb⟩
    replace H3 := Lib.hid (keep_block H3.out hb)
    replace H6 := Lib.hid (keep_block H6.out hb)
    replace H7 := Lib.hid (keep_block H7.out hb)
    replace HE := Lib.hid (HE.out.below hb)
    replace HG := Lib.hid (HG.out.trans (hb.mono HG.out.size))
    clear hb
    go_wp2_with fail
    have := L7_3.out
    have := L7_6.out
    have := HG.out.size
    have := G7.out
    have hok : okB 8 (loan_r0Ks5 r o g sn g1 sq n sg W b7) = true := by kernel_rfl
    have hna := noAny_of (ks := (loan_r0Ks5 r o g sn g1 sq n sg W b7)) (by kernel_rfl)
    have hla := lasts_of hna
    refine wp_region_facts (row := none) (w := W) 8 (loan_r0Ks5 r o g sn g1 sq n sg W b7) [some 24, some 25, some 26, some 27, some 28, some 29, some 30, none] (by kernel_rfl) (by kernel_rfl) rfl [undef, undef, undef, undef, undef, undef, undef, undef, .pointer (some ⟨W.heap.size, 0, none⟩), .pointer (some ⟨W.heap.size + 1, 0, none⟩), .pointer (some ⟨b7, 0, none⟩)] ?h00 (Fs.start_olds hla rfl (only_of_below HG.out none) ⟨⟨_, rfl, fun _ h => Option.some.inj h, by omega, H3.out⟩, fun _ => ⟨fun _ => far_of (by omega), fun _ => far_of (by omega), trivial⟩, ⟨⟨_, rfl, fun _ h => Option.some.inj h, by omega, H6.out⟩, fun _ => ⟨fun _ => far_of (by omega), trivial⟩, ⟨⟨_, rfl, fun _ h => Option.some.inj h, by omega, H7.out⟩, fun _ => trivial, trivial⟩⟩⟩) ?hs ?hd
    case h00 => simp only [putO, layL]
    case hs =>
      rintro listed vs Wr hF i hi hun hpre
      obtain ⟨s0, s1, s2, s3, s4, s5, s6, s7, o0, o1, o2, hvs⟩ := exl_of 11 vs (fun l => vs = l) hF.len rfl
      subst hvs
      obtain ⟨eG0, gG0, hO0⟩ := old_of hF (i := 8) rfl (.inl (by decide))
      replace eG0 : o0 = _ := eG0
      subst eG0
      obtain ⟨eG1, gG1, hO1⟩ := old_of hF (i := 9) rfl (.inl (by decide))
      replace eG1 : o1 = _ := eG1
      subst eG1
      obtain ⟨eG2, gG2, hO2⟩ := old_of hF (i := 10) rfl (.inl (by decide))
      replace eG2 : o2 = _ := eG2
      subst eG2
      have hge := Nat.zero_le i
      simp only [putO, layL]
      rcases Nat.lt_or_ge i 4 with hlt | hgt
      · replace hi := hlt
        clear hlt
        rcases Nat.lt_or_ge i 2 with hlt | hgt
        · replace hi := hlt
          clear hlt
          rcases Nat.lt_or_ge i 1 with hlt | hgt
          · replace hi := hlt
            clear hlt
            obtain rfl := eqi hi hge
            refine step_of ⟨some 24, _, _, _, _, _⟩ rfl (fun K' hK => ?_)
            go_simp
            refine hK.out _ _ ⟨_, hF.pure hok hla hpre rfl (Below.refl _ _), ?fr⟩
            case fr => simp only [putO, layL]
          · replace hge : 1 ≤ i := hgt
            clear hgt
            obtain rfl := eqi hi hge
            have p0 := hpre 0 (by kernel_rfl)
            have e0 : s0 = .pointer (some ⟨b7, 2, none⟩) := hF.get 0 _ rfl (.inr p0)
            subst e0
            rw [if_neg (fun h => bit_off hun (hF.back 7 1 h (by kernel_rfl)))] at hO2
            have hcc := (six_at (hO2)).1
            have cH70 := hcc.1
            have cH71 := hcc.2.1
            have cH72 := hcc.2.2.1
            have cH73 := hcc.2.2.2.1
            have cH74 := hcc.2.2.2.2.1
            have cH75 := hcc.2.2.2.2.2
            clear hcc
            refine step_of ⟨some 25, _, _, _, _, _⟩ rfl (fun K' hK => ?_)
            go_simp
            refine hK.out _ _ ⟨_, hF.pure hok hla hpre rfl (Below.refl _ _), ?fr⟩
            case fr => simp only [putO, layL]
        · replace hge : 2 ≤ i := hgt
          clear hgt
          rcases Nat.lt_or_ge i 3 with hlt | hgt
          · replace hi := hlt
            clear hlt
            obtain rfl := eqi hi hge
            have o0 := ((HE0.out.below (below_none hF.low))).one 0 (by decide)
            have o1 := ((HE0.out.below (below_none hF.low))).one 1 (by decide)
            refine step_of ⟨some 26, _, _, _, _, _⟩ rfl (fun K' hK => ?_)
            go_simp
            refine hK.out _ _ ⟨_, hF.pure hok hla hpre rfl (Below.refl _ _), ?fr⟩
            case fr => simp only [putO, layL]
          · replace hge : 3 ≤ i := hgt
            clear hgt
            obtain rfl := eqi hi hge
            have p1 := hpre 1 (by kernel_rfl)
            have e1 : s1 = .agg #[.string (numS g), .string (denS g)] := hF.get 1 _ rfl (.inr p1)
            subst e1
            have p2 := hpre 2 (by kernel_rfl)
            have e2 : s2 = .agg #[.string { data := #[49] }, .string { data := #[49] }] := hF.get 2 _ rfl (.inr p2)
            subst e2
            refine step_of ⟨some 27, _, _, _, _, _⟩ rfl (fun K' hK => ?_)
            go_simp
            go_at_call 94
            (with_reducible refine (Qc4.out _ (HE0.out.below (below_none hF.low))).mono ?_)
            rintro e Wq ⟨rfl, hq⟩
            refine hK.out _ _ ⟨_, hF.pure hok hla hpre rfl hq, ?fr⟩
            case fr => simp only [putO, layL]
      · replace hge : 4 ≤ i := hgt
        clear hgt
        rcases Nat.lt_or_ge i 6 with hlt | hgt
        · replace hi := hlt
          clear hlt
          rcases Nat.lt_or_ge i 5 with hlt | hgt
          · replace hi := hlt
            clear hlt
            obtain rfl := eqi hi hge
            rw [if_neg (hF.unst (by decide))] at hO0
            have hcc := (two_at (hO0)).1
            have cH30 := hcc.1
            have cH31 := hcc.2
            clear hcc
            refine step_of ⟨some 28, _, _, _, _, _⟩ rfl (fun K' hK => ?_)
            go_simp
            refine hK.out _ _ ⟨_, hF.pure hok hla hpre rfl (Below.refl _ _), ?fr⟩
            case fr => simp only [putO, layL]
          · replace hge : 5 ≤ i := hgt
            clear hgt
            obtain rfl := eqi hi hge
            have p3 := hpre 3 (by kernel_rfl)
            have e3 : s3 = .agg #[.string (numS g1), .string (denS g1)] := hF.get 3 _ rfl (.inr p3)
            subst e3
            have p4 := hpre 4 (by kernel_rfl)
            have e4 : s4 = .agg #[.string (numS r), .string (denS r)] := hF.get 4 _ rfl (.inr p4)
            subst e4
            refine step_of ⟨some 29, _, _, _, _, _⟩ rfl (fun K' hK => ?_)
            go_simp
            go_at_call 78
            (with_reducible refine (Qc5.out _ (HE0.out.below (below_none hF.low))).mono ?_)
            rintro e Wq ⟨rfl, hq⟩
            refine hK.out _ _ ⟨_, hF.pure hok hla hpre rfl hq, ?fr⟩
            case fr => simp only [putO, layL]
        · replace hge : 6 ≤ i := hgt
          clear hgt
          rcases Nat.lt_or_ge i 7 with hlt | hgt
          · replace hi := hlt
            clear hlt
            obtain rfl := eqi hi hge
            refine step_of ⟨some 30, _, _, _, _, _⟩ rfl (fun K' hK => ?_)
            go_simp
            refine hK.out _ _ ⟨_, hF.pure hok hla hpre rfl (Below.refl _ _), ?fr⟩
            case fr => simp only [putO, layL]
          · replace hge : 7 ≤ i := hgt
            clear hgt
            obtain rfl := eqi hi hge
            have p6 := hpre 6 (by kernel_rfl)
            have e6 : s6 = .pointer (some ⟨b7, 4, none⟩) := hF.get 6 _ rfl (.inr p6)
            subst e6
            have p5 := hpre 5 (by kernel_rfl)
            have e5 : s5 = .agg #[.string (numS sq), .string (denS sq)] := hF.get 5 _ rfl (.inr p5)
            subst e5
            rw [if_neg (bit_off hun)] at hO2
            have HGB := Lib.hid hO2
            obtain ⟨⟨y0, y1, y2, y3, y4, y5⟩, g0, g1, g2, g3, g4, g5⟩ := six_at HGB.out
            refine step_of ⟨none, _, _, _, _, _⟩ rfl (fun K' hK => ?_)
            go_simp
            refine hK.out _ _ ⟨undef, hF.put hok hna hpre hun rfl undef rfl (.inl (by decide)) rfl (set45_at HGB.out (.string (numS sq)) (.string (denS sq))) (fun k hk => set45_other _ _ (.string (numS sq)) (.string (denS sq)) hk) (put45_below gG2 _ (.string (numS sq)) (.string (denS sq))), ?fr⟩
            case fr => simp only [putO, layL]
    case hd =>
      rintro listed vs WB hF hall
      obtain ⟨s0, s1, s2, s3, s4, s5, s6, s7, o0, o1, o2, hvs⟩ := exl_of 11 vs (fun l => vs = l) hF.len rfl
      subst hvs
      obtain ⟨eG0, gG0, hO0⟩ := old_of hF (i := 8) rfl (.inl (by decide))
      replace eG0 : o0 = _ := eG0
      subst eG0
      obtain ⟨eG1, gG1, hO1⟩ := old_of hF (i := 9) rfl (.inl (by decide))
      replace eG1 : o1 = _ := eG1
      subst eG1
      obtain ⟨eG2, gG2, hO2⟩ := old_of hF (i := 10) rfl (.inl (by decide))
      replace eG2 : o2 = _ := eG2
      subst eG2
      rw [if_neg (hF.unst (by decide))] at hO0
      replace H3 := Lib.hid hO0
      clear hO0
      rw [if_neg (hF.unst (by decide))] at hO1
      replace H6 := Lib.hid hO1
      clear hO1
      rw [if_pos (hall 7 (by decide))] at hO2
      replace H7 := Lib.hid hO2
      clear hO2
      have HQ := Lib.hid hF.low
      clear hF hall hok hna hla
      simp only [putO, layL]
      replace HG := Lib.hid (below_none HQ.out)
      clear HQ
      replace HE := Lib.hid (HE0.out.below HG.out)
      obtain ⟨⟨x7_0, x7_1, x7_2, x7_3, x7_4, x7_5⟩, x7_f0, x7_f1, x7_f2, x7_f3, x7_f4, x7_f5⟩ := six_at H7.out
      obtain ⟨⟨x6_0, x6_1, x6_2, x6_3, x6_4, x6_5⟩, x6_f0, x6_f1, x6_f2, x6_f3, x6_f4, x6_f5⟩ := six_at H6.out
      have n6 := set6_at H6.out (.string (numS r)) (.string (denS r)) (.string (numS g)) (.string (denS g)) (.string (numS sq)) (.string (denS sq))
      have hgl : Below W.heap.size W ((((((WB.setCell ⟨W.heap.size + 1, 0, none⟩ (.string (numS r))).setCell ⟨W.heap.size + 1, 1, none⟩ (.string (denS r))).setCell ⟨W.heap.size + 1, 2, none⟩ (.string (numS g))).setCell ⟨W.heap.size + 1, 3, none⟩ (.string (denS g))).setCell ⟨W.heap.size + 1, 4, none⟩ (.string (numS sq))).setCell ⟨W.heap.size + 1, 5, none⟩ (.string (denS sq))) := HG.out.trans (put6_below (show W.heap.size ≤ W.heap.size + 1 from (by omega)) WB (.string (numS r)) (.string (denS r)) (.string (numS g)) (.string (denS g)) (.string (numS sq)) (.string (denS sq)))
      clear HG
      have HG := Lib.hid hgl
      clear hgl
      obtain ⟨⟨r6_0, r6_1, r6_2, r6_3, r6_4, r6_5⟩, _⟩ := six_at n6
      go_wp2
      refine bodyPost_ret (v := .agg #[.string (numS r), .string (denS r), .string (numS g), .string (denS g), .string (numS sq), .string (denS sq)]) (by simp [results, Tryz.results74, go_sem, r6_0, r6_1, r6_2, r6_3, r6_4, r6_5]) rfl ⟨rfl, HG.out⟩

set_option linter.unusedVariables false in
/-- what the operations of region 1 yield -/
def payment_walkKs1 (r g s v w0 m1 a d x : Rat) (W : World) : List RK :=
  [.pure (.agg #[.string (numS v), .string (denS v)]),
   .pure (.pointer (some ⟨W.heap.size, 2, none⟩)),
   .pure (.agg #[.string (numS g), .string (denS g)]),
   .pure (.agg #[.string (numS m1), .string (denS m1)]),
   .pure (.agg #[.string (numS w0), .string (denS w0)]),
   .pure (.agg #[.string (numS a), .string (denS a)]),
   .pure (.pointer (some ⟨W.heap.size, 4, none⟩)),
   .pure (.agg #[.string (numS s), .string (denS s)]),
   .pure (.agg #[.string (numS d), .string (denS d)]),
   .pure (.agg #[.string (numS x), .string (denS x)]),
   .put 14,
   .box (some (W.heap.size)) #[.string (numS r), .string (denS r), .string (numS g), .string (denS g), .string (numS s), .string (denS s)] #[.string (numS r), .string (denS r), .string (numS g), .string (denS g), .string (numS s), .string (denS s)] 107 15,
   .box (some (W.heap.size + 1)) #[.string (numS v), .string (denS v)] #[.string (numS v), .string (denS v)] 24 15,
   .box (some (W.heap.size + 2)) #[.string (numS w0), .string (denS w0)] #[.string (numS w0), .string (denS w0)] 24 15,
   .box (some (W.heap.size + 3)) #[.string { data := #[] }, .string { data := #[] }] #[.string (numS x), .string (denS x)] 24 10]
set_option linter.unusedSimpArgs false in
set_option linter.unusedVariables false in
set_option maxHeartbeats 4000000 in
set_option maxRecDepth 100000 in
theorem payment_walk (r g s v w0 m1 a d x : Rat) (W : World) (c0 : Fun2 80 (.agg #[.string (numS v), .string (denS v)]) (.agg #[.string (numS g), .string (denS g)]) (.agg #[.string (numS m1), .string (denS m1)]))
    (c1 : Fun2 79 (.agg #[.string (numS m1), .string (denS m1)]) (.agg #[.string (numS w0), .string (denS w0)]) (.agg #[.string (numS a), .string (denS a)]))
    (c2 : Fun2 78 (.agg #[.string (numS a), .string (denS a)]) (.agg #[.string (numS s), .string (denS s)]) (.agg #[.string (numS d), .string (denS d)]))
    (c3 : Fun1 77 (.agg #[.string (numS d), .string (denS d)]) (.agg #[.string (numS x), .string (denS x)])) (hE : EnvY W) :
    Calls Tryz.prog 82 #[.agg #[.string (numS r), .string (denS r), .string (numS g), .string (denS g), .string (numS s), .string (denS s)], .agg #[.string (numS v), .string (denS v)], .agg #[.string (numS w0), .string (denS w0)]] W fun e w' => e = .returned (.agg #[.string (numS x), .string (denS x)]) ∧ Below W.heap.size W w' := by
  have Qc0 := Lib.hid c0
  have Qc1 := Lib.hid c1
  have Qc2 := Lib.hid c2
  have Qc3 := Lib.hid c3
  unfold Fun1 at Qc3
  unfold Fun2 at Qc0 Qc1 Qc2
  have HE0 := Lib.hid hE
  have HG := Lib.hid (show Below W.heap.size W ((((W.alloc (.cells #[.string (numS r), .string (denS r), .string (numS g), .string (denS g), .string (numS s), .string (denS s)] 107)).alloc (.cells #[.string (numS v), .string (denS v)] 24)).alloc (.cells #[.string (numS w0), .string (denS w0)] 24)).alloc (.cells #[.string { data := #[] }, .string { data := #[] }] 24)) from (((((Below.refl _ _).alloc (Nat.le_refl _) _).alloc (by simp only [World.size_alloc]; omega) _).alloc (by simp only [World.size_alloc]; omega) _).alloc (by simp only [World.size_alloc]; omega) _))
  have H3 : Hid (((((W.alloc (.cells #[.string (numS r), .string (denS r), .string (numS g), .string (denS g), .string (numS s), .string (denS s)] 107)).alloc (.cells #[.string (numS v), .string (denS v)] 24)).alloc (.cells #[.string (numS w0), .string (denS w0)] 24)).alloc (.cells #[.string { data := #[] }, .string { data := #[] }] 24)).heap[W.heap.size]? = some (.cells #[.string (numS r), .string (denS r), .string (numS g), .string (denS g), .string (numS s), .string (denS s)] 107 (0, 0))) := Lib.hid (by
    have h := heap_alloc_new W (.cells #[.string (numS r), .string (denS r), .string (numS g), .string (denS g), .string (numS s), .string (denS s)] 107)
    exact new_keep (new_keep (new_keep (h))))
  have H4 : Hid (((((W.alloc (.cells #[.string (numS r), .string (denS r), .string (numS g), .string (denS g), .string (numS s), .string (denS s)] 107)).alloc (.cells #[.string (numS v), .string (denS v)] 24)).alloc (.cells #[.string (numS w0), .string (denS w0)] 24)).alloc (.cells #[.string { data := #[] }, .string { data := #[] }] 24)).heap[W.heap.size + 1]? = some (.cells #[.string (numS v), .string (denS v)] 24 (0, 0))) := Lib.hid (by
    have h := heap_alloc_new (W.alloc (.cells #[.string (numS r), .string (denS r), .string (numS g), .string (denS g), .string (numS s), .string (denS s)] 107)) (.cells #[.string (numS v), .string (denS v)] 24)
    simp only [World.size_alloc] at h
    exact new_keep (new_keep (h)))
  have H5 : Hid (((((W.alloc (.cells #[.string (numS r), .string (denS r), .string (numS g), .string (denS g), .string (numS s), .string (denS s)] 107)).alloc (.cells #[.string (numS v), .string (denS v)] 24)).alloc (.cells #[.string (numS w0), .string (denS w0)] 24)).alloc (.cells #[.string { data := #[] }, .string { data := #[] }] 24)).heap[W.heap.size + 2]? = some (.cells #[.string (numS w0), .string (denS w0)] 24 (0, 0))) := Lib.hid (by
    have h := heap_alloc_new ((W.alloc (.cells #[.string (numS r), .string (denS r), .string (numS g), .string (denS g), .string (numS s), .string (denS s)] 107)).alloc (.cells #[.string (numS v), .string (denS v)] 24)) (.cells #[.string (numS w0), .string (denS w0)] 24)
    simp only [World.size_alloc] at h
    exact new_keep (h))
  have H6 : Hid (((((W.alloc (.cells #[.string (numS r), .string (denS r), .string (numS g), .string (denS g), .string (numS s), .string (denS s)] 107)).alloc (.cells #[.string (numS v), .string (denS v)] 24)).alloc (.cells #[.string (numS w0), .string (denS w0)] 24)).alloc (.cells #[.string { data := #[] }, .string { data := #[] }] 24)).heap[W.heap.size + 3]? = some (.cells #[.string { data := #[] }, .string { data := #[] }] 24 (0, 0))) := Lib.hid (by
    have h := heap_alloc_new (((W.alloc (.cells #[.string (numS r), .string (denS r), .string (numS g), .string (denS g), .string (numS s), .string (denS s)] 107)).alloc (.cells #[.string (numS v), .string (denS v)] 24)).alloc (.cells #[.string (numS w0), .string (denS w0)] 24)) (.cells #[.string { data := #[] }, .string { data := #[] }] 24)
    simp only [World.size_alloc] at h
    exact h)
  obtain ⟨W0, hW0⟩ : ∃ Z, ((((W.alloc (.cells #[.string (numS r), .string (denS r), .string (numS g), .string (denS g), .string (numS s), .string (denS s)] 107)).alloc (.cells #[.string (numS v), .string (denS v)] 24)).alloc (.cells #[.string (numS w0), .string (denS w0)] 24)).alloc (.cells #[.string { data := #[] }, .string { data := #[] }] 24)) = Z := ⟨_, rfl⟩
  rw [hW0] at HG H3 H4 H5 H6
  have EW0 := Lib.hid hW0
  have HE := Lib.hid (HE0.out.below HG.out)
  clear hW0 hE c0 c1 c2 c3
  go_enter Tryz.func82, Tryz.ntmps82
  go_wp2_with fail
  rw [EW0.out]

  have := HG.out.size
  have hok : okB 11 (payment_walkKs1 r g s v w0 m1 a d x W) = true := by kernel_rfl
  have hna := noAny_of (ks := (payment_walkKs1 r g s v w0 m1 a d x W)) (by kernel_rfl)
  have hla := lasts_of hna
  refine wp_region_facts (row := none) (w := W) 11 (payment_walkKs1 r g s v w0 m1 a d x W) [some 7, some 8, some 9, some 10, some 11, some 12, some 13, some 14, some 15, some 16, none] (by kernel_rfl) (by kernel_rfl) rfl [undef, undef, undef, undef, undef, undef, undef, undef, undef, undef, undef, .pointer (some ⟨W.heap.size, 0, none⟩), .pointer (some ⟨W.heap.size + 1, 0, none⟩), .pointer (some ⟨W.heap.size + 2, 0, none⟩), .pointer (some ⟨W.heap.size + 3, 0, none⟩)] ?h00 (Fs.start_olds hla rfl (only_of_below HG.out none) ⟨⟨_, rfl, fun _ h => Option.some.inj h, by omega, H3.out⟩, fun _ => ⟨fun _ => far_of (by omega), fun _ => far_of (by omega), fun _ => far_of (by omega), trivial⟩, ⟨⟨_, rfl, fun _ h => Option.some.inj h, by omega, H4.out⟩, fun _ => ⟨fun _ => far_of (by omega), fun _ => far_of (by omega), trivial⟩, ⟨⟨_, rfl, fun _ h => Option.some.inj h, by omega, H5.out⟩, fun _ => ⟨fun _ => far_of (by omega), trivial⟩, ⟨⟨_, rfl, fun _ h => Option.some.inj h, by omega, H6.out⟩, fun _ => trivial, trivial⟩⟩⟩⟩) ?hs ?hd
  case h00 => simp only [putO, layL]
  case hs =>
    rintro listed vs Wr hF i hi hun hpre
    obtain ⟨s0, s1, s2, s3, s4, s5, s6, s7, s8, s9, s10, o0, o1, o2, o3, hvs⟩ := exl_of 15 vs (fun l => vs = l) hF.len rfl
    subst hvs
    obtain ⟨eG0, gG0, hO0⟩ := old_of hF (i := 11) rfl (.inl (by decide))
    replace eG0 : o0 = _ := eG0
    subst eG0
    obtain ⟨eG1, gG1, hO1⟩ := old_of hF (i := 12) rfl (.inl (by decide))
    replace eG1 : o1 = _ := eG1
    subst eG1
    obtain ⟨eG2, gG2, hO2⟩ := old_of hF (i := 13) rfl (.inl (by decide))
    replace eG2 : o2 = _ := eG2
    subst eG2
    obtain ⟨eG3, gG3, hO3⟩ := old_of hF (i := 14) rfl (.inl (by decide))
    replace eG3 : o3 = _ := eG3
    subst eG3
    have hge := Nat.zero_le i
    simp only [putO, layL]
    rcases Nat.lt_or_ge i 5 with hlt | hgt
    · replace hi := hlt
      clear hlt
      rcases Nat.lt_or_ge i 2 with hlt | hgt
      · replace hi := hlt
        clear hlt
        rcases Nat.lt_or_ge i 1 with hlt | hgt
        · replace hi := hlt
          clear hlt
          obtain rfl := eqi hi hge
          rw [if_neg (hF.unst (by decide))] at hO1
          have hcc := (two_at (hO1)).1
          have cH40 := hcc.1
          have cH41 := hcc.2
          clear hcc
          refine step_of ⟨some 7, _, _, _, _, _⟩ rfl (fun K' hK => ?_)
          go_simp
          refine hK.out _ _ ⟨_, hF.pure hok hla hpre rfl (Below.refl _ _), ?fr⟩
          case fr => simp only [putO, layL]
        · replace hge : 1 ≤ i := hgt
          clear hgt
          obtain rfl := eqi hi hge
          refine step_of ⟨some 8, _, _, _, _, _⟩ rfl (fun K' hK => ?_)
          go_simp
          refine hK.out _ _ ⟨_, hF.pure hok hla hpre rfl (Below.refl _ _), ?fr⟩
          case fr => simp only [putO, layL]
      · replace hge : 2 ≤ i := hgt
        clear hgt
        rcases Nat.lt_or_ge i 3 with hlt | hgt
        · replace hi := hlt
          clear hlt
          obtain rfl := eqi hi hge
          have p1 := hpre 1 (by kernel_rfl)
          have e1 : s1 = .pointer (some ⟨W.heap.size, 2, none⟩) := hF.get 1 _ rfl (.inr p1)
          subst e1
          rw [if_neg (hF.unst (by decide))] at hO0
          have hcc := (six_at (hO0)).1
          have cH30 := hcc.1
          have cH31 := hcc.2.1
          have cH32 := hcc.2.2.1
          have cH33 := hcc.2.2.2.1
          have cH34 := hcc.2.2.2.2.1
          have cH35 := hcc.2.2.2.2.2
          clear hcc
          refine step_of ⟨some 9, _, _, _, _, _⟩ rfl (fun K' hK => ?_)
          go_simp
          refine hK.out _ _ ⟨_, hF.pure hok hla hpre rfl (Below.refl _ _), ?fr⟩
          case fr => simp only [putO, layL]
        · replace hge : 3 ≤ i := hgt
          clear hgt
          rcases Nat.lt_or_ge i 4 with hlt | hgt
          · replace hi := hlt
            clear hlt
            obtain rfl := eqi hi hge
            have p0 := hpre 0 (by kernel_rfl)
            have e0 : s0 = .agg #[.string (numS v), .string (denS v)] := hF.get 0 _ rfl (.inr p0)
            subst e0
            have p2 := hpre 2 (by kernel_rfl)
            have e2 : s2 = .agg #[.string (numS g), .string (denS g)] := hF.get 2 _ rfl (.inr p2)
            subst e2
            refine step_of ⟨some 10, _, _, _, _, _⟩ rfl (fun K' hK => ?_)
            go_simp
            go_at_call 80
            (with_reducible refine (Qc0.out _ (HE0.out.below (below_none hF.low))).mono ?_)
            rintro e Wq ⟨rfl, hq⟩
            refine hK.out _ _ ⟨_, hF.pure hok hla hpre rfl hq, ?fr⟩
            case fr => simp only [putO, layL]
          · replace hge : 4 ≤ i := hgt
            clear hgt
            obtain rfl := eqi hi hge
            rw [if_neg (hF.unst (by decide))] at hO2
            have hcc := (two_at (hO2)).1
            have cH50 := hcc.1
            have cH51 := hcc.2
            clear hcc
            refine step_of ⟨some 11, _, _, _, _, _⟩ rfl (fun K' hK => ?_)
            go_simp
            refine hK.out _ _ ⟨_, hF.pure hok hla hpre rfl (Below.refl _ _), ?fr⟩
            case fr => simp only [putO, layL]
    · replace hge : 5 ≤ i := hgt
      clear hgt
      rcases Nat.lt_or_ge i 8 with hlt | hgt
      · replace hi := hlt
        clear hlt
        rcases Nat.lt_or_ge i 6 with hlt | hgt
        · replace hi := hlt
          clear hlt
          obtain rfl := eqi hi hge
          have p3 := hpre 3 (by kernel_rfl)
          have e3 : s3 = .agg #[.string (numS m1), .string (denS m1)] := hF.get 3 _ rfl (.inr p3)
          subst e3
          have p4 := hpre 4 (by kernel_rfl)
          have e4 : s4 = .agg #[.string (numS w0), .string (denS w0)] := hF.get 4 _ rfl (.inr p4)
          subst e4
          refine step_of ⟨some 12, _, _, _, _, _⟩ rfl (fun K' hK => ?_)
          go_simp
          go_at_call 79
          (with_reducible refine (Qc1.out _ (HE0.out.below (below_none hF.low))).mono ?_)
          rintro e Wq ⟨rfl, hq⟩
          refine hK.out _ _ ⟨_, hF.pure hok hla hpre rfl hq, ?fr⟩
          case fr => simp only [putO, layL]
        · replace hge : 6 ≤ i := hgt
          clear hgt
          rcases Nat.lt_or_ge i 7 with hlt | hgt
          · replace hi := hlt
            clear hlt
            obtain rfl := eqi hi hge
            refine step_of ⟨some 13, _, _, _, _, _⟩ rfl (fun K' hK => ?_)
            go_simp
            refine hK.out _ _ ⟨_, hF.pure hok hla hpre rfl (Below.refl _ _), ?fr⟩
            case fr => simp only [putO, layL]
          · replace hge : 7 ≤ i := hgt
            clear hgt
            obtain rfl := eqi hi hge
            have p6 := hpre 6 (by kernel_rfl)
            have e6 : s6 = .pointer (some ⟨W.heap.size, 4, none⟩) := hF.get 6 _ rfl (.inr p6)
            subst e6
            rw [if_neg (hF.unst (by decide))] at hO0
            have hcc := (six_at (hO0)).1
            have cH30 := hcc.1
            have cH31 := hcc.2.1
            have cH32 := hcc.2.2.1
            have cH33 := hcc.2.2.2.1
            have cH34 := hcc.2.2.2.2.1
            have cH35 := hcc.2.2.2.2.2
            clear hcc
            refine step_of ⟨some 14, _, _, _, _, _⟩ rfl (fun K' hK => ?_)
            go_simp
            refine hK.out _ _ ⟨_, hF.pure hok hla hpre rfl (Below.refl _ _), ?fr⟩
            case fr => simp only [putO, layL]
      · replace hge : 8 ≤ i := hgt
        clear hgt
        rcases Nat.lt_or_ge i 9 with hlt | hgt
        · replace hi := hlt
          clear hlt
          obtain rfl := eqi hi hge
          have p5 := hpre 5 (by kernel_rfl)
          have e5 : s5 = .agg #[.string (numS a), .string (denS a)] := hF.get 5 _ rfl (.inr p5)
          subst e5
          have p7 := hpre 7 (by kernel_rfl)
          have e7 : s7 = .agg #[.string (numS s), .string (denS s)] := hF.get 7 _ rfl (.inr p7)
          subst e7
          refine step_of ⟨some 15, _, _, _, _, _⟩ rfl (fun K' hK => ?_)
          go_simp
          go_at_call 78
          (with_reducible refine (Qc2.out _ (HE0.out.below (below_none hF.low))).mono ?_)
          rintro e Wq ⟨rfl, hq⟩
          refine hK.out _ _ ⟨_, hF.pure hok hla hpre rfl hq, ?fr⟩
          case fr => simp only [putO, layL]
        · replace hge : 9 ≤ i := hgt
          clear hgt
          rcases Nat.lt_or_ge i 10 with hlt | hgt
          · replace hi := hlt
            clear hlt
            obtain rfl := eqi hi hge
            have p8 := hpre 8 (by kernel_rfl)
            have e8 : s8 = .agg #[.string (numS d), .string (denS d)] := hF.get 8 _ rfl (.inr p8)
            subst e8
            refine step_of ⟨some 16, _, _, _, _, _⟩ rfl (fun K' hK => ?_)
            go_simp
            go_at_call 77
            (with_reducible refine (Qc3.out _ (HE0.out.below (below_none hF.low))).mono ?_)
            rintro e Wq ⟨rfl, hq⟩
            refine hK.out _ _ ⟨_, hF.pure hok hla hpre rfl hq, ?fr⟩
            case fr => simp only [putO, layL]
          · replace hge : 10 ≤ i := hgt
            clear hgt
            obtain rfl := eqi hi hge
            have p9 := hpre 9 (by kernel_rfl)
            have e9 : s9 = .agg #[.string (numS x), .string (denS x)] := hF.get 9 _ rfl (.inr p9)
            subst e9
            rw [if_neg (bit_off hun)] at hO3
            have HGB := Lib.hid hO3
            obtain ⟨⟨y0, y1⟩, g0, g1⟩ := two_at HGB.out
            refine step_of ⟨none, _, _, _, _, _⟩ rfl (fun K' hK => ?_)
            go_simp
            refine hK.out _ _ ⟨undef, hF.put hok hna hpre hun rfl undef rfl (.inl (by decide)) rfl (set2_at HGB.out (.string (numS x)) (.string (denS x))) (fun k hk => set2_other _ _ (.string (numS x)) (.string (denS x)) hk) (put2_below gG3 _ (.string (numS x)) (.string (denS x))), ?fr⟩
            case fr => simp only [putO, layL]
  case hd =>
    rintro listed vs WA hF hall
    obtain ⟨s0, s1, s2, s3, s4, s5, s6, s7, s8, s9, s10, o0, o1, o2, o3, hvs⟩ := exl_of 15 vs (fun l => vs = l) hF.len rfl
    subst hvs
    obtain ⟨eG0, gG0, hO0⟩ := old_of hF (i := 11) rfl (.inl (by decide))
    replace eG0 : o0 = _ := eG0
    subst eG0
    obtain ⟨eG1, gG1, hO1⟩ := old_of hF (i := 12) rfl (.inl (by decide))
    replace eG1 : o1 = _ := eG1
    subst eG1
    obtain ⟨eG2, gG2, hO2⟩ := old_of hF (i := 13) rfl (.inl (by decide))
    replace eG2 : o2 = _ := eG2
    subst eG2
    obtain ⟨eG3, gG3, hO3⟩ := old_of hF (i := 14) rfl (.inl (by decide))
    replace eG3 : o3 = _ := eG3
    subst eG3
    rw [if_neg (hF.unst (by decide))] at hO0
    replace H3 := Lib.hid hO0
    clear hO0
    rw [if_neg (hF.unst (by decide))] at hO1
    replace H4 := Lib.hid hO1
    clear hO1
    rw [if_neg (hF.unst (by decide))] at hO2
    replace H5 := Lib.hid hO2
    clear hO2
    rw [if_pos (hall 10 (by decide))] at hO3
    replace H6 := Lib.hid hO3
    clear hO3
    have HQ := Lib.hid hF.low
    clear hF hall hok hna hla
    simp only [putO, layL]
    replace HG := Lib.hid (below_none HQ.out)
    clear HQ
    replace HE := Lib.hid (HE0.out.below HG.out)
    obtain ⟨⟨x6_0, x6_1⟩, x6_f0, x6_f1⟩ := two_at H6.out
    go_wp2
    refine bodyPost_ret (v := .agg #[.string (numS x), .string (denS x)]) (by simp [results, Tryz.results82, go_sem, x6_0, x6_1]) rfl ⟨rfl, HG.out⟩

end Go.Proofs.YtkbhlkinlcmgoaaGreatDoor.Num.Fy
