/- Numbers as texts of digits, fractions, values and the functions of fmath: contracts of the program's functions, joined from smaller texts. Conditions stand at each theorem. -/
import Derived.Test.YtcbolipiaflfbaaGreatDoorFyaB
import Derived.Test.YtcbolipiaflfbaaGreatDoorNumH
import Derived.BigQuiet
import Derived.IntWalk

/- package fmoney: the present value of a row of fractions. Conditions: what the small functions give. -/
namespace Go.Proofs.YtcbolipiaflfbaaGreatDoor.Num.Fy
open Go.RowKit Go.Lib Num

/-- what stays while the values are added up -/
structure PreI (W : World) (B5 B6 : Nat) (g s : Rat) (wx : World) : Prop where
  h4 : wx.heap[W.heap.size + 1]? = some (.cells #[.string { data := #[] }, .string { data := #[] }] 24 (0, 0))
  h5 : wx.heap[B5]? = some (.cells #[.string (numS s), .string (denS s)] 24 (0, 0))
  h6 : wx.heap[B6]? = some (.cells #[.string (numS g), .string (denS g)] 24 (0, 0))
  low : Below W.heap.size W wx
attribute [local irreducible] wpOp
set_option linter.unusedVariables false in
/-- what the operations of region 1 yield -/
def present_walkKs1 (r g zz : Rat) : List RK :=
  [.pure (.agg #[.string (numS zz), .string (denS zz)]),
   .pure (.agg #[.string { data := #[49] }, .string { data := #[49] }]),
   .pure (.agg #[.string (numS r), .string (denS r)]),
   .pure (.agg #[.string (numS g), .string (denS g)]),
   .box none #[.string { data := #[] }, .string { data := #[] }] #[.string (numS zz), .string (denS zz)] 24 6,
   .box none #[.string { data := #[] }, .string { data := #[] }] #[.string (numS g), .string (denS g)] 24 7,
   .put 4,
   .put 5]
set_option linter.unusedVariables false in
/-- what the operations of region 5 yield -/
def present_walkKs5 (g s d y q : Rat) (j G L C : Nat) (W : World) (b5 b6 : Nat) : List RK :=
  [.pure (.agg #[.string (numS s), .string (denS s)]),
   .pure (.agg #[.string (numS g), .string (denS g)]),
   .pure (.agg #[.string (numS d), .string (denS d)]),
   .pure (.slice (some ⟨G, 0, none⟩) L C),
   .pure (.int .i64 (j : Int)),
   .pure (.pointer (some ⟨G, j * 2, none⟩)),
   .pure (.agg #[.string (numS q), .string (denS q)]),
   .pure (.agg #[.string (numS y), .string (denS y)]),
   .put 10,
   .box (some (W.heap.size + 1)) #[.string { data := #[] }, .string { data := #[] }] #[.string { data := #[] }, .string { data := #[] }] 24 12,
   .box (some (b5)) #[.string (numS s), .string (denS s)] #[.string (numS y), .string (denS y)] 24 8,
   .box (some (b6)) #[.string (numS g), .string (denS g)] #[.string (numS g), .string (denS g)] 24 12]
set_option linter.unusedSimpArgs false in
set_option linter.unusedVariables false in
set_option maxHeartbeats 4000000 in
set_option maxRecDepth 100000 in
theorem present_walk (r g zz : Rat) (S D : Nat → Rat) (qs : List Rat) (G C : Nat) (W : World) (c0 : Fun1 25 (.int .i64 0) (.agg #[.string (numS zz), .string (denS zz)]))
    (c1 : Fun2 116 (.agg #[.string { data := #[49] }, .string { data := #[49] }]) (.agg #[.string (numS r), .string (denS r)]) (.agg #[.string (numS g), .string (denS g)]))
    (hfa : FracsAt W G qs)
    (hL : qs.length ≤ 1000)
    (hS : S qs.length = zz)
    (hd : ∀ k : Nat, k < qs.length → Fun2 115 (fracV (S (k + 1))) (fracV g) (fracV (D k)))
    (ha : ∀ (k : Nat) (h : k < qs.length), Fun2 116 (fracV (D k)) (fracV qs[k]) (fracV (S k))) (hE : EnvY W) :
    Calls Tryz.prog 260 #[.agg #[.string (numS r), .string (denS r)], .slice (some ⟨G, 0, none⟩) qs.length C] W fun e w' => e = .returned (.agg #[.string (numS (S 0)), .string (denS (S 0))]) ∧ Below W.heap.size W w' := by
  have Qc0 := Lib.hid c0
  have Qc1 := Lib.hid c1
  unfold Fun1 at Qc0
  unfold Fun2 at Qc1
  have HFA := Lib.hid hfa
  have HDT := Lib.hid hd
  have HAT := Lib.hid ha
  have HS := Lib.hid hS
  obtain ⟨L, hLL⟩ : ∃ L, qs.length = L := ⟨_, rfl⟩
  rw [hLL] at hL HS HDT
  have HLL := Lib.hid hLL
  have hwL : IntKind.i64.wrap ((L : Int) - 1) = (L : Int) - 1 := IntWalk.i64_in _ (by omega)
  rw [hLL]
  have HE0 := Lib.hid hE
  have HG := Lib.hid (show Below W.heap.size W ((W.alloc (.cells #[.string (numS r), .string (denS r)] 24)).alloc (.cells #[.string { data := #[] }, .string { data := #[] }] 24)) from (((Below.refl _ _).alloc (Nat.le_refl _) _).alloc (by simp only [World.size_alloc]; omega) _))
  have H2 : Hid (((W.alloc (.cells #[.string (numS r), .string (denS r)] 24)).alloc (.cells #[.string { data := #[] }, .string { data := #[] }] 24)).heap[W.heap.size]? = some (.cells #[.string (numS r), .string (denS r)] 24 (0, 0))) := Lib.hid (by
    have h := heap_alloc_new W (.cells #[.string (numS r), .string (denS r)] 24)
    exact new_keep (h))
  have H4 : Hid (((W.alloc (.cells #[.string (numS r), .string (denS r)] 24)).alloc (.cells #[.string { data := #[] }, .string { data := #[] }] 24)).heap[W.heap.size + 1]? = some (.cells #[.string { data := #[] }, .string { data := #[] }] 24 (0, 0))) := Lib.hid (by
    have h := heap_alloc_new (W.alloc (.cells #[.string (numS r), .string (denS r)] 24)) (.cells #[.string { data := #[] }, .string { data := #[] }] 24)
    simp only [World.size_alloc] at h
    exact h)
  obtain ⟨W0, hW0⟩ : ∃ Z, ((W.alloc (.cells #[.string (numS r), .string (denS r)] 24)).alloc (.cells #[.string { data := #[] }, .string { data := #[] }] 24)) = Z := ⟨_, rfl⟩
  rw [hW0] at HG H2 H4
  have EW0 := Lib.hid hW0
  have HE := Lib.hid (HE0.out.below HG.out)
  clear hW0 hE c0 c1 hfa hd ha hS hLL
  go_enter Tryz.func260, Tryz.ntmps260
  have lt_2 := Lib.hid (heap_lt H2.out)
  have lt_4 := Lib.hid (heap_lt H4.out)
  have geW := Lib.hid HG.out.size
  go_wp2_with fail
  rw [EW0.out]
  have hok : okB 8 (present_walkKs1 r g zz) = true := by kernel_rfl
  have hna := noAny_of (ks := (present_walkKs1 r g zz)) (by kernel_rfl)
  have hla := lasts_of hna
  refine wp_region_facts (row := none) (w := W0) 8 (present_walkKs1 r g zz) [some 8, some 9, some 10, some 11, some 5, some 6, none, none] (by kernel_rfl) (by kernel_rfl) rfl [undef, undef, undef, undef, undef, undef, undef, undef] ?h00 (Fs.start rfl rfl) ?hs ?hd
  case h00 => simp only [putO, layL]
  case hs =>
    rintro listed vs Wr hF i hi hun hpre
    obtain ⟨s0, s1, s2, s3, s4, s5, s6, s7, hvs⟩ := exl_of 8 vs (fun l => vs = l) hF.len rfl
    subst hvs
    have hge := Nat.zero_le i
    simp only [putO, layL]
    rcases Nat.lt_or_ge i 4 with hlt | hgt
    · replace hi := hlt
      clear hlt
      rcases Nat.lt_or_ge i 2 with hlt | hgt
      · replace hi := hlt
        clear hlt
        rcases Nat.lt_or_ge i 1 with hlt | hgt
        · replace hi := hlt
          clear hlt
          obtain rfl := eqi hi hge
          refine step_of ⟨some 8, _, _, _, _, _⟩ rfl (fun K' hK => ?_)
          go_simp
          go_at_call 25
          (with_reducible refine (Qc0.out _ (HE.out.below (below_none hF.low))).mono ?_)
          rintro e Wq ⟨rfl, hq⟩
          refine hK.out _ _ ⟨_, hF.pure hok hla hpre rfl hq, ?fr⟩
          case fr => simp only [putO, layL]
        · replace hge : 1 ≤ i := hgt
          clear hgt
          obtain rfl := eqi hi hge
          have o0 := ((HE.out.below (below_none hF.low))).one 0 (by decide)
          have o1 := ((HE.out.below (below_none hF.low))).one 1 (by decide)
          refine step_of ⟨some 9, _, _, _, _, _⟩ rfl (fun K' hK => ?_)
          go_simp
          refine hK.out _ _ ⟨_, hF.pure hok hla hpre rfl (Below.refl _ _), ?fr⟩
          case fr => simp only [putO, layL]
      · replace hge : 2 ≤ i := hgt
        clear hgt
        rcases Nat.lt_or_ge i 3 with hlt | hgt
        · replace hi := hlt
          clear hlt
          obtain rfl := eqi hi hge
          have hcc := (two_at (keep_block H2.out (below_none hF.low))).1
          have cH20 := hcc.1
          have cH21 := hcc.2
          clear hcc
          refine step_of ⟨some 10, _, _, _, _, _⟩ rfl (fun K' hK => ?_)
          go_simp
          refine hK.out _ _ ⟨_, hF.pure hok hla hpre rfl (Below.refl _ _), ?fr⟩
          case fr => simp only [putO, layL]
        · replace hge : 3 ≤ i := hgt
          clear hgt
          obtain rfl := eqi hi hge
          have p1 := hpre 1 (by kernel_rfl)
          have e1 : s1 = .agg #[.string { data := #[49] }, .string { data := #[49] }] := hF.get 1 _ rfl (.inr p1)
          subst e1
          have p2 := hpre 2 (by kernel_rfl)
          have e2 : s2 = .agg #[.string (numS r), .string (denS r)] := hF.get 2 _ rfl (.inr p2)
          subst e2
          refine step_of ⟨some 11, _, _, _, _, _⟩ rfl (fun K' hK => ?_)
          go_simp
          go_at_call 116
          (with_reducible refine (Qc1.out _ (HE.out.below (below_none hF.low))).mono ?_)
          rintro e Wq ⟨rfl, hq⟩
          refine hK.out _ _ ⟨_, hF.pure hok hla hpre rfl hq, ?fr⟩
          case fr => simp only [putO, layL]
    · replace hge : 4 ≤ i := hgt
      clear hgt
      rcases Nat.lt_or_ge i 6 with hlt | hgt
      · replace hi := hlt
        clear hlt
        rcases Nat.lt_or_ge i 5 with hlt | hgt
        · replace hi := hlt
          clear hlt
          obtain rfl := eqi hi hge
          refine step_of ⟨some 5, _, _, _, _, _⟩ rfl (fun K' hK => ?_)
          go_simp
          refine hK.out _ _ ⟨_, hF.box hok hla hpre hun rfl, ?fr⟩
          case fr => simp only [putO, layL]
        · replace hge : 5 ≤ i := hgt
          clear hgt
          obtain rfl := eqi hi hge
          refine step_of ⟨some 6, _, _, _, _, _⟩ rfl (fun K' hK => ?_)
          go_simp
          refine hK.out _ _ ⟨_, hF.box hok hla hpre hun rfl, ?fr⟩
          case fr => simp only [putO, layL]
      · replace hge : 6 ≤ i := hgt
        clear hgt
        rcases Nat.lt_or_ge i 7 with hlt | hgt
        · replace hi := hlt
          clear hlt
          obtain rfl := eqi hi hge
          have p4 := hpre 4 (by kernel_rfl)
          obtain ⟨G, eG, _, hGl, hGB⟩ : ∃ G, s4 = .pointer (some ⟨G, 0, none⟩) ∧ (∀ k, none = some k → G = k) ∧ W0.heap.size ≤ G ∧ Wr.heap[G]? = some (.cells (if listed.getD 6 false = true then #[.string (numS zz), .string (denS zz)] else #[.string { data := #[] }, .string { data := #[] }]) 24 (0, 0)) := hF.get 4 _ rfl (.inr p4)
          subst eG
          rw [if_neg (bit_off hun)] at hGB
          have HGB := Lib.hid hGB
          clear hGB
          have p0 := hpre 0 (by kernel_rfl)
          have e0 : s0 = .agg #[.string (numS zz), .string (denS zz)] := hF.get 0 _ rfl (.inr p0)
          subst e0
          obtain ⟨⟨y0, y1⟩, g0, g1⟩ := two_at HGB.out
          refine step_of ⟨none, _, _, _, _, _⟩ rfl (fun K' hK => ?_)
          go_simp
          refine hK.out _ _ ⟨undef, hF.put hok hna hpre hun rfl undef rfl (.inr p4) rfl (set2_at HGB.out (.string (numS zz)) (.string (denS zz))) (fun k hk => set2_other _ _ (.string (numS zz)) (.string (denS zz)) hk) (put2_below hGl _ (.string (numS zz)) (.string (denS zz))), ?fr⟩
          case fr => simp only [putO, layL]
        · replace hge : 7 ≤ i := hgt
          clear hgt
          obtain rfl := eqi hi hge
          have p5 := hpre 5 (by kernel_rfl)
          obtain ⟨G, eG, _, hGl, hGB⟩ : ∃ G, s5 = .pointer (some ⟨G, 0, none⟩) ∧ (∀ k, none = some k → G = k) ∧ W0.heap.size ≤ G ∧ Wr.heap[G]? = some (.cells (if listed.getD 7 false = true then #[.string (numS g), .string (denS g)] else #[.string { data := #[] }, .string { data := #[] }]) 24 (0, 0)) := hF.get 5 _ rfl (.inr p5)
          subst eG
          rw [if_neg (bit_off hun)] at hGB
          have HGB := Lib.hid hGB
          clear hGB
          have p3 := hpre 3 (by kernel_rfl)
          have e3 : s3 = .agg #[.string (numS g), .string (denS g)] := hF.get 3 _ rfl (.inr p3)
          subst e3
          obtain ⟨⟨y0, y1⟩, g0, g1⟩ := two_at HGB.out
          refine step_of ⟨none, _, _, _, _, _⟩ rfl (fun K' hK => ?_)
          go_simp
          refine hK.out _ _ ⟨undef, hF.put hok hna hpre hun rfl undef rfl (.inr p5) rfl (set2_at HGB.out (.string (numS g)) (.string (denS g))) (fun k hk => set2_other _ _ (.string (numS g)) (.string (denS g)) hk) (put2_below hGl _ (.string (numS g)) (.string (denS g))), ?fr⟩
          case fr => simp only [putO, layL]
  case hd =>
    rintro listed vs WA hF hall
    obtain ⟨s0, s1, s2, s3, s4, s5, s6, s7, hvs⟩ := exl_of 8 vs (fun l => vs = l) hF.len rfl
    subst hvs
    obtain ⟨b5, e4, _, gq, k4⟩ : ∃ G, s4 = .pointer (some ⟨G, 0, none⟩) ∧ (∀ k, none = some k → G = k) ∧ _ ≤ G ∧ WA.heap[G]? = some (.cells (if listed.getD 6 false = true then #[.string (numS zz), .string (denS zz)] else #[.string { data := #[] }, .string { data := #[] }]) 24 (0, 0)) := hF.get 4 _ rfl (.inr (hall 4 (by decide)))
    subst e4
    rw [if_pos (hall 6 (by decide))] at k4
    have H5 := Lib.hid k4
    clear k4
    have ge5 := Lib.hid gq
    clear gq
    obtain ⟨b6, e5, _, gq, k5⟩ : ∃ G, s5 = .pointer (some ⟨G, 0, none⟩) ∧ (∀ k, none = some k → G = k) ∧ _ ≤ G ∧ WA.heap[G]? = some (.cells (if listed.getD 7 false = true then #[.string (numS g), .string (denS g)] else #[.string { data := #[] }, .string { data := #[] }]) 24 (0, 0)) := hF.get 5 _ rfl (.inr (hall 5 (by decide)))
    subst e5
    rw [if_pos (hall 7 (by decide))] at k5
    have H6 := Lib.hid k5
    clear k5
    have ge6 := Lib.hid gq
    clear gq
    have nq := hF.ne 4 5 _ _ (by decide) rfl rfl rfl rfl (.inr (hall 4 (by decide))) (.inr (hall 5 (by decide)))
    have L6_5 : Hid (b5 ≠ b6) := Lib.hid (fun h => nq (congrArg some h))
    clear nq
    have hq := below_none hF.low
    replace H2 := Lib.hid (keep_block H2.out hq)
    replace H4 := Lib.hid (keep_block H4.out hq)
    replace HE := Lib.hid (HE.out.below hq)
    replace HG := Lib.hid (HG.out.trans (hq.mono HG.out.size))
    clear hq
    clear hF hall hok hna hla
    simp only [putO, layL]
    have L5_2 : Hid (W.heap.size < b5) := Lib.hid (by have := lt_2.out; have := ge5.out; omega)
    have L5_4 : Hid (W.heap.size + 1 < b5) := Lib.hid (by have := lt_4.out; have := ge5.out; omega)
    have G5 : Hid (W.heap.size ≤ b5) := Lib.hid (by have := geW.out; have := ge5.out; omega)
    have L6_2 : Hid (W.heap.size < b6) := Lib.hid (by have := lt_2.out; have := ge6.out; omega)
    have L6_4 : Hid (W.heap.size + 1 < b6) := Lib.hid (by have := lt_4.out; have := ge6.out; omega)
    have G6 : Hid (W.heap.size ≤ b6) := Lib.hid (by have := geW.out; have := ge6.out; omega)
    clear geW lt_2 lt_4
    go_wp2_with fail
    go_loopg [7] L (fun gh v7 wx => ∃ k : Nat, v7 = .int .i64 ((k : Int) - 1) ∧ k ≤ L ∧ gh = k ∧ PreI W b5 b6 g (S k) wx)
    case atStart => exact ⟨L, rfl, Nat.le_refl _, rfl, ⟨H4.out, by rw [HS.out]; exact H5.out, H6.out, HG.out⟩⟩
    case round =>
      clear H2 H4 H5 H6 HG HE
      obtain ⟨k, rfl, hk, hgk, hI⟩ := hrel
      replace hgk := hgk.symm
      subst hgk
      have H4 := Lib.hid hI.h4
      have H5 := Lib.hid hI.h5
      have H6 := Lib.hid hI.h6
      have HG := Lib.hid hI.low
      have HE := Lib.hid (HE0.out.below hI.low)
      clear hI
      by_cases hlt : 0 < k
      · obtain ⟨j, rfl⟩ : ∃ j, k = j + 1 := ⟨k - 1, by omega⟩
        have HKK := Lib.hid (show ((j + 1 : Nat) : Int) - 1 = (j : Int) by omega)
        rw [HKK.out]
        have hi0 : (0 : Int) ≤ (j : Int) := by omega
        have hi1 : (j : Int) < (L : Int) := by omega
        have hdd : decide (0 ≤ (j : Int)) = true := decide_eq_true hi0
        have hwj : IntKind.i64.wrap ((j : Int) - 1) = (j : Int) - 1 := IntWalk.i64_in _ (by omega)
        have QD := Lib.hid (HDT.out j (by omega))
        have QA := Lib.hid (HAT.out j (by have := HLL.out; omega))
        have hcell := HFA.out j (by have := HLL.out; omega)
        obtain ⟨q, hq⟩ : ∃ q, qs[j]'(by have := HLL.out; omega) = q := ⟨_, rfl⟩
        rw [hq] at QA hcell
        have HC0 := Lib.hid hcell.1
        have HC1 := Lib.hid hcell.2
        obtain ⟨s, hs⟩ : ∃ s, S (j + 1) = s := ⟨_, rfl⟩
        obtain ⟨d, hdj⟩ : ∃ d, D j = d := ⟨_, rfl⟩
        obtain ⟨y, hy⟩ : ∃ y, S j = y := ⟨_, rfl⟩
        rw [hs, hdj] at QD
        rw [hdj, hy] at QA
        rw [hs] at H5
        have HY := Lib.hid hy
        rw [fracV_is s, fracV_is g, fracV_is d] at QD
        rw [fracV_is d, fracV_is q, fracV_is y] at QA
        unfold Fun2 at QD QA
        clear hq hs hdj hy hcell
        go_wp2_with fail
        have := L5_4.out
        have := L6_4.out
        have := L6_5.out
        have := HG.out.size
        have := G5.out
        have := G6.out
        have hok : okB 9 (present_walkKs5 g s d y q j G L C W b5 b6) = true := by kernel_rfl
        have hna := noAny_of (ks := (present_walkKs5 g s d y q j G L C W b5 b6)) (by kernel_rfl)
        have hla := lasts_of hna
        refine wp_region_facts (row := none) (w := W) 9 (present_walkKs5 g s d y q j G L C W b5 b6) [some 19, some 20, some 21, some 22, some 23, some 24, some 25, some 26, none] (by kernel_rfl) (by kernel_rfl) rfl [u19, u20, u21, u22, u23, u24, u25, u26, undef, .pointer (some ⟨W.heap.size + 1, 0, none⟩), .pointer (some ⟨b5, 0, none⟩), .pointer (some ⟨b6, 0, none⟩)] ?h00 (Fs.start_olds hla rfl (only_of_below HG.out none) ⟨⟨_, rfl, fun _ h => Option.some.inj h, by omega, H4.out⟩, fun _ => ⟨fun _ => far_of (by omega), fun _ => far_of (by omega), trivial⟩, ⟨⟨_, rfl, fun _ h => Option.some.inj h, by omega, H5.out⟩, fun _ => ⟨fun _ => far_of (by omega), trivial⟩, ⟨⟨_, rfl, fun _ h => Option.some.inj h, by omega, H6.out⟩, fun _ => trivial, trivial⟩⟩⟩) ?hs ?hd
        case h00 => simp only [putO, layL]
        case hs =>
          rintro listed vs Wr hF i hi hun hpre
          obtain ⟨s0, s1, s2, s3, s4, s5, s6, s7, s8, o0, o1, o2, hvs⟩ := exl_of 12 vs (fun l => vs = l) hF.len rfl
          subst hvs
          obtain ⟨eG0, gG0, hO0⟩ := old_of hF (i := 9) rfl (.inl (by decide))
          replace eG0 : o0 = _ := eG0
          subst eG0
          obtain ⟨eG1, gG1, hO1⟩ := old_of hF (i := 10) rfl (.inl (by decide))
          replace eG1 : o1 = _ := eG1
          subst eG1
          obtain ⟨eG2, gG2, hO2⟩ := old_of hF (i := 11) rfl (.inl (by decide))
          replace eG2 : o2 = _ := eG2
          subst eG2
          have hge := Nat.zero_le i
          simp only [putO, layL]
          rcases Nat.lt_or_ge i 4 with hlt | hgt
          · replace hi := hlt
            clear hlt
            rcases Nat.lt_or_ge i 2 with hlt | hgt
            · replace hi := hlt
              clear hlt
              rcases Nat.lt_or_ge i 1 with hlt | hgt
              · replace hi := hlt
                clear hlt
                obtain rfl := eqi hi hge
                rw [if_neg (fun h => bit_off hun (hF.back 8 0 h (by kernel_rfl)))] at hO1
                have hcc := (two_at (hO1)).1
                have cH50 := hcc.1
                have cH51 := hcc.2
                clear hcc
                refine step_of ⟨some 19, _, _, _, _, _⟩ rfl (fun K' hK => ?_)
                go_simp
                refine hK.out _ _ ⟨_, hF.pure hok hla hpre rfl (Below.refl _ _), ?fr⟩
                case fr => simp only [putO, layL]
              · replace hge : 1 ≤ i := hgt
                clear hgt
                obtain rfl := eqi hi hge
                rw [if_neg (hF.unst (by decide))] at hO2
                have hcc := (two_at (hO2)).1
                have cH60 := hcc.1
                have cH61 := hcc.2
                clear hcc
                refine step_of ⟨some 20, _, _, _, _, _⟩ rfl (fun K' hK => ?_)
                go_simp
                refine hK.out _ _ ⟨_, hF.pure hok hla hpre rfl (Below.refl _ _), ?fr⟩
                case fr => simp only [putO, layL]
            · replace hge : 2 ≤ i := hgt
              clear hgt
              rcases Nat.lt_or_ge i 3 with hlt | hgt
              · replace hi := hlt
                clear hlt
                obtain rfl := eqi hi hge
                have p0 := hpre 0 (by kernel_rfl)
                have e0 : s0 = .agg #[.string (numS s), .string (denS s)] := hF.get 0 _ rfl (.inr p0)
                subst e0
                have p1 := hpre 1 (by kernel_rfl)
                have e1 : s1 = .agg #[.string (numS g), .string (denS g)] := hF.get 1 _ rfl (.inr p1)
                subst e1
                refine step_of ⟨some 21, _, _, _, _, _⟩ rfl (fun K' hK => ?_)
                go_simp
                go_at_call 115
                (with_reducible refine (QD.out _ (HE0.out.below (below_none hF.low))).mono ?_)
                rintro e Wq ⟨rfl, hq⟩
                refine hK.out _ _ ⟨_, hF.pure hok hla hpre rfl hq, ?fr⟩
                case fr => simp only [putO, layL]
              · replace hge : 3 ≤ i := hgt
                clear hgt
                obtain rfl := eqi hi hge
                refine step_of ⟨some 22, _, _, _, _, _⟩ rfl (fun K' hK => ?_)
                go_simp
                refine hK.out _ _ ⟨_, hF.pure hok hla hpre rfl (Below.refl _ _), ?fr⟩
                case fr => simp only [putO, layL]
          · replace hge : 4 ≤ i := hgt
            clear hgt
            rcases Nat.lt_or_ge i 6 with hlt | hgt
            · replace hi := hlt
              clear hlt
              rcases Nat.lt_or_ge i 5 with hlt | hgt
              · replace hi := hlt
                clear hlt
                obtain rfl := eqi hi hge
                refine step_of ⟨some 23, _, _, _, _, _⟩ rfl (fun K' hK => ?_)
                go_simp
                refine hK.out _ _ ⟨_, hF.pure hok hla hpre rfl (Below.refl _ _), ?fr⟩
                case fr => simp only [putO, layL]
              · replace hge : 5 ≤ i := hgt
                clear hgt
                obtain rfl := eqi hi hge
                have p3 := hpre 3 (by kernel_rfl)
                have e3 : s3 = .slice (some ⟨G, 0, none⟩) L C := hF.get 3 _ rfl (.inr p3)
                subst e3
                have p4 := hpre 4 (by kernel_rfl)
                have e4 : s4 = .int .i64 (j : Int) := hF.get 4 _ rfl (.inr p4)
                subst e4
                refine step_of ⟨some 24, _, _, _, _, _⟩ rfl (fun K' hK => ?_)
                go_simp
                refine hK.out _ _ ⟨_, hF.pure hok hla hpre rfl (Below.refl _ _), ?fr⟩
                case fr => simp only [putO, layL]
            · replace hge : 6 ≤ i := hgt
              clear hgt
              rcases Nat.lt_or_ge i 7 with hlt | hgt
              · replace hi := hlt
                clear hlt
                obtain rfl := eqi hi hge
                have p5 := hpre 5 (by kernel_rfl)
                have e5 : s5 = .pointer (some ⟨G, j * 2, none⟩) := hF.get 5 _ rfl (.inr p5)
                subst e5
                have z0 := cell_below HC0.out (below_none hF.low)
                have z1 := cell_below HC1.out (below_none hF.low)
                refine step_of ⟨some 25, _, _, _, _, _⟩ rfl (fun K' hK => ?_)
                go_simp
                refine hK.out _ _ ⟨_, hF.pure hok hla hpre rfl (Below.refl _ _), ?fr⟩
                case fr => simp only [putO, layL]
              · replace hge : 7 ≤ i := hgt
                clear hgt
                rcases Nat.lt_or_ge i 8 with hlt | hgt
                · replace hi := hlt
                  clear hlt
                  obtain rfl := eqi hi hge
                  have p2 := hpre 2 (by kernel_rfl)
                  have e2 : s2 = .agg #[.string (numS d), .string (denS d)] := hF.get 2 _ rfl (.inr p2)
                  subst e2
                  have p6 := hpre 6 (by kernel_rfl)
                  have e6 : s6 = .agg #[.string (numS q), .string (denS q)] := hF.get 6 _ rfl (.inr p6)
                  subst e6
                  refine step_of ⟨some 26, _, _, _, _, _⟩ rfl (fun K' hK => ?_)
                  go_simp
                  go_at_call 116
                  (with_reducible refine (QA.out _ (HE0.out.below (below_none hF.low))).mono ?_)
                  rintro e Wq ⟨rfl, hq⟩
                  refine hK.out _ _ ⟨_, hF.pure hok hla hpre rfl hq, ?fr⟩
                  case fr => simp only [putO, layL]
                · replace hge : 8 ≤ i := hgt
                  clear hgt
                  obtain rfl := eqi hi hge
                  have p7 := hpre 7 (by kernel_rfl)
                  have e7 : s7 = .agg #[.string (numS y), .string (denS y)] := hF.get 7 _ rfl (.inr p7)
                  subst e7
                  rw [if_neg (bit_off hun)] at hO1
                  have HGB := Lib.hid hO1
                  obtain ⟨⟨y0, y1⟩, g0, g1⟩ := two_at HGB.out
                  refine step_of ⟨none, _, _, _, _, _⟩ rfl (fun K' hK => ?_)
                  go_simp
                  refine hK.out _ _ ⟨undef, hF.put hok hna hpre hun rfl undef rfl (.inl (by decide)) rfl (set2_at HGB.out (.string (numS y)) (.string (denS y))) (fun k hk => set2_other _ _ (.string (numS y)) (.string (denS y)) hk) (put2_below gG1 _ (.string (numS y)) (.string (denS y))), ?fr⟩
                  case fr => simp only [putO, layL]
        case hd =>
          rintro listed vs WB hF hall
          obtain ⟨s0, s1, s2, s3, s4, s5, s6, s7, s8, o0, o1, o2, hvs⟩ := exl_of 12 vs (fun l => vs = l) hF.len rfl
          subst hvs
          obtain ⟨eG0, gG0, hO0⟩ := old_of hF (i := 9) rfl (.inl (by decide))
          replace eG0 : o0 = _ := eG0
          subst eG0
          obtain ⟨eG1, gG1, hO1⟩ := old_of hF (i := 10) rfl (.inl (by decide))
          replace eG1 : o1 = _ := eG1
          subst eG1
          obtain ⟨eG2, gG2, hO2⟩ := old_of hF (i := 11) rfl (.inl (by decide))
          replace eG2 : o2 = _ := eG2
          subst eG2
          rw [if_neg (hF.unst (by decide))] at hO0
          replace H4 := Lib.hid hO0
          clear hO0
          rw [if_pos (hall 8 (by decide))] at hO1
          replace H5 := Lib.hid hO1
          clear hO1
          rw [if_neg (hF.unst (by decide))] at hO2
          replace H6 := Lib.hid hO2
          clear hO2
          have HQ := Lib.hid hF.low
          clear hF hall hok hna hla
          simp only [putO, layL]
          replace HG := Lib.hid (below_none HQ.out)
          clear HQ
          replace HE := Lib.hid (HE0.out.below HG.out)
          have HI := Lib.hid (show PreI W b5 b6 g y WB from ⟨H4.out, H5.out, H6.out, HG.out⟩)
          go_wp2
          go_roundg j
          case measure => omega
          case rel => exact ⟨j, rfl, by omega, rfl, by rw [HY.out]; exact HI.out⟩
      · have hk0 : k = 0 := by omega
        subst hk0
        have hdd : decide (0 ≤ (((0 : Nat) : Int) - 1)) = false := by decide
        obtain ⟨s, hs⟩ : ∃ s, S 0 = s := ⟨_, rfl⟩
        rw [hs] at H5
        have HS0 := Lib.hid hs
        clear hs hlt
        obtain ⟨⟨x5_0, x5_1⟩, x5_f0, x5_f1⟩ := two_at H5.out
        have LL := L5_4.out
        obtain ⟨⟨x4_0, x4_1⟩, x4_f0, x4_f1⟩ := two_at H4.out
        have n4 := set2_at H4.out (.string (numS s)) (.string (denS s))
        have hgl : Below W.heap.size W ((wr.setCell ⟨W.heap.size + 1, 0, none⟩ (.string (numS s))).setCell ⟨W.heap.size + 1, 1, none⟩ (.string (denS s))) := HG.out.trans (put2_below (show W.heap.size ≤ W.heap.size + 1 from (by omega)) wr (.string (numS s)) (.string (denS s)))
        clear HG
        have HG := Lib.hid hgl
        clear hgl
        obtain ⟨⟨r4_0, r4_1⟩, _⟩ := two_at n4
        go_wp2
        refine bodyPost_ret (v := .agg #[.string (numS s), .string (denS s)]) (by simp [results, Tryz.results260, go_sem, r4_0, r4_1]) rfl ⟨by rw [HS0.out], HG.out⟩

end Go.Proofs.YtcbolipiaflfbaaGreatDoor.Num.Fy

/- package fmoney: whether a step of IRR's search is good. Conditions: what the small functions give. -/
namespace Go.Proofs.YtcbolipiaflfbaaGreatDoor.Num.Fy
open Go.RowKit Go.Lib Num
attribute [local irreducible] wpOp
set_option linter.unusedVariables false in
/-- what the operations of region 2 yield -/
def good_walkKs2 (f x : Rat) (G L C : Nat) (sg sd : Int) (bb : Bool) : List RK :=
  [.pure (.agg #[.string (numS f), .string (denS f)]),
   .pure (.slice (some ⟨G, 0, none⟩) L C),
   .pure (.agg #[.string (numS x), .string (denS x)]),
   .pure (.int .i64 sg),
   .pure (.int .i64 sd),
   .pure (.int .i64 (sg * sd)),
   .pure (.bool bb),
   .pure (.bool bb)]
set_option linter.unusedSimpArgs false in
set_option linter.unusedVariables false in
set_option maxHeartbeats 4000000 in
set_option maxRecDepth 100000 in
theorem good_walk (f x : Rat) (G L C Bl Bs : Nat) (n sg sd : Int) (W : World) (c0 : Fun2 18 (.int .i64 n) (.int .i64 1000000) (.tuple #[.agg #[.string (numS f), .string (denS f)], .int .i64 0]))
    (c1 : Fun1 256 (.agg #[.string (numS x), .string (denS x)]) (.int .i64 sg))
    (hb1 : W.heap[Bl]? = some (.cells #[.slice (some ⟨G, 0, none⟩) L C] 141 (0, 0)))
    (hb2 : W.heap[Bs]? = some (.cells #[.int .i64 sd] 3 (0, 0)))
    (hp : ∀ W', Below W.heap.size W W' → EnvY W' → Calls Tryz.prog 260 #[.agg #[.string (numS f), .string (denS f)], .slice (some ⟨G, 0, none⟩) L C] W' fun e w' => e = .returned (.agg #[.string (numS x), .string (denS x)]) ∧ Below W'.heap.size W' w')
    (hs0 : -1 ≤ sg * sd)
    (hs1 : sg * sd ≤ 1) (hE : EnvY W) :
    Calls Tryz.prog 261 #[.int .i64 n, .pointer (some ⟨Bl, 0, none⟩), .pointer (some ⟨Bs, 0, none⟩)] W fun e w' => e = .returned (.bool (decide (0 ≤ sg * sd))) ∧ Below W.heap.size W w' := by
  have Qc0 := Lib.hid c0
  have Qc1 := Lib.hid c1
  unfold Fun1 at Qc1
  unfold Fun2 at Qc0
  have HPT := Lib.hid hp
  have H1 := Lib.hid hb1
  have H2 := Lib.hid hb2
  have hw : IntKind.i64.wrap (sg * sd) = sg * sd := IntWalk.i64_in _ (by omega)
  obtain ⟨bb, hbb⟩ : ∃ b, decide (0 ≤ sg * sd) = b := ⟨_, rfl⟩
  rw [hbb]
  have HE0 := Lib.hid hE
  have HE := Lib.hid hE
  have HG := Lib.hid (Below.refl W.heap.size W)
  clear hE c0 c1 hp hb1 hb2
  go_enter Tryz.func261, Tryz.ntmps261
  go_wp2_with fail
  refine (Qc0.out _ HE.out).mono ?_
  rintro e w1 ⟨rfl, hb⟩
  replace H1 := Lib.hid (keep_block H1.out hb)
  replace H2 := Lib.hid (keep_block H2.out hb)
  replace HE := Lib.hid (HE.out.below hb)
  replace HG := Lib.hid (HG.out.trans (hb.mono HG.out.size))
  clear hb
  have lt_1 := heap_lt H1.out
  have lt_2 := heap_lt H2.out
  have geW := HG.out.size
  have L5_1 : Hid (Bl < w1.heap.size) := Lib.hid (by omega)
  have L5_2 : Hid (Bs < w1.heap.size) := Lib.hid (by omega)
  have G5 : Hid (W.heap.size ≤ w1.heap.size) := Lib.hid (by omega)
  have hb : Below w1.heap.size w1 (w1.alloc (.cells #[.string (numS f), .string (denS f)] 24)) := (Below.refl _ _).alloc (Nat.le_refl _) _
  replace H1 := Lib.hid (keep_block H1.out hb)
  replace H2 := Lib.hid (keep_block H2.out hb)
  replace HE := Lib.hid (HE.out.below hb)
  replace HG := Lib.hid (HG.out.trans (hb.mono HG.out.size))
  have H5 := Lib.hid (heap_alloc_new w1 (.cells #[.string (numS f), .string (denS f)] 24))
  clear hb
  clear geW lt_1 lt_2
  obtain ⟨WL1, hWL1⟩ : ∃ Z, (w1.alloc (.cells #[.string (numS f), .string (denS f)] 24)) = Z := ⟨_, rfl⟩
  rw [hWL1] at HE HG H1 H2 H5
  have EWL1 := Lib.hid hWL1
  clear hWL1
  have lt_1 := Lib.hid (heap_lt H1.out)
  have lt_2 := Lib.hid (heap_lt H2.out)
  have lt_5 := Lib.hid (heap_lt H5.out)
  have geW := Lib.hid HG.out.size
  go_wp2_with fail
  rw [EWL1.out]
  have hok : okB 8 (good_walkKs2 f x G L C sg sd bb) = true := by kernel_rfl
  have hna := noAny_of (ks := (good_walkKs2 f x G L C sg sd bb)) (by kernel_rfl)
  have hla := lasts_of hna
  refine wp_region_facts (row := none) (w := WL1) 8 (good_walkKs2 f x G L C sg sd bb) [some 12, some 13, some 14, some 15, some 16, some 17, some 18, some 4] (by kernel_rfl) (by kernel_rfl) rfl [undef, undef, undef, undef, undef, undef, undef, (.bool false)] ?h00 (Fs.start rfl rfl) ?hs ?hd
  case h00 => simp only [putO, layL]
  case hs =>
    rintro listed vs Wr hF i hi hun hpre
    obtain ⟨s0, s1, s2, s3, s4, s5, s6, s7, hvs⟩ := exl_of 8 vs (fun l => vs = l) hF.len rfl
    subst hvs
    have hge := Nat.zero_le i
    simp only [putO, layL]
    rcases Nat.lt_or_ge i 4 with hlt | hgt
    · replace hi := hlt
      clear hlt
      rcases Nat.lt_or_ge i 2 with hlt | hgt
      · replace hi := hlt
        clear hlt
        rcases Nat.lt_or_ge i 1 with hlt | hgt
        · replace hi := hlt
          clear hlt
          obtain rfl := eqi hi hge
          have hcc := (two_at (keep_block H5.out (below_none hF.low))).1
          have cH50 := hcc.1
          have cH51 := hcc.2
          clear hcc
          refine step_of ⟨some 12, _, _, _, _, _⟩ rfl (fun K' hK => ?_)
          go_simp
          refine hK.out _ _ ⟨_, hF.pure hok hla hpre rfl (Below.refl _ _), ?fr⟩
          case fr => simp only [putO, layL]
        · replace hge : 1 ≤ i := hgt
          clear hgt
          obtain rfl := eqi hi hge
          have cH10 := Lib.cell_of_heap (keep_block H1.out (below_none hF.low)) 0
          refine step_of ⟨some 13, _, _, _, _, _⟩ rfl (fun K' hK => ?_)
          go_simp
          refine hK.out _ _ ⟨_, hF.pure hok hla hpre rfl (Below.refl _ _), ?fr⟩
          case fr => simp only [putO, layL]
      · replace hge : 2 ≤ i := hgt
        clear hgt
        rcases Nat.lt_or_ge i 3 with hlt | hgt
        · replace hi := hlt
          clear hlt
          obtain rfl := eqi hi hge
          have p0 := hpre 0 (by kernel_rfl)
          have e0 : s0 = .agg #[.string (numS f), .string (denS f)] := hF.get 0 _ rfl (.inr p0)
          subst e0
          have p1 := hpre 1 (by kernel_rfl)
          have e1 : s1 = .slice (some ⟨G, 0, none⟩) L C := hF.get 1 _ rfl (.inr p1)
          subst e1
          refine step_of ⟨some 14, _, _, _, _, _⟩ rfl (fun K' hK => ?_)
          go_simp
          go_at_call 260
          (with_reducible refine (HPT.out _ (HG.out.trans ((below_none hF.low).mono HG.out.size)) (HE.out.below (below_none hF.low))).mono ?_)
          rintro e Wq ⟨rfl, hq⟩
          refine hK.out _ _ ⟨_, hF.pure hok hla hpre rfl hq, ?fr⟩
          case fr => simp only [putO, layL]
        · replace hge : 3 ≤ i := hgt
          clear hgt
          obtain rfl := eqi hi hge
          have p2 := hpre 2 (by kernel_rfl)
          have e2 : s2 = .agg #[.string (numS x), .string (denS x)] := hF.get 2 _ rfl (.inr p2)
          subst e2
          refine step_of ⟨some 15, _, _, _, _, _⟩ rfl (fun K' hK => ?_)
          go_simp
          go_at_call 256
          (with_reducible refine (Qc1.out _ (HE.out.below (below_none hF.low))).mono ?_)
          rintro e Wq ⟨rfl, hq⟩
          refine hK.out _ _ ⟨_, hF.pure hok hla hpre rfl hq, ?fr⟩
          case fr => simp only [putO, layL]
    · replace hge : 4 ≤ i := hgt
      clear hgt
      rcases Nat.lt_or_ge i 6 with hlt | hgt
      · replace hi := hlt
        clear hlt
        rcases Nat.lt_or_ge i 5 with hlt | hgt
        · replace hi := hlt
          clear hlt
          obtain rfl := eqi hi hge
          have cH20 := Lib.cell_of_heap (keep_block H2.out (below_none hF.low)) 0
          refine step_of ⟨some 16, _, _, _, _, _⟩ rfl (fun K' hK => ?_)
          go_simp
          refine hK.out _ _ ⟨_, hF.pure hok hla hpre rfl (Below.refl _ _), ?fr⟩
          case fr => simp only [putO, layL]
        · replace hge : 5 ≤ i := hgt
          clear hgt
          obtain rfl := eqi hi hge
          have p3 := hpre 3 (by kernel_rfl)
          have e3 : s3 = .int .i64 sg := hF.get 3 _ rfl (.inr p3)
          subst e3
          have p4 := hpre 4 (by kernel_rfl)
          have e4 : s4 = .int .i64 sd := hF.get 4 _ rfl (.inr p4)
          subst e4
          refine step_of ⟨some 17, _, _, _, _, _⟩ rfl (fun K' hK => ?_)
          go_simp
          refine hK.out _ _ ⟨_, hF.pure hok hla hpre rfl (Below.refl _ _), ?fr⟩
          case fr => simp only [putO, layL]
      · replace hge : 6 ≤ i := hgt
        clear hgt
        rcases Nat.lt_or_ge i 7 with hlt | hgt
        · replace hi := hlt
          clear hlt
          obtain rfl := eqi hi hge
          have p5 := hpre 5 (by kernel_rfl)
          have e5 : s5 = .int .i64 (sg * sd) := hF.get 5 _ rfl (.inr p5)
          subst e5
          refine step_of ⟨some 18, _, _, _, _, _⟩ rfl (fun K' hK => ?_)
          go_simp
          refine hK.out _ _ ⟨_, hF.pure hok hla hpre rfl (Below.refl _ _), ?fr⟩
          case fr => simp only [putO, layL]
        · replace hge : 7 ≤ i := hgt
          clear hgt
          obtain rfl := eqi hi hge
          have p6 := hpre 6 (by kernel_rfl)
          have e6 : s6 = .bool bb := hF.get 6 _ rfl (.inr p6)
          subst e6
          refine step_of ⟨some 4, _, _, _, _, _⟩ rfl (fun K' hK => ?_)
          go_simp
          refine hK.out _ _ ⟨_, hF.pure hok hla hpre rfl (Below.refl _ _), ?fr⟩
          case fr => simp only [putO, layL]
  case hd =>
    rintro listed vs WA hF hall
    obtain ⟨s0, s1, s2, s3, s4, s5, s6, s7, hvs⟩ := exl_of 8 vs (fun l => vs = l) hF.len rfl
    subst hvs
    have e7 : s7 = .bool bb := hF.get 7 _ rfl (.inr (hall 7 (by decide)))
    subst e7
    have hq := below_none hF.low
    replace H1 := Lib.hid (keep_block H1.out hq)
    replace H2 := Lib.hid (keep_block H2.out hq)
    replace H5 := Lib.hid (keep_block H5.out hq)
    replace HE := Lib.hid (HE.out.below hq)
    replace HG := Lib.hid (HG.out.trans (hq.mono HG.out.size))
    clear hq
    clear hF hall hok hna hla
    simp only [putO, layL]
    clear geW lt_1 lt_2 lt_5
    go_wp2
    go_ret
    exact ⟨rfl, HG.out⟩

end Go.Proofs.YtcbolipiaflfbaaGreatDoor.Num.Fy

/- package value: arrays of numbers: Check, List, Size, Inside. Conditions: the items are numbers that fit; the tables lie as they are laid. -/
namespace Go.Proofs.YtcbolipiaflfbaaGreatDoor.Num
open Go.RowKit Go.Lib

/-- an array as a value, field by field -/
def arrVal' (r s : Int) (g L C : Nat) : Val := ⟨5, { data := #[] }, { data := #[] }, { data := #[] }, false, 0, r, s, some ⟨g, 0, none⟩, L, C⟩
theorem arrVal'_agg (r s : Int) (g L C : Nat) : (arrVal' r s g L C).agg = .agg #[.int .i64 5, .string { data := #[] }, .string { data := #[] }, .string { data := #[] }, .bool false, .int .i64 0, .int .i64 r, .int .i64 s, .slice (some ⟨g, 0, none⟩) L C] := rfl
/-- what stays while the items of an array are gone through -/
structure RowI (w : World) (g : Nat) (qs : List Rat) (W : World) : Prop where
  row : ValsAt W g 0 (numVals qs)
  env : Env W
  low : Below w.heap.size w W
theorem RowI.step {w W W' : World} {g : Nat} {qs : List Rat} (h : RowI w g qs W) (hb : Below W.heap.size W W') : RowI w g qs W' :=
  ⟨h.row.below hb, h.env.below hb, h.low.trans (hb.mono h.low.size)⟩
/-- the cells of item i -/
theorem item_at {W : World} {g : Nat} {qs : List Rat} (h : ValsAt W g 0 (numVals qs)) (i : Nat) (hi : i < qs.length) (q : Rat) (hq : qs[i] = q) :
    W.cell? ⟨g, i * 9, none⟩ = some (.int .i64 1) ∧ W.cell? ⟨g, i * 9 + 1, none⟩ = some (.string (numS q)) ∧ W.cell? ⟨g, i * 9 + 2, none⟩ = some (.string (denS q)) ∧ W.cell? ⟨g, i * 9 + 3, none⟩ = some (.string { data := #[] }) ∧ W.cell? ⟨g, i * 9 + 4, none⟩ = some (.bool false) ∧ W.cell? ⟨g, i * 9 + 5, none⟩ = some (.int .i64 0) ∧ W.cell? ⟨g, i * 9 + 6, none⟩ = some (.int .i64 0) ∧ W.cell? ⟨g, i * 9 + 7, none⟩ = some (.int .i64 0) ∧ W.cell? ⟨g, i * 9 + 8, none⟩ = some (.slice none 0 0) := by
  have hl : i < (numVals qs).length := by rw [numVals_len]; exact hi
  have := h.at i hl
  rw [numVals_at qs i hl, hq, Nat.zero_add] at this
  exact this

set_option maxHeartbeats 4000000 in
set_option maxRecDepth 100000 in
theorem array_ok (qs : List Rat) (r s : Int) (g C : Nat) (w : World) (hr : 1 ≤ r) (hr9 : r ≤ 1000) (hs : 1 ≤ s) (hs9 : s ≤ 1000) (hrs : r * s = (qs.length : Int)) (hq : ∀ q ∈ qs, fits q = true) (h9 : qs.length ≤ 1000) (hv : ValsAt w g 0 (numVals qs)) (hE : Env w) :
    Calls Tryz.prog 145 #[.agg #[.int .i64 5, .string { data := #[] }, .string { data := #[] }, .string { data := #[] }, .bool false, .int .i64 0, .int .i64 r, .int .i64 s, .slice (some ⟨g, 0, none⟩) qs.length C]] w fun e w' => e = .returned (.int .i64 0) ∧ Below w.heap.size w w' := by
  have hb : Below w.heap.size w (w.alloc (.cells #[.int .i64 5, .string { data := #[] }, .string { data := #[] }, .string { data := #[] }, .bool false, .int .i64 0, .int .i64 r, .int .i64 s, .slice (some ⟨g, 0, none⟩) qs.length C] 27)) := (Below.refl _ _).alloc (Nat.le_refl _) _
  have HI0 := Lib.hid (show RowI w g qs (w.alloc (.cells #[.int .i64 5, .string { data := #[] }, .string { data := #[] }, .string { data := #[] }, .bool false, .int .i64 0, .int .i64 r, .int .i64 s, .slice (some ⟨g, 0, none⟩) qs.length C] 27)) from ⟨hv.below hb, hE.below hb, hb⟩)
  have HQ := Lib.hid hq
  have d1 : decide (r < 1) = false := decide_eq_false (by omega)
  have d2 : decide (100000 < r) = false := decide_eq_false (by omega)
  have d3 : decide (s < 1) = false := decide_eq_false (by omega)
  have d4 : decide (100000 < s) = false := decide_eq_false (by omega)
  obtain ⟨L, hL⟩ : ∃ L, qs.length = L := ⟨_, rfl⟩
  have HLL := Lib.hid hL
  rw [hL] at hrs h9 HI0 ⊢
  have d5 : decide (100000 < (L : Int)) = false := decide_eq_false (by omega)
  have hwr : IntKind.i64.wrap (L : Int) = (L : Int) := IntWalk.i64_in _ (by omega)
  clear hb hv hE hq hL
  go_enter Tryz.func145, Tryz.ntmps145
  go_wp2_with fail
  go_loopg [42] L (fun gh v42 wx => ∃ k : Nat, v42 = .int .i64 (k : Int) ∧ k ≤ L ∧ gh = L - k ∧ RowI w g qs wx)
  case atStart => exact ⟨0, rfl, Nat.zero_le _, rfl, HI0.out⟩
  case round =>
    clear HI0
    obtain ⟨k, rfl, hk, rfl, hti⟩ := hrel
    have HTI := Lib.hid hti
    clear hti hrs hwr
    by_cases hlt : k < L
    · have hd : decide ((k : Int) < (L : Int)) = true := decide_eq_true (by omega)
      have hd2 : decide (k < L) = true := decide_eq_true hlt
      have hkq : k < qs.length := by rw [HLL.out]; exact hlt
      obtain ⟨q, hqq⟩ : ∃ q, qs[k] = q := ⟨_, rfl⟩
      have hfq : fits q = true := by rw [← hqq]; exact HQ.out _ (List.getElem_mem hkq)
      obtain ⟨c0, c1, c2, c3, c4, c5, c6, c7, c8⟩ := item_at HTI.out.row k hkq q hqq
      have TC := Lib.hid (fun W gg => check_num q W hfq gg)
      have hi0 : (0 : Int) ≤ (k : Int) := by omega
      have hi1 : (k : Int) < (L : Int) := by omega
      clear hfq hkq hqq
      have HTA := Lib.hid (HTI.out.step ((Below.refl wr.heap.size wr).alloc (Nat.le_refl _) (.cells #[.int .i64 1, .string (numS q), .string (denS q), .string { data := #[] }, .bool false, .int .i64 0, .int .i64 0, .int .i64 0, .slice none 0 0] 27)))
      go_wp2_with fail
      refine (TC.out _ HTA.out.env).mono ?_
      rintro e w2 ⟨rfl, hb⟩
      have HT2 := Lib.hid (HTA.out.step hb)
      clear hb c0 c1 c2 c3 c4 c5 c6 c7 c8
      go_wp2
      go_roundg (L - (k + 1))
      case measure => omega
      case rel => exact ⟨k + 1, by go_num, by omega, by omega, HT2.out⟩
    · have hd : decide ((k : Int) < (L : Int)) = false := decide_eq_false (by omega)
      have hd2 : decide (k < L) = false := decide_eq_false hlt
      clear hlt
      go_wp2
      go_ret
      exact ⟨rfl, HTI.out.low⟩

set_option maxHeartbeats 4000000 in
set_option maxRecDepth 100000 in
theorem check_arr (qs : List Rat) (r s : Int) (g C : Nat) (w : World) (hr : 1 ≤ r) (hr9 : r ≤ 1000) (hs : 1 ≤ s) (hs9 : s ≤ 1000) (hrs : r * s = (qs.length : Int)) (hq : ∀ q ∈ qs, fits q = true) (h9 : qs.length ≤ 1000) (hv : ValsAt w g 0 (numVals qs)) (hE : Env w) :
    Calls Tryz.prog 47 #[.agg #[.int .i64 5, .string { data := #[] }, .string { data := #[] }, .string { data := #[] }, .bool false, .int .i64 0, .int .i64 r, .int .i64 s, .slice (some ⟨g, 0, none⟩) qs.length C]] w fun e w' => e = .returned (.int .i64 0) ∧ Below w.heap.size w w' := by
  have TA := Lib.hid (fun W hvv gg => array_ok qs r s g C W hr hr9 hs hs9 hrs hq h9 hvv gg)
  have HX := Lib.hid (heap_alloc_new w (.cells #[.int .i64 5, .string { data := #[] }, .string { data := #[] }, .string { data := #[] }, .bool false, .int .i64 0, .int .i64 r, .int .i64 s, .slice (some ⟨g, 0, none⟩) qs.length C] 27))
  have HL := Lib.hid (show Below w.heap.size w (w.alloc (.cells #[.int .i64 5, .string { data := #[] }, .string { data := #[] }, .string { data := #[] }, .bool false, .int .i64 0, .int .i64 r, .int .i64 s, .slice (some ⟨g, 0, none⟩) qs.length C] 27)) from (Below.refl _ _).alloc (Nat.le_refl _) _)
  have HE := Lib.hid (hE.below HL.out)
  have HV := Lib.hid (hv.below HL.out)
  have TZ := Lib.hid (fun W => zeros_arr r s (some ⟨g, 0, none⟩) qs.length C W)
  obtain ⟨L, hL⟩ : ∃ L, qs.length = L := ⟨_, rfl⟩
  rw [hL] at TA HX HL HE TZ HV ⊢
  clear hE hv hr hr9 hs hs9 hrs hq h9 hL
  go_enter Tryz.func47, Tryz.ntmps47
  go_wp2_with fail
  refine (TZ.out _).mono ?_
  rintro e W1 ⟨rfl, hb⟩
  replace HX := Lib.hid (keep_block HX.out hb)
  replace HE := Lib.hid (HE.out.below hb)
  replace HV := Lib.hid (HV.out.below hb)
  replace HL := Lib.hid (HL.out.trans (hb.mono HL.out.size))
  clear hb
  obtain ⟨⟨x0, x1, x2, x3, x4, x5, x6, x7, x8⟩, _⟩ := nine_at HX.out
  go_wp2_with fail
  refine (TA.out _ HV.out HE.out).mono ?_
  rintro e W2 ⟨rfl, hb⟩
  replace HL := Lib.hid (HL.out.trans (hb.mono HL.out.size))
  clear hb
  go_wp2
  go_ret
  exact ⟨rfl, HL.out⟩

set_option maxHeartbeats 4000000 in
set_option maxRecDepth 100000 in
theorem list_arr (r s : Int) (g L C : Nat) (w : World) :
    Calls Tryz.prog 281 #[.agg #[.int .i64 5, .string { data := #[] }, .string { data := #[] }, .string { data := #[] }, .bool false, .int .i64 0, .int .i64 r, .int .i64 s, .slice (some ⟨g, 0, none⟩) L C]] w fun e w' => e = .returned (.slice (some ⟨g, 0, none⟩) L C) ∧ Below w.heap.size w w' := by
  have HL := Lib.hid (show Below w.heap.size w (w.alloc (.cells #[.int .i64 5, .string { data := #[] }, .string { data := #[] }, .string { data := #[] }, .bool false, .int .i64 0, .int .i64 r, .int .i64 s, .slice (some ⟨g, 0, none⟩) L C] 27)) from (Below.refl _ _).alloc (Nat.le_refl _) _)
  go_enter Tryz.func281, Tryz.ntmps281
  go_wp2
  go_ret
  exact ⟨rfl, HL.out⟩

set_option maxHeartbeats 4000000 in
set_option maxRecDepth 100000 in
theorem list_num (q : Rat) (w : World) :
    Calls Tryz.prog 281 #[.agg #[.int .i64 1, .string (numS q), .string (denS q), .string { data := #[] }, .bool false, .int .i64 0, .int .i64 0, .int .i64 0, .slice none 0 0]] w fun e w' => ∃ g, e = .returned (.slice (some ⟨g, 0, none⟩) 1 1) ∧ ValsAt w' g 0 (numVals [q]) ∧ Below w.heap.size w w' := by
  have HL := Lib.hid (show Below w.heap.size w (w.alloc (.cells #[.int .i64 1, .string (numS q), .string (denS q), .string { data := #[] }, .bool false, .int .i64 0, .int .i64 0, .int .i64 0, .slice none 0 0] 27)) from (Below.refl _ _).alloc (Nat.le_refl _) _)
  obtain ⟨W1, hW1⟩ : ∃ W1, w.alloc (.cells #[.int .i64 1, .string (numS q), .string (denS q), .string { data := #[] }, .bool false, .int .i64 0, .int .i64 0, .int .i64 0, .slice none 0 0] 27) = W1 := ⟨_, rfl⟩
  have HV := Lib.hid (vals_of_block (vs := numVals [q]) (heap_alloc_new (w.alloc (.cells #[.int .i64 1, .string (numS q), .string (denS q), .string { data := #[] }, .bool false, .int .i64 0, .int .i64 0, .int .i64 0, .slice none 0 0] 27)) (.cells #[.int .i64 1, .string (numS q), .string (denS q), .string { data := #[] }, .bool false, .int .i64 0, .int .i64 0, .int .i64 0, .slice none 0 0] 27)) rfl)
  have HB := Lib.hid (HL.out.alloc HL.out.size (.cells #[.int .i64 1, .string (numS q), .string (denS q), .string { data := #[] }, .bool false, .int .i64 0, .int .i64 0, .int .i64 0, .slice none 0 0] 27))
  clear hW1 W1
  rw [show (w.alloc (.cells #[.int .i64 1, .string (numS q), .string (denS q), .string { data := #[] }, .bool false, .int .i64 0, .int .i64 0, .int .i64 0, .slice none 0 0] 27)).heap.size = w.heap.size + 1 by simp] at HV
  go_enter Tryz.func281, Tryz.ntmps281
  go_wp2
  go_ret
  exact ⟨_, rfl, HV.out, HB.out⟩
end Go.Proofs.YtcbolipiaflfbaaGreatDoor.Num

/- package value: Inside at an array of numbers; Numbers where each argument is a number or an array of numbers. Conditions: all numbers fit; the tables lie as they are laid. -/
namespace Go.Proofs.YtcbolipiaflfbaaGreatDoor.Num
open Go.RowKit Go.Lib

theorem Env.low {W W' : World} {B : Nat} (h : Env W) (ho : ∀ k, k < B → W'.heap[k]? = W.heap[k]?) (hP : Past B) (hs : W.heap.size ≤ W'.heap.size) : Env W' := by
  refine ⟨?_, ?_, Nat.lt_of_lt_of_le h.room.1 hs, Nat.lt_of_lt_of_le h.room.2 hs⟩
  · have := h.tab
    unfold Tab Lib.TabIs World.var? at this ⊢
    have hgl : Tryz.prog.globalNamed "internal/strconv.uint64pow10" = some 3 := by kernel_rfl
    rw [hgl] at this ⊢
    simp only [Option.bind_some] at this ⊢
    rw [ho _ hP.2]; exact this
  · intro j hj
    have h1 := h.faults j hj
    have hl : j < faultTexts.size := hj
    rw [Array.getElem?_eq_getElem hl] at h1 ⊢
    simp only [World.cell?] at h1 ⊢
    rw [ho _ hP.1]; exact h1
theorem own_ge {B : Nat} {W : World} {v : Value} {qs : List Rat} (h : OwnF B v qs W) : ∀ r, v.ownBlock = some r → B ≤ r := by
  intro r hr
  rcases h.2 with ⟨rfl, _⟩ | ⟨g, cap, cur, rfl, hb, _⟩
  · simp [Value.ownBlock] at hr
  · simp [Value.ownBlock] at hr; omega
theorem OwnF.mono {B B' : Nat} {W : World} {v : Value} {qs : List Rat} (h : OwnF B v qs W) (hB : B' ≤ B) : OwnF B' v qs W := by
  refine ⟨h.1, ?_⟩
  rcases h.2 with h1 | ⟨g, cap, cur, e, hb, r⟩
  · exact .inl h1
  · exact .inr ⟨g, cap, cur, e, Nat.le_trans hB hb, r⟩
/-- the cells of an own row -/
theorem OwnF.cells {B : Nat} {v : Value} {qs : List Rat} {W : World} (h : OwnF B v qs W) (h0 : 0 < qs.length) : ∃ g cap, v = .slice (some ⟨g, 0, none⟩) qs.length cap ∧ B ≤ g ∧ ∀ j u, (fracCells qs)[j]? = some u → W.cell? ((⟨g, 0, none⟩ : Addr).add j) = some u := by
  rcases h.2 with ⟨_, h0'⟩ | ⟨g, cap, cur, rfl, hb, hg, hc1, hc2, hcs, htk⟩
  · exfalso; have := h0'; simp at this; omega
  · refine ⟨g, cap, rfl, hb, fun j u hj => ?_⟩
    rw [← htk] at hj
    have hl : j < qs.length * 2 := by
      have := (List.getElem?_eq_some_iff.1 hj).1
      simp only [List.length_take] at this
      omega
    rw [List.getElem?_take_of_lt hl] at hj
    rw [addr_add, Nat.zero_add, Lib.cell_of_heap hg j]
    simpa using hj
theorem frac_one (qs : List Rat) : ∀ u ∈ fracCells qs, u.oneCell' = true := by
  intro u hu
  unfold fracCells at hu
  obtain ⟨v, _, hv⟩ := List.mem_flatMap.1 hu
  simp only [List.mem_cons, List.not_mem_nil, or_false] at hv
  rcases hv with rfl | rfl <;> rfl
theorem frac_len : ∀ qs : List Rat, (fracCells qs).length = qs.length * 2
  | [] => rfl
  | q :: r => by
    have := frac_len r
    unfold fracCells at this ⊢
    rw [List.flatMap_cons, List.length_append, this, List.length_cons]
    show 2 + r.length * 2 = (r.length + 1) * 2
    omega
theorem fracCells_append (a b : List Rat) : fracCells (a ++ b) = fracCells a ++ fracCells b := by simp [fracCells]

/-- what stays while the items are collected; the row lies ahead of the base -/
structure InI (w : World) (g : Nat) (qs : List Rat) (v : Value) (done : List Rat) (W : World) : Prop where
  row : ValsAt W g 0 (numVals qs)
  env : Env W
  low : Below w.heap.size w W
  own : OwnF w.heap.size v done W
theorem InI.step {w W W' : World} {g : Nat} {qs done : List Rat} {v : Value} (h : InI w g qs v done W) (hb : Below W.heap.size W W') : InI w g qs v done W' :=
  ⟨h.row.below hb, h.env.below hb, h.low.trans (hb.mono h.low.size), h.own.kept (only_of_below hb none) (by cases v.ownBlock <;> simp)⟩
theorem vals_other {W W' : World} {g : Nat} {vs : List Val} (h : ValsAt W g 0 vs) (ho : W'.heap[g]? = W.heap[g]?) : ValsAt W' g 0 vs := by
  intro j u hj
  have := h j u hj
  rw [addr_add] at this ⊢
  simp only [World.cell?] at this ⊢
  rw [ho]; exact this
theorem InI.push {w W W' : World} {g : Nat} {qs done : List Rat} {v v' : Value} {q : Rat} (h : InI w g qs v done W) (ho : W'.ownsRow w.heap.size 24 2 v' (done.length + 1) (fracCells done ++ [.string (numS q), .string (denS q)])) (hg : W.grownBy W' v.ownBlock) (hg0 : g < w.heap.size) (hE0 : Past w.heap.size) : InI w g qs v' (done ++ [q]) W' := by
  have hother : ∀ k, k < w.heap.size → W'.heap[k]? = W.heap[k]? := fun k hk => hg.block k (Nat.lt_of_lt_of_le hk h.low.size) (fun e => by have := own_ge h.own k e.symm; omega)
  exact ⟨vals_other h.row (hother g hg0), h.env.low hother hE0 hg.size, h.low.grown hg h.low.size (fun r hr => own_ge h.own r hr), by unfold OwnF; rw [fracCells_snoc, List.length_append]; exact ho⟩

set_option maxHeartbeats 4000000 in
set_option maxRecDepth 100000 in
theorem inside_arr (qs : List Rat) (r s : Int) (g C : Nat) (w : World) (h9 : qs.length ≤ 1000) (h0 : 0 < qs.length) (hv : ValsAt w g 0 (numVals qs)) (hE : Env w) :
    Calls Tryz.prog 184 #[.agg #[.int .i64 5, .string { data := #[] }, .string { data := #[] }, .string { data := #[] }, .bool false, .int .i64 0, .int .i64 r, .int .i64 s, .slice (some ⟨g, 0, none⟩) qs.length C]] w fun e w' => ∃ v, e = .returned v ∧ OwnF w.heap.size v qs w' ∧ Env w' ∧ Below w.heap.size w w' := by
  have hb : Below w.heap.size w (w.alloc (.cells #[.int .i64 5, .string { data := #[] }, .string { data := #[] }, .string { data := #[] }, .bool false, .int .i64 0, .int .i64 r, .int .i64 s, .slice (some ⟨g, 0, none⟩) qs.length C] 27)) := (Below.refl _ _).alloc (Nat.le_refl _) _
  have HX := Lib.hid (heap_alloc_new w (.cells #[.int .i64 5, .string { data := #[] }, .string { data := #[] }, .string { data := #[] }, .bool false, .int .i64 0, .int .i64 r, .int .i64 s, .slice (some ⟨g, 0, none⟩) qs.length C] 27))
  have HE := Lib.hid (hE.below hb)
  have HL := Lib.hid hb
  have HV := Lib.hid (hv.below hb)
  obtain ⟨L, hL⟩ : ∃ L, qs.length = L := ⟨_, rfl⟩
  have HLL := Lib.hid hL
  rw [hL] at h0 h9 HX HE HL HV ⊢
  clear hv hL
  obtain ⟨i0, hi0', hz0, hz1, hz2⟩ := info_frac
  clear hb hE
  go_enter Tryz.func184, Tryz.ntmps184
  go_wp2_with fail
  refine (list_arr r s g L C _).mono ?_
  rintro e w1 ⟨rfl, hb⟩
  replace HX := Lib.hid (keep_block HX.out hb)
  replace HE := Lib.hid (HE.out.below hb)
  replace HV := Lib.hid (HV.out.below hb)
  replace HL := Lib.hid (HL.out.trans (hb.mono HL.out.size))
  clear hb
  have HGL := Lib.hid (show g < w1.heap.size from cell_lt (HV.out.at 0 (by rw [numVals_len, HLL.out]; exact h0)).1)
  have HPS := Lib.hid HE.out.room
  have HI0 := Lib.hid (show InI w1 g qs (.slice none 0 0) [] w1 from ⟨HV.out, HE.out, Below.refl _ _, World.ownsRow_nil _ _ _ _⟩)
  clear HV HE
  go_wp2_with fail
  go_loopg [3, 9] L (fun gh v3 v9 wx => ∃ k : Nat, v9 = .int .i64 (k : Int) ∧ k ≤ L ∧ gh = L - k ∧ InI w1 g qs v3 (qs.take k) wx)
  case atStart => exact ⟨0, rfl, Nat.zero_le _, rfl, HI0.out⟩
  case round =>
    clear HI0
    obtain ⟨k, rfl, hk, rfl, hti⟩ := hrel
    have HTI := Lib.hid hti
    clear hti
    by_cases hlt : k < L
    · have hd : decide ((k : Int) < (L : Int)) = true := decide_eq_true (by omega)
      have hd2 : decide (k < L) = true := decide_eq_true hlt
      have hkq : k < qs.length := by rw [HLL.out]; exact hlt
      obtain ⟨q, hqq⟩ : ∃ q, qs[k] = q := ⟨_, rfl⟩
      have HTK := Lib.hid (show qs.take (k + 1) = qs.take k ++ [q] by rw [List.take_succ_eq_append_getElem hkq, hqq])
      have HDL := Lib.hid (show (qs.take k).length = k by simp; omega)
      obtain ⟨c0, c1, c2, c3, c4, c5, c6, c7, c8⟩ := item_at HTI.out.row k hkq q hqq
      have hi0 : (0 : Int) ≤ (k : Int) := by omega
      have hi1 : (k : Int) < (L : Int) := by omega
      clear hkq hqq
      obtain ⟨W2, hW2⟩ : ∃ W2, wr.alloc (.cells #[.int .i64 1, .string (numS q), .string (denS q), .string { data := #[] }, .bool false, .int .i64 0, .int .i64 0, .int .i64 0, .slice none 0 0] 27) = W2 := ⟨_, rfl⟩
      have HT2 := Lib.hid (HTI.out.step ((Below.refl wr.heap.size wr).alloc (Nat.le_refl _) (.cells #[.int .i64 1, .string (numS q), .string (denS q), .string { data := #[] }, .bool false, .int .i64 0, .int .i64 0, .int .i64 0, .slice none 0 0] 27)))
      rw [hW2] at HT2
      have HT3 := Lib.hid (HT2.out.step ((Below.refl W2.heap.size W2).alloc (Nat.le_refl _) (.cells #[.string (numS q), .string (denS q)] 24)))
      have hown := HT3.out.own
      unfold OwnF at hown
      rw [HDL.out] at hown
      obtain ⟨av, cv, hu⟩ := owns_form hown
      subst hu
      have HOW := Lib.hid hown
      clear hown
      have hml : k + 1 ≤ maxLen := by unfold maxLen; omega
      have hpos : W2.heap.size = wr.heap.size + 1 := by rw [← hW2]; simp
      have hnews := World.news_of_block (cs := #[.string (numS q), .string (denS q)]) (t := 24) (fr := (0, 0)) (heap_alloc_new W2 (.cells #[.string (numS q), .string (denS q)] 24))
      rw [hpos] at hnews
      have HNW := Lib.hid hnews
      have HBS := Lib.hid (show w1.heap.size ≤ (W2.alloc (.cells #[.string (numS q), .string (denS q)] 24)).heap.size from HT3.out.low.size)
      rw [← hW2] at HOW HNW HBS
      have HW2 := Lib.hid hW2
      clear hnews hpos hW2
      go_wp2_with (at_builtin; refine wpList_append_own _ rfl _ _ 141 rfl w1.heap.size 24 i0 _ 2 32 Tryz.underlying141 hi0' hz0 hz1 hz2 rfl (by decide) (.slice av k cv) k (fracCells (qs.take k)) rfl HOW.out ⟨wr.heap.size + 1, 0, none⟩ 1 1 [.string (numS q), .string (denS q)] rfl rfl HNW.out (by simp [Value.oneCell']) hml (by omega) HBS.out ?_)
      intro v5 w5 hown5 hgrow5 _
      rw [HW2.out] at hgrow5
      have HT5 := Lib.hid (HT3.out.push (by rw [HDL.out]; exact hown5) hgrow5 HGL.out HPS.out)
      rw [← HTK.out] at HT5
      clear hown5 hgrow5 c0 c1 c2 c3 c4 c5 c6 c7 c8
      go_wp2
      go_roundg (L - (k + 1))
      case measure => omega
      case rel => exact ⟨k + 1, by go_num, by omega, by omega, HT5.out⟩
    · have hd : decide ((k : Int) < (L : Int)) = false := decide_eq_false (by omega)
      have hd2 : decide (k < L) = false := decide_eq_false hlt
      have hkL : k = L := by omega
      have HTK := Lib.hid (show qs.take k = qs by rw [hkL, ← HLL.out, List.take_length])
      rw [HTK.out] at HTI
      clear hkL hlt
      go_wp2
      go_ret
      exact ⟨_, rfl, HTI.out.own.mono HL.out.size, HTI.out.env, HL.out.trans (HTI.out.low.mono HL.out.size)⟩

set_option maxHeartbeats 4000000 in
set_option maxRecDepth 100000 in
theorem inside_num (q0 : Rat) (w : World) (hE : Env w) :
    Calls Tryz.prog 184 #[.agg #[.int .i64 1, .string (numS q0), .string (denS q0), .string { data := #[] }, .bool false, .int .i64 0, .int .i64 0, .int .i64 0, .slice none 0 0]] w fun e w' => ∃ v, e = .returned v ∧ OwnF w.heap.size v [q0] w' ∧ Env w' ∧ Below w.heap.size w w' := by
  have hb : Below w.heap.size w (w.alloc (.cells #[.int .i64 1, .string (numS q0), .string (denS q0), .string { data := #[] }, .bool false, .int .i64 0, .int .i64 0, .int .i64 0, .slice none 0 0] 27)) := (Below.refl _ _).alloc (Nat.le_refl _) _
  have HX := Lib.hid (heap_alloc_new w (.cells #[.int .i64 1, .string (numS q0), .string (denS q0), .string { data := #[] }, .bool false, .int .i64 0, .int .i64 0, .int .i64 0, .slice none 0 0] 27))
  have HE := Lib.hid (hE.below hb)
  have HL := Lib.hid hb
  obtain ⟨qs, hqs⟩ : ∃ qs, [q0] = qs := ⟨_, rfl⟩
  have HQS := Lib.hid hqs.symm
  obtain ⟨L, hL⟩ : ∃ L, L = 1 := ⟨_, rfl⟩
  have HLL := Lib.hid (show qs.length = L by rw [hL, ← hqs]; rfl)
  have h0 : 0 < L := by omega
  have h9 : L ≤ 1000 := by omega
  have TLN := Lib.hid (fun W => list_num q0 W)
  rw [hqs, ← hL] at TLN
  clear hqs hL
  obtain ⟨i0, hi0', hz0, hz1, hz2⟩ := info_frac
  clear hb hE
  go_enter Tryz.func184, Tryz.ntmps184
  go_wp2_with fail
  refine (TLN.out _).mono ?_
  rintro e w1 ⟨g, rfl, hv, hb⟩
  have HV := Lib.hid hv
  replace HX := Lib.hid (keep_block HX.out hb)
  replace HE := Lib.hid (HE.out.below hb)
  replace HL := Lib.hid (HL.out.trans (hb.mono HL.out.size))
  clear hb
  clear hv
  have HGL := Lib.hid (show g < w1.heap.size from cell_lt (HV.out.at 0 (by rw [numVals_len, HLL.out]; exact h0)).1)
  have HPS := Lib.hid HE.out.room
  have HI0 := Lib.hid (show InI w1 g qs (.slice none 0 0) [] w1 from ⟨HV.out, HE.out, Below.refl _ _, World.ownsRow_nil _ _ _ _⟩)
  clear HV HE
  go_wp2_with fail
  go_loopg [3, 9] L (fun gh v3 v9 wx => ∃ k : Nat, v9 = .int .i64 (k : Int) ∧ k ≤ L ∧ gh = L - k ∧ InI w1 g qs v3 (qs.take k) wx)
  case atStart => exact ⟨0, rfl, Nat.zero_le _, rfl, HI0.out⟩
  case round =>
    clear HI0
    obtain ⟨k, rfl, hk, rfl, hti⟩ := hrel
    have HTI := Lib.hid hti
    clear hti
    by_cases hlt : k < L
    · have hd : decide ((k : Int) < (L : Int)) = true := decide_eq_true (by omega)
      have hd2 : decide (k < L) = true := decide_eq_true hlt
      have hkq : k < qs.length := by rw [HLL.out]; exact hlt
      obtain ⟨q, hqq⟩ : ∃ q, qs[k] = q := ⟨_, rfl⟩
      have HTK := Lib.hid (show qs.take (k + 1) = qs.take k ++ [q] by rw [List.take_succ_eq_append_getElem hkq, hqq])
      have HDL := Lib.hid (show (qs.take k).length = k by simp; omega)
      obtain ⟨c0, c1, c2, c3, c4, c5, c6, c7, c8⟩ := item_at HTI.out.row k hkq q hqq
      have hi0 : (0 : Int) ≤ (k : Int) := by omega
      have hi1 : (k : Int) < (L : Int) := by omega
      clear hkq hqq
      obtain ⟨W2, hW2⟩ : ∃ W2, wr.alloc (.cells #[.int .i64 1, .string (numS q), .string (denS q), .string { data := #[] }, .bool false, .int .i64 0, .int .i64 0, .int .i64 0, .slice none 0 0] 27) = W2 := ⟨_, rfl⟩
      have HT2 := Lib.hid (HTI.out.step ((Below.refl wr.heap.size wr).alloc (Nat.le_refl _) (.cells #[.int .i64 1, .string (numS q), .string (denS q), .string { data := #[] }, .bool false, .int .i64 0, .int .i64 0, .int .i64 0, .slice none 0 0] 27)))
      rw [hW2] at HT2
      have HT3 := Lib.hid (HT2.out.step ((Below.refl W2.heap.size W2).alloc (Nat.le_refl _) (.cells #[.string (numS q), .string (denS q)] 24)))
      have hown := HT3.out.own
      unfold OwnF at hown
      rw [HDL.out] at hown
      obtain ⟨av, cv, hu⟩ := owns_form hown
      subst hu
      have HOW := Lib.hid hown
      clear hown
      have hml : k + 1 ≤ maxLen := by unfold maxLen; omega
      have hpos : W2.heap.size = wr.heap.size + 1 := by rw [← hW2]; simp
      have hnews := World.news_of_block (cs := #[.string (numS q), .string (denS q)]) (t := 24) (fr := (0, 0)) (heap_alloc_new W2 (.cells #[.string (numS q), .string (denS q)] 24))
      rw [hpos] at hnews
      have HNW := Lib.hid hnews
      have HBS := Lib.hid (show w1.heap.size ≤ (W2.alloc (.cells #[.string (numS q), .string (denS q)] 24)).heap.size from HT3.out.low.size)
      rw [← hW2] at HOW HNW HBS
      have HW2 := Lib.hid hW2
      clear hnews hpos hW2
      go_wp2_with (at_builtin; refine wpList_append_own _ rfl _ _ 141 rfl w1.heap.size 24 i0 _ 2 32 Tryz.underlying141 hi0' hz0 hz1 hz2 rfl (by decide) (.slice av k cv) k (fracCells (qs.take k)) rfl HOW.out ⟨wr.heap.size + 1, 0, none⟩ 1 1 [.string (numS q), .string (denS q)] rfl rfl HNW.out (by simp [Value.oneCell']) hml (by omega) HBS.out ?_)
      intro v5 w5 hown5 hgrow5 _
      rw [HW2.out] at hgrow5
      have HT5 := Lib.hid (HT3.out.push (by rw [HDL.out]; exact hown5) hgrow5 HGL.out HPS.out)
      rw [← HTK.out] at HT5
      clear hown5 hgrow5 c0 c1 c2 c3 c4 c5 c6 c7 c8
      go_wp2
      go_roundg (L - (k + 1))
      case measure => omega
      case rel => exact ⟨k + 1, by go_num, by omega, by omega, HT5.out⟩
    · have hd : decide ((k : Int) < (L : Int)) = false := decide_eq_false (by omega)
      have hd2 : decide (k < L) = false := decide_eq_false hlt
      have hkL : k = L := by omega
      have HTK := Lib.hid (show qs.take k = qs by rw [hkL, ← HLL.out, List.take_length])
      rw [HTK.out] at HTI
      clear hkL hlt
      go_wp2
      go_ret
      exact ⟨_, rfl, by have := HTI.out.own.mono HL.out.size; rwa [HQS.out] at this, HTI.out.env, HL.out.trans (HTI.out.low.mono HL.out.size)⟩

end Go.Proofs.YtcbolipiaflfbaaGreatDoor.Num

/- package fmoney: IRR over its argument, where one change of sign is found. Conditions: what the small functions give. -/
namespace Go.Proofs.YtcbolipiaflfbaaGreatDoor.Num.Fy
open Go.RowKit Go.Lib Num

/-- what stays in irr: the result's block, the variables' blocks, the row -/
structure IrrI (W : World) (b gF M cap B3 B5 : Nat) (qs : List Rat) (sd : Int) (wx : World) : Prop where
  h2 : wx.heap[W.heap.size]? = some (.cells #[.string { data := #[] }, .string { data := #[] }] 24 (0, 0))
  h3 : wx.heap[B3]? = some (.cells #[.slice (some ⟨gF, 0, none⟩) M cap] 141 (0, 0))
  h5 : wx.heap[B5]? = some (.cells #[.int .i64 sd] 3 (0, 0))
  row : FracsAt wx gF qs
  g : W.grownBy wx (some b)
theorem IrrI.step {W wx w' : World} {b gF M cap B3 B5 : Nat} {qs : List Rat} {sd : Int} (h : IrrI W b gF M cap B3 B5 qs sd wx) (hb : Below wx.heap.size wx w') : IrrI W b gF M cap B3 B5 qs sd w' :=
  ⟨keep_block h.h2 hb, keep_block h.h3 hb, keep_block h.h5 hb, h.row.below hb, kept_trans h.g (kept_below hb)⟩
theorem IrrI.store {W wx : World} {b gF M cap B3 B5 : Nat} {qs : List Rat} {sd sd' : Int} (h : IrrI W b gF M cap B3 B5 qs sd wx) (h1 : W.heap.size < B3) (h2 : B3 < B5) (h3 : gF < B3) : IrrI W b gF M cap B3 B5 qs sd' (wx.setCell ⟨B5, 0, none⟩ (.int .i64 sd')) := by
  have ho : ∀ k, k ≠ B5 → (wx.setCell ⟨B5, 0, none⟩ (.int .i64 sd')).heap[k]? = wx.heap[k]? := fun k hk => Below.heap_setCell _ ⟨B5, 0, none⟩ _ k hk
  refine ⟨(ho _ (by omega)).trans h.h2, (ho _ (by omega)).trans h.h3, ?_, ?_, below_only h.g ((Below.refl _ _).setCell (p := ⟨B5, 0, none⟩) (show W.heap.size ≤ B5 by omega) _)⟩
  · have := heap_setCell_at h.h5 0 (.int .i64 sd')
    rw [this]; rfl
  · intro i hi
    have := h.row i hi
    simp only [World.cell?] at this ⊢
    rw [ho gF (by omega)]
    exact this

set_option linter.unusedSimpArgs false in
set_option linter.unusedVariables false in
set_option maxHeartbeats 8000000 in
set_option maxRecDepth 100000 in
theorem fy_irr (qs : List Rat) (sgn ch sd : Nat → Int) (gd : Int → Bool) (n0 : Int) (q : Rat) (b g C gi Ci : Nat) (r : Int) (W : World) (ha : ArgsAt W b (some ⟨g, 0, none⟩) 1 C 0) (hne : g ≠ b) (hgi : gi ≠ b)
    (hc : CellsAt W g (0 + 0 * 9) (.int .i64 5) (.string { data := #[] }) (.string { data := #[] }) (.string { data := #[] }) (.bool false) (.int .i64 0) (.int .i64 1) (.int .i64 r) (.slice (some ⟨gi, 0, none⟩) qs.length Ci)) (h0 : 0 < qs.length) (h9 : qs.length ≤ 30)
    (hv : ValsAt W gi 0 (numVals qs)) (hE : EnvY W) (hP : Past b)
    (hsg : ∀ (k : Nat) (h : k < qs.length), Fun1 256 (fracV qs[k]) (.int .i64 (sgn k)))
    (hst : ∀ k : Nat, k < qs.length → (sgn k = 0 ∧ ch (k + 1) = ch k ∧ sd (k + 1) = sd k) ∨ (sgn k ≠ 0 ∧ sd (k + 1) = sgn k ∧ ((sd k = -sgn k ∧ ch (k + 1) = ch k + 1) ∨ (sd k ≠ -sgn k ∧ ch (k + 1) = ch k))))
    (hbd : ∀ k : Nat, -1 ≤ sgn k ∧ sgn k ≤ 1 ∧ 0 ≤ ch k ∧ ch k ≤ 1000) (hc0 : ch 0 = 0) (hs0 : sd 0 = 0) (hcl : ch qs.length = 1) (hsl : sd qs.length = 1)
    (hgd : ∀ (n : Int) (W' : World) (gF cap B3 B5 : Nat), -999999 ≤ n → n ≤ 1000000000 → W'.heap[B3]? = some (.cells #[.slice (some ⟨gF, 0, none⟩) qs.length cap] 141 (0, 0)) → W'.heap[B5]? = some (.cells #[.int .i64 1] 3 (0, 0)) → FracsAt W' gF qs → EnvY W' →
      Calls Tryz.prog 261 #[.int .i64 n, .pointer (some ⟨B3, 0, none⟩), .pointer (some ⟨B5, 0, none⟩)] W' fun e w' => e = .returned (.bool (gd n)) ∧ Below W'.heap.size W' w')
    (hlo : gd (-999999) = true) (hhi : gd 1000000000 = false) (hu : ∀ n, -999999 ≤ n → n < 1000000000 → gd n = true → gd (n + 1) = false → n = n0)
    (hR : Fun2 18 (.int .i64 n0) (.int .i64 1000000) (.tuple #[fracV q, .int .i64 0])) :
    Calls Tryz.prog 127 #[.pointer (some ⟨b, 0, none⟩)] W fun e w' => e = .returned (fracV q) ∧ W.grownBy w' (some b) := by
  obtain ⟨M, hM⟩ : ∃ M, qs.length = M := ⟨_, rfl⟩
  have TV := Lib.hid (fun W' a c => value_any b g 0 1 C 0 5 { data := #[] } { data := #[] } { data := #[] } false 0 1 r (some ⟨gi, 0, none⟩) qs.length Ci W' a (by decide) (by decide) hne c)
  have TI := Lib.hid (fun W' hv hE => inside_arr qs 1 r gi Ci W' (by omega) h0 hv hE)
  have TR := Lib.hid hR
  have TM := Lib.hid (fun W => must_ok q W)
  rw [fracV_is q] at TR TM ⊢
  unfold Fun2 at TR
  have HSG := Lib.hid hsg
  have HST := Lib.hid hst
  have HGD := Lib.hid hgd
  have HLO := Lib.hid hlo
  have HHI := Lib.hid hhi
  have HU := Lib.hid hu
  have HBD := Lib.hid hbd
  have HC0 := Lib.hid hc0
  have HS0 := Lib.hid hs0
  rw [hM] at TV TI hcl hsl h0 h9 hc HST HGD
  have HCL := Lib.hid hcl
  have HSL := Lib.hid hsl
  have HM := Lib.hid hM
  have hgl : gi < W.heap.size := cell_lt (hv.at 0 (by rw [numVals_len]; omega)).1
  have hb : Below W.heap.size W (W.alloc (.cells #[.string { data := #[] }, .string { data := #[] }] 24)) := (Below.refl _ _).alloc (Nat.le_refl _) _
  have HA := Lib.hid (show ArgsAt (W.alloc (.cells #[.string { data := #[] }, .string { data := #[] }] 24)) b (some ⟨g, 0, none⟩) 1 C 0 from keep_block ha hb)
  have HCE := Lib.hid (CellsAt.below hc hb)
  have HV := Lib.hid (hv.below hb)
  have H2 := Lib.hid (heap_alloc_new W (.cells #[.string { data := #[] }, .string { data := #[] }] 24))
  have HE := Lib.hid (hE.below hb)
  have HE0 := Lib.hid hE
  have HP := Lib.hid hP
  have HG := Lib.hid (kept_below (b := b) hb)
  have NE := Lib.hid (show W.heap.size ≠ b from Nat.ne_of_gt (heap_lt ha))
  have HGI := Lib.hid hgi
  have HGL := Lib.hid (show gi < (W.alloc (.cells #[.string { data := #[] }, .string { data := #[] }] 24)).heap.size by rw [World.size_alloc]; omega)
  clear hR hsg hst hgd hlo hhi hu hbd hc0 hs0 hcl hsl hM ha hc hv hE hP hgi hgl hb
  go_enter Tryz.func127, Tryz.ntmps127
  go_wp2_with fail
  refine (TV.out _ HA.out HCE.out).mono ?_
  rintro e W1 ⟨rfl, ha, hg⟩
  replace HV := Lib.hid (vals_other HV.out (hg.block gi HGL.out (fun e => HGI.out (Option.some.inj e))))
  replace H2 := Lib.hid (kept_block H2.out hg NE.out)
  replace HE := Lib.hid (HE.out.kept hg HP.out)
  replace HG := Lib.hid (kept_trans HG.out hg)
  clear ha hg HA HCE
  go_wp2_with fail
  refine (TI.out _ HV.out HE.out.e).mono ?_
  rintro e W2 ⟨fv, rfl, hown, hE2, hb⟩
  obtain ⟨gF, cap, rfl, hgF, hcap, hfr⟩ := hown.at (by rw [HM.out]; exact h0)
  rw [HM.out]
  replace H2 := Lib.hid (keep_block H2.out hb)
  replace HG := Lib.hid (kept_trans HG.out (kept_below hb))
  have hlt2 := heap_lt H2.out
  have hltF : gF < W2.heap.size := cell_lt (hfr 0 (by rw [HM.out]; exact h0)).1
  have hb3 : Below W2.heap.size W2 ((W2.alloc (.cells #[.slice (some ⟨gF, 0, none⟩) M cap] 141)).alloc (.cells #[.int .i64 0] 3)) := ((Below.refl _ _).alloc (Nat.le_refl _) _).alloc (by simp) _
  have HI := Lib.hid (show IrrI W b gF M cap W2.heap.size (W2.heap.size + 1) qs 0 ((W2.alloc (.cells #[.slice (some ⟨gF, 0, none⟩) M cap] 141)).alloc (.cells #[.int .i64 0] 3)) from
    ⟨keep_block H2.out hb3, new_keep (heap_alloc_new W2 _), by have h := heap_alloc_new (W2.alloc (.cells #[.slice (some ⟨gF, 0, none⟩) M cap] 141)) (.cells #[.int .i64 0] 3); rw [World.size_alloc] at h; exact h, hfr.below hb3, kept_trans HG.out (kept_below hb3)⟩)
  obtain ⟨B3, hB3⟩ : ∃ B, W2.heap.size = B := ⟨_, rfl⟩
  have h3f : gF < B3 := by omega
  have h23 : W.heap.size < B3 := by omega
  obtain ⟨B5, hB5⟩ : ∃ B, B3 + 1 = B := ⟨_, rfl⟩
  have h35 : B3 < B5 := by omega
  obtain ⟨W3, hW3⟩ : ∃ Z, (W2.alloc (.cells #[.slice (some ⟨gF, 0, none⟩) M cap] 141)).alloc (.cells #[.int .i64 0] 3) = Z := ⟨_, rfl⟩
  rw [hB3, hB5, hW3] at HI
  have x0 := Lib.cell_of_heap (heap_alloc_new W2 (.cells #[.slice (some ⟨gF, 0, none⟩) M cap] 141)) 0
  have EW := Lib.hid hW3
  have E3 := Lib.hid hB3
  have E5 := Lib.hid hB5
  have TW := Lib.hid (fun W => y_within (M : Int) 0 30 W (by omega) (by omega))
  have HN := Lib.hid (And.intro h3f (And.intro h23 h35))
  clear hown hfr hb hb3 hE2 hgF hcap H2 HG HE HV hlt2 hltF hB3 hB5 hW3 h3f h23 h35
  go_wp2_with fail
  refine (TW.out _).mono ?_
  rintro e W4 ⟨rfl, hws⟩
  replace hws := hws.symm
  subst hws
  go_wp2_with fail
  clear x0
  rw [EW.out, E3.out, E5.out]
  go_loopg [4, 21] M (fun gh v4 v21 wx => ∃ k : Nat, v4 = .int .i64 (ch k) ∧ v21 = .int .i64 ((k : Nat) : Int) ∧ k ≤ M ∧ gh = M - k ∧ IrrI W b gF M cap B3 B5 qs (sd k) wx)
  case atStart => exact ⟨0, by rw [HC0.out], rfl, Nat.zero_le _, rfl, by rw [HS0.out]; exact HI.out⟩
  case round =>
    clear HI EW E3 E5
    obtain ⟨k, rfl, rfl, hk, rfl, hti⟩ := hrel
    have HTI := Lib.hid hti
    clear hti
    by_cases hlt : k < M
    · have hd : decide ((k : Int) < (M : Int)) = true := decide_eq_true (by omega)
      have hd2 : decide (k < M) = true := decide_eq_true hlt
      have hkq : k < qs.length := by rw [HM.out]; exact hlt
      obtain ⟨x, hx⟩ : ∃ x, qs[k] = x := ⟨_, rfl⟩
      have hcell := HTI.out.row k hkq
      have TS := Lib.hid (HSG.out k hkq)
      rw [hx] at hcell TS
      rw [fracV_is x] at TS
      unfold Fun1 at TS
      obtain ⟨hb0, hb1, hb2, hb3⟩ := HBD.out k
      have hst := HST.out k hlt
      obtain ⟨n, hn⟩ : ∃ n, sgn k = n := ⟨_, rfl⟩
      rw [hn] at TS hst hb0 hb1
      obtain ⟨ck, hck⟩ : ∃ n, ch k = n := ⟨_, rfl⟩
      obtain ⟨sk, hsk⟩ : ∃ n, sd k = n := ⟨_, rfl⟩
      rw [hck] at hst hb2 hb3
      rw [hsk] at hst HTI
      have HCK := Lib.hid hck
      rw [HCK.out]
      have hwn : IntKind.i64.wrap (-n) = -n := IntWalk.i64_in _ (by omega)
      have hwc : IntKind.i64.wrap (ck + 1) = ck + 1 := IntWalk.i64_in _ (by omega)
      have hi0 : (0 : Int) ≤ (k : Int) := by omega
      have hi1 : (k : Int) < (M : Int) := by omega
      have HSTK := Lib.hid hst
      obtain ⟨c0, c1⟩ := hcell
      clear hx hn hck hsk hst hkq hb2 hb3
      go_wp2_with fail
      have hbx : Below wr.heap.size wr (wr.alloc (.cells #[.string (numS x), .string (denS x)] 24)) := (Below.refl _ _).alloc (Nat.le_refl _) _
      replace HTI := Lib.hid (HTI.out.step hbx)
      refine (TS.out _ (HE0.out.kept HTI.out.g HP.out)).mono ?_
      rintro e W5 ⟨rfl, hb⟩
      replace HTI := Lib.hid (HTI.out.step hb)
      clear hb hbx c0 c1
      by_cases hz : n = 0
      · subst hz
        have hst := HSTK.out
        have hs : ch (k + 1) = ck ∧ sd (k + 1) = sk := by
          rcases hst with ⟨_, h2, h3⟩ | ⟨h1, _⟩
          · exact ⟨h2, h3⟩
          · exact absurd rfl h1
        clear hst
        have HS1 := Lib.hid hs
        clear hs
        go_wp2
        go_roundg (M - (k + 1))
        case measure => omega
        case rel => exact ⟨k + 1, by rw [HS1.out.1], by go_num, by omega, rfl, by rw [HS1.out.2]; exact HTI.out⟩
      · have hnz : (n != 0) = true := by simpa using hz
        have x5 := Lib.cell_of_heap HTI.out.h5 0
        have f5 := Lib.frozen_of_heap HTI.out.h5 0
        have hst := HSTK.out
        have HTS := Lib.hid (HTI.out.store (sd' := n) HN.out.2.1 HN.out.2.2 HN.out.1)
        by_cases he : sk = -n
        · have hs : ch (k + 1) = ck + 1 ∧ sd (k + 1) = n := by
            rcases hst with ⟨h1, _⟩ | ⟨_, h2, ⟨_, h3⟩ | ⟨h3, _⟩⟩
            · exact absurd h1 hz
            · exact ⟨h3, h2⟩
            · exact absurd he h3
          have HS1 := Lib.hid hs
          have heq : ((sk : Int) == -n) = true := by simpa using he
          clear hs hst
          go_wp2
          go_roundg (M - (k + 1))
          case measure => omega
          case rel => exact ⟨k + 1, by rw [HS1.out.1], by go_num, by omega, rfl, by rw [HS1.out.2]; exact HTS.out⟩
        · have hs : ch (k + 1) = ck ∧ sd (k + 1) = n := by
            rcases hst with ⟨h1, _⟩ | ⟨_, h2, ⟨h3, _⟩ | ⟨_, h3⟩⟩
            · exact absurd h1 hz
            · exact absurd h3 he
            · exact ⟨h3, h2⟩
          have HS1 := Lib.hid hs
          have heq : ((sk : Int) == -n) = false := beq_eq_false_iff_ne.2 he
          clear hs hst
          go_wp2
          go_roundg (M - (k + 1))
          case measure => omega
          case rel => exact ⟨k + 1, by rw [HS1.out.1], by go_num, by omega, rfl, by rw [HS1.out.2]; exact HTS.out⟩
    · have hd : decide ((k : Int) < (M : Int)) = false := decide_eq_false (by omega)
      have hd2 : decide (k < M) = false := decide_eq_false hlt
      have hkM : k = M := by omega
      subst hkM
      rw [HSL.out] at HTI
      have TW1 := Lib.hid (fun W => y_within 1 1 1 W (by decide) (by decide))
      have hmf : ∀ (fn : Fn) (first cap : Array Value) (w : World), (Instr.makeFunc fn first cap).run Tryz.prog w = .ok (.func fn first cap) w := fun _ _ _ _ => rfl
      have hnot : ∀ (x : Bool) (w : World), (Op.unary .not (.bool x)).run Tryz.prog w = .ok (.bool (!x)) w := fun _ _ => rfl
      have TG := Lib.hid (fun (n : Int) (W' : World) (h0 : -999999 ≤ n) (h1 : n ≤ 1000000000) (hI : IrrI W b gF k cap B3 B5 qs 1 W') => HGD.out n W' gF cap B3 B5 h0 h1 hI.h3 hI.h5 hI.row (HE0.out.kept hI.g HP.out))
      rw [HCL.out]
      clear hlt hk
      go_wp2_with fail
      refine (TW1.out _).mono ?_
      rintro e W6 ⟨rfl, hws⟩
      replace hws := hws.symm
      subst hws
      go_wp2_with fail
      refine (TG.out _ _ (by decide) (by decide) HTI.out).mono ?_
      rintro e W7 ⟨rfl, hb⟩
      replace HTI := Lib.hid (HTI.out.step hb)
      clear hb
      rw [HLO.out]
      go_wp2_with fail
      refine (TG.out _ _ (by decide) (by decide) HTI.out).mono ?_
      rintro e W8 ⟨rfl, hb⟩
      replace HTI := Lib.hid (HTI.out.step hb)
      clear hb
      rw [HHI.out]
      go_wp2_with fail
      go_loopg [10, 11] 1000999999 (fun gh v10 v11 wx => ∃ lo hi : Int, v10 = .int .i64 lo ∧ v11 = .int .i64 hi ∧ -999999 ≤ lo ∧ lo < hi ∧ hi ≤ 1000000000 ∧ gd lo = true ∧ gd hi = false ∧ gh = (hi - lo).toNat ∧ IrrI W b gF k cap B3 B5 qs 1 wx)
      case atStart => exact ⟨-999999, 1000000000, rfl, rfl, by decide, by decide, by decide, HLO.out, HHI.out, rfl, HTI.out⟩
      case round =>
        clear HTI
        obtain ⟨lo, hi, rfl, rfl, hlo0, hlh, hhi, hglo, hghi, rfl, hI⟩ := hrel
        have HTI := Lib.hid hI
        have HGLO := Lib.hid hglo
        have HGHI := Lib.hid hghi
        clear hI hglo hghi
        by_cases hlt : 1 < hi - lo
        · have dd : decide (1 < hi - lo) = true := decide_eq_true hlt
          obtain ⟨m, hm⟩ : ∃ m, (lo + hi).tdiv 2 = m := ⟨_, rfl⟩
          have hm0 : lo < m ∧ m < hi := by
            rw [← hm]
            by_cases hs : 0 ≤ lo + hi
            · rw [Int.tdiv_eq_ediv_of_nonneg hs]; omega
            · have h2 : (lo + hi).tdiv 2 = -((-(lo + hi)).tdiv 2) := by rw [Int.neg_tdiv, Int.neg_neg]
              rw [h2, Int.tdiv_eq_ediv_of_nonneg (by omega)]; omega
          have HM2 := Lib.hid hm
          obtain ⟨gm, hgm⟩ : ∃ z, gd m = z := ⟨_, rfl⟩
          have TM2 := Lib.hid (fun W' h => TG.out m W' (by omega) (by omega) h)
          rw [hgm] at TM2
          have HGM := Lib.hid hgm
          clear hm hgm
          go_wp2_with fail
          simp only [HM2.out]
          refine (TM2.out _ HTI.out).mono ?_
          rintro e w2 ⟨rfl, hb⟩
          replace HTI := Lib.hid (HTI.out.step hb)
          clear hb
          cases gm
          · go_wp2
            go_roundg (m - lo).toNat
            case measure => omega
            case rel => exact ⟨lo, m, rfl, rfl, hlo0, hm0.1, by omega, HGLO.out, HGM.out, rfl, HTI.out⟩
          · go_wp2
            go_roundg (hi - m).toNat
            case measure => omega
            case rel => exact ⟨m, hi, rfl, rfl, by omega, hm0.2, hhi, HGM.out, HGHI.out, rfl, HTI.out⟩
        · have dd : decide (1 < hi - lo) = false := decide_eq_false hlt
          have hde : lo = n0 := HU.out lo hlo0 (by omega) HGLO.out (by rw [show lo + 1 = hi by omega]; exact HGHI.out)
          subst hde
          clear hlt
          go_wp2_with fail
          refine (TR.out _ (HE0.out.kept HTI.out.g HP.out)).mono ?_
          rintro e w2 ⟨rfl, hb⟩
          replace HTI := Lib.hid (HTI.out.step hb)
          clear hb
          go_wp2_with fail
          refine (TM.out _).mono ?_
          rintro e w3 ⟨rfl, hb⟩
          replace HTI := Lib.hid (HTI.out.step hb)
          clear hb
          obtain ⟨⟨r0, r1⟩, g0, g1⟩ := two_at HTI.out.h2
          have HF := Lib.hid (set2_at HTI.out.h2 (.string (numS q)) (.string (denS q)))
          have HG2 := Lib.hid (kept2 HTI.out.g (Nat.le_refl _) (.string (numS q)) (.string (denS q)))
          obtain ⟨⟨z0, z1⟩, _⟩ := two_at HF.out
          go_wp2
          refine bodyPost_ret (v := .agg #[.string (numS q), .string (denS q)]) (by simp [results, Tryz.results127, go_sem, z0, z1]) rfl ⟨rfl, HG2.out⟩
end Go.Proofs.YtcbolipiaflfbaaGreatDoor.Num.Fy
