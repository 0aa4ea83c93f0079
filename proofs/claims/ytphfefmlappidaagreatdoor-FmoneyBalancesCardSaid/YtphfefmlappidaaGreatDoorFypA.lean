/- Numbers as texts of digits, fractions, values and the functions of fmath: contracts of the program's functions, joined from smaller texts. Conditions stand at each theorem. -/
import Derived.Test.YtphfefmlappidaaGreatDoorFyaB
import Derived.Test.YtphfefmlappidaaGreatDoorFyaA

/- package fmoney: interest and principal of a payment; FV, PV, PMT, IPMT, PPMT over their arguments. Conditions: what the small functions give. -/
namespace Go.Proofs.YtphfefmlappidaaGreatDoor.Num.Fy
open Go.RowKit Go.Lib Num

attribute [local irreducible] wpOp
set_option linter.unusedVariables false in
/-- what the operations of region 1 yield -/
def part_e0Ks1 (r v w0 g s p zz ii qq gk sk f : Rat) (n k : Int) : List RK :=
  [.pure (.agg #[.string (numS r), .string (denS r)]),
   .pure (.int .i64 n),
   .pure (.int .i64 0),
   .pure (.agg #[.string (numS r), .string (denS r), .string (numS g), .string (denS g), .string (numS s), .string (denS s)]),
   .pure (.agg #[.string (numS v), .string (denS v)]),
   .pure (.agg #[.string (numS w0), .string (denS w0)]),
   .pure (.agg #[.string (numS p), .string (denS p)]),
   .box none #[.string { data := #[] }, .string { data := #[] }] #[.string (numS p), .string (denS p)] 23 8,
   .put 7]
set_option linter.unusedVariables false in
/-- what the operations of region 4 yield -/
def part_e0Ks4 (r v w0 g s p zz ii qq gk sk f : Rat) (n k : Int) (W : World) (b14 B15 : Nat) : List RK :=
  [.pure (.agg #[.string (numS r), .string (denS r)]),
   .pure (.int .i64 k),
   .pure (.int .i64 (k - 1)),
   .pure (.int .i64 0),
   .pure (.agg #[.string (numS r), .string (denS r), .string (numS gk), .string (denS gk), .string (numS sk), .string (denS sk)]),
   .pure (.agg #[.string (numS p), .string (denS p)]),
   .pure (.agg #[.string (numS v), .string (denS v)]),
   .pure (.agg #[.string (numS f), .string (denS f)]),
   .pure (.agg #[.string (numS r), .string (denS r)]),
   .pure (.agg #[.string (numS ii), .string (denS ii)]),
   .put 17,
   .box (some (W.heap.size)) #[.string (numS r), .string (denS r)] #[.string (numS r), .string (denS r)] 23 18,
   .box (some (W.heap.size + 1)) #[.string (numS v), .string (denS v)] #[.string (numS v), .string (denS v)] 23 18,
   .box (some (W.heap.size + 2)) #[.string (numS w0), .string (denS w0)] #[.string (numS w0), .string (denS w0)] 23 18,
   .box (some (W.heap.size + 3)) #[.string { data := #[] }, .string { data := #[] }] #[.string { data := #[] }, .string { data := #[] }] 23 18,
   .box (some (W.heap.size + 4)) #[.string { data := #[] }, .string { data := #[] }] #[.string { data := #[] }, .string { data := #[] }] 23 18,
   .box (some (b14)) #[.string (numS p), .string (denS p)] #[.string (numS p), .string (denS p)] 23 18,
   .box (some (B15)) #[.string (numS zz), .string (denS zz)] #[.string (numS ii), .string (denS ii)] 23 10]
set_option linter.unusedVariables false in
/-- what the operations of region 7 yield -/
def part_e0Ks7 (r v w0 g s p zz ii qq gk sk f : Rat) (n k : Int) (W : World) (b14 B15 : Nat) : List RK :=
  [.pure (.agg #[.string (numS ii), .string (denS ii)]),
   .pure (.agg #[.string (numS p), .string (denS p)]),
   .pure (.agg #[.string (numS ii), .string (denS ii)]),
   .pure (.agg #[.string (numS qq), .string (denS qq)]),
   .put 9,
   .put 10,
   .box (some (W.heap.size)) #[.string (numS r), .string (denS r)] #[.string (numS r), .string (denS r)] 23 13,
   .box (some (W.heap.size + 1)) #[.string (numS v), .string (denS v)] #[.string (numS v), .string (denS v)] 23 13,
   .box (some (W.heap.size + 2)) #[.string (numS w0), .string (denS w0)] #[.string (numS w0), .string (denS w0)] 23 13,
   .box (some (W.heap.size + 3)) #[.string { data := #[] }, .string { data := #[] }] #[.string (numS ii), .string (denS ii)] 23 4,
   .box (some (W.heap.size + 4)) #[.string { data := #[] }, .string { data := #[] }] #[.string (numS qq), .string (denS qq)] 23 5,
   .box (some (b14)) #[.string (numS p), .string (denS p)] #[.string (numS p), .string (denS p)] 23 13,
   .box (some (B15)) #[.string (numS ii), .string (denS ii)] #[.string (numS ii), .string (denS ii)] 23 13]
set_option linter.unusedSimpArgs false in
set_option linter.unusedVariables false in
set_option maxHeartbeats 4000000 in
set_option maxRecDepth 100000 in
theorem part_e0 (r v w0 g s p zz ii qq gk sk f : Rat) (n k : Int) (W : World) (hk0 : 0 ≤ k)
    (hk1 : k ≤ 1000000)
    (c0 : Fun3 87 (.agg #[.string (numS r), .string (denS r)]) (.int .i64 n) (.int .i64 0) (.agg #[.string (numS r), .string (denS r), .string (numS g), .string (denS g), .string (numS s), .string (denS s)]))
    (c1 : Fun3 95 (.agg #[.string (numS r), .string (denS r), .string (numS g), .string (denS g), .string (numS s), .string (denS s)]) (.agg #[.string (numS v), .string (denS v)]) (.agg #[.string (numS w0), .string (denS w0)]) (.agg #[.string (numS p), .string (denS p)]))
    (c2 : Fun1 49 (.int .i64 0) (.agg #[.string (numS zz), .string (denS zz)]))
    (c3 : Fun3 87 (.agg #[.string (numS r), .string (denS r)]) (.int .i64 (k - 1)) (.int .i64 0) (.agg #[.string (numS r), .string (denS r), .string (numS gk), .string (denS gk), .string (numS sk), .string (denS sk)]))
    (c4 : Fun3 88 (.agg #[.string (numS r), .string (denS r), .string (numS gk), .string (denS gk), .string (numS sk), .string (denS sk)]) (.agg #[.string (numS p), .string (denS p)]) (.agg #[.string (numS v), .string (denS v)]) (.agg #[.string (numS f), .string (denS f)]))
    (c5 : Fun2 93 (.agg #[.string (numS f), .string (denS f)]) (.agg #[.string (numS r), .string (denS r)]) (.agg #[.string (numS ii), .string (denS ii)]))
    (c6 : Fun2 107 (.agg #[.string (numS p), .string (denS p)]) (.agg #[.string (numS ii), .string (denS ii)]) (.agg #[.string (numS qq), .string (denS qq)])) (hE : EnvY W) :
    Calls Tryz.prog 213 #[.agg #[.string (numS r), .string (denS r)], .int .i64 k, .int .i64 n, .agg #[.string (numS v), .string (denS v)], .agg #[.string (numS w0), .string (denS w0)], .int .i64 0] W fun e w' => e = .returned (.tuple #[.agg #[.string (numS ii), .string (denS ii)], .agg #[.string (numS qq), .string (denS qq)]]) ∧ Below W.heap.size W w' := by
  have Qc0 := Lib.hid c0
  have Qc1 := Lib.hid c1
  have Qc2 := Lib.hid c2
  have Qc3 := Lib.hid c3
  have Qc4 := Lib.hid c4
  have Qc5 := Lib.hid c5
  have Qc6 := Lib.hid c6
  unfold Fun1 at Qc2
  unfold Fun2 at Qc5 Qc6
  unfold Fun3 at Qc0 Qc1 Qc3 Qc4
  have hwk : IntKind.i64.wrap (k - 1) = k - 1 := IntWalk.i64_in _ (by omega)
  have HE0 := Lib.hid hE
  have HG := Lib.hid (show Below W.heap.size W (((((W.alloc (.cells #[.string (numS r), .string (denS r)] 23)).alloc (.cells #[.string (numS v), .string (denS v)] 23)).alloc (.cells #[.string (numS w0), .string (denS w0)] 23)).alloc (.cells #[.string { data := #[] }, .string { data := #[] }] 23)).alloc (.cells #[.string { data := #[] }, .string { data := #[] }] 23)) from ((((((Below.refl _ _).alloc (Nat.le_refl _) _).alloc (by simp only [World.size_alloc]; omega) _).alloc (by simp only [World.size_alloc]; omega) _).alloc (by simp only [World.size_alloc]; omega) _).alloc (by simp only [World.size_alloc]; omega) _))
  have H6 : Hid ((((((W.alloc (.cells #[.string (numS r), .string (denS r)] 23)).alloc (.cells #[.string (numS v), .string (denS v)] 23)).alloc (.cells #[.string (numS w0), .string (denS w0)] 23)).alloc (.cells #[.string { data := #[] }, .string { data := #[] }] 23)).alloc (.cells #[.string { data := #[] }, .string { data := #[] }] 23)).heap[W.heap.size]? = some (.cells #[.string (numS r), .string (denS r)] 23 (0, 0))) := Lib.hid (by
    have h := heap_alloc_new W (.cells #[.string (numS r), .string (denS r)] 23)
    exact new_keep (new_keep (new_keep (new_keep (h)))))
  have H9 : Hid ((((((W.alloc (.cells #[.string (numS r), .string (denS r)] 23)).alloc (.cells #[.string (numS v), .string (denS v)] 23)).alloc (.cells #[.string (numS w0), .string (denS w0)] 23)).alloc (.cells #[.string { data := #[] }, .string { data := #[] }] 23)).alloc (.cells #[.string { data := #[] }, .string { data := #[] }] 23)).heap[W.heap.size + 1]? = some (.cells #[.string (numS v), .string (denS v)] 23 (0, 0))) := Lib.hid (by
    have h := heap_alloc_new (W.alloc (.cells #[.string (numS r), .string (denS r)] 23)) (.cells #[.string (numS v), .string (denS v)] 23)
    simp only [World.size_alloc] at h
    exact new_keep (new_keep (new_keep (h))))
  have H10 : Hid ((((((W.alloc (.cells #[.string (numS r), .string (denS r)] 23)).alloc (.cells #[.string (numS v), .string (denS v)] 23)).alloc (.cells #[.string (numS w0), .string (denS w0)] 23)).alloc (.cells #[.string { data := #[] }, .string { data := #[] }] 23)).alloc (.cells #[.string { data := #[] }, .string { data := #[] }] 23)).heap[W.heap.size + 2]? = some (.cells #[.string (numS w0), .string (denS w0)] 23 (0, 0))) := Lib.hid (by
    have h := heap_alloc_new ((W.alloc (.cells #[.string (numS r), .string (denS r)] 23)).alloc (.cells #[.string (numS v), .string (denS v)] 23)) (.cells #[.string (numS w0), .string (denS w0)] 23)
    simp only [World.size_alloc] at h
    exact new_keep (new_keep (h)))
  have H12 : Hid ((((((W.alloc (.cells #[.string (numS r), .string (denS r)] 23)).alloc (.cells #[.string (numS v), .string (denS v)] 23)).alloc (.cells #[.string (numS w0), .string (denS w0)] 23)).alloc (.cells #[.string { data := #[] }, .string { data := #[] }] 23)).alloc (.cells #[.string { data := #[] }, .string { data := #[] }] 23)).heap[W.heap.size + 3]? = some (.cells #[.string { data := #[] }, .string { data := #[] }] 23 (0, 0))) := Lib.hid (by
    have h := heap_alloc_new (((W.alloc (.cells #[.string (numS r), .string (denS r)] 23)).alloc (.cells #[.string (numS v), .string (denS v)] 23)).alloc (.cells #[.string (numS w0), .string (denS w0)] 23)) (.cells #[.string { data := #[] }, .string { data := #[] }] 23)
    simp only [World.size_alloc] at h
    exact new_keep (h))
  have H13 : Hid ((((((W.alloc (.cells #[.string (numS r), .string (denS r)] 23)).alloc (.cells #[.string (numS v), .string (denS v)] 23)).alloc (.cells #[.string (numS w0), .string (denS w0)] 23)).alloc (.cells #[.string { data := #[] }, .string { data := #[] }] 23)).alloc (.cells #[.string { data := #[] }, .string { data := #[] }] 23)).heap[W.heap.size + 4]? = some (.cells #[.string { data := #[] }, .string { data := #[] }] 23 (0, 0))) := Lib.hid (by
    have h := heap_alloc_new ((((W.alloc (.cells #[.string (numS r), .string (denS r)] 23)).alloc (.cells #[.string (numS v), .string (denS v)] 23)).alloc (.cells #[.string (numS w0), .string (denS w0)] 23)).alloc (.cells #[.string { data := #[] }, .string { data := #[] }] 23)) (.cells #[.string { data := #[] }, .string { data := #[] }] 23)
    simp only [World.size_alloc] at h
    exact h)
  obtain ⟨W0, hW0⟩ : ∃ Z, (((((W.alloc (.cells #[.string (numS r), .string (denS r)] 23)).alloc (.cells #[.string (numS v), .string (denS v)] 23)).alloc (.cells #[.string (numS w0), .string (denS w0)] 23)).alloc (.cells #[.string { data := #[] }, .string { data := #[] }] 23)).alloc (.cells #[.string { data := #[] }, .string { data := #[] }] 23)) = Z := ⟨_, rfl⟩
  rw [hW0] at HG H6 H9 H10 H12 H13
  have EW0 := Lib.hid hW0
  have HE := Lib.hid (HE0.out.below HG.out)
  clear hW0 hE c0 c1 c2 c3 c4 c5 c6 hk0 hk1
  go_enter Tryz.func213, Tryz.ntmps213
  have lt_6 := Lib.hid (heap_lt H6.out)
  have lt_9 := Lib.hid (heap_lt H9.out)
  have lt_10 := Lib.hid (heap_lt H10.out)
  have lt_12 := Lib.hid (heap_lt H12.out)
  have lt_13 := Lib.hid (heap_lt H13.out)
  have geW := Lib.hid HG.out.size
  go_wp2_with fail
  rw [EW0.out]
  have hok : okB 9 (part_e0Ks1 r v w0 g s p zz ii qq gk sk f n k) = true := by kernel_rfl
  have hna := noAny_of (ks := (part_e0Ks1 r v w0 g s p zz ii qq gk sk f n k)) (by kernel_rfl)
  have hla := lasts_of hna
  refine wp_region_facts (row := none) (w := W0) 9 (part_e0Ks1 r v w0 g s p zz ii qq gk sk f n k) [some 16, some 17, some 18, some 19, some 20, some 21, some 22, some 14, none] (by kernel_rfl) (by kernel_rfl) rfl [undef, undef, undef, undef, undef, undef, undef, undef, undef] ?h00 (Fs.start rfl rfl) ?hs ?hd
  case h00 => simp only [putO, layL]
  case hs =>
    rintro listed vs Wr hF i hi hun hpre
    obtain ⟨s0, s1, s2, s3, s4, s5, s6, s7, s8, hvs⟩ := exl_of 9 vs (fun l => vs = l) hF.len rfl
    subst hvs
    have hge := Nat.zero_le i
    simp only [putO, layL]
    rcases Nat.lt_or_ge i 4 with hlt | hgt
    · replace hi := hlt
      clear hlt
      rcases Nat.lt_or_ge i 2 with hlt | hgt
      · replace hi := hlt
        clear hlt
        rcases Nat.lt_or_ge i 1 with hlt | hgt
        · replace hi := hlt
          clear hlt
          obtain rfl := eqi hi hge
          have hcc := (two_at (keep_block H6.out (below_none hF.low))).1
          have cH60 := hcc.1
          have cH61 := hcc.2
          clear hcc
          refine step_of ⟨some 16, _, _, _, _, _⟩ rfl (fun K' hK => ?_)
          go_simp
          refine hK.out _ _ ⟨_, hF.pure hok hla hpre rfl (Below.refl _ _), ?fr⟩
          case fr => simp only [putO, layL]
        · replace hge : 1 ≤ i := hgt
          clear hgt
          obtain rfl := eqi hi hge
          refine step_of ⟨some 17, _, _, _, _, _⟩ rfl (fun K' hK => ?_)
          go_simp
          refine hK.out _ _ ⟨_, hF.pure hok hla hpre rfl (Below.refl _ _), ?fr⟩
          case fr => simp only [putO, layL]
      · replace hge : 2 ≤ i := hgt
        clear hgt
        rcases Nat.lt_or_ge i 3 with hlt | hgt
        · replace hi := hlt
          clear hlt
          obtain rfl := eqi hi hge
          refine step_of ⟨some 18, _, _, _, _, _⟩ rfl (fun K' hK => ?_)
          go_simp
          refine hK.out _ _ ⟨_, hF.pure hok hla hpre rfl (Below.refl _ _), ?fr⟩
          case fr => simp only [putO, layL]
        · replace hge : 3 ≤ i := hgt
          clear hgt
          obtain rfl := eqi hi hge
          have p0 := hpre 0 (by kernel_rfl)
          have e0 : s0 = .agg #[.string (numS r), .string (denS r)] := hF.get 0 _ rfl (.inr p0)
          subst e0
          have p1 := hpre 1 (by kernel_rfl)
          have e1 : s1 = .int .i64 n := hF.get 1 _ rfl (.inr p1)
          subst e1
          have p2 := hpre 2 (by kernel_rfl)
          have e2 : s2 = .int .i64 0 := hF.get 2 _ rfl (.inr p2)
          subst e2
          refine step_of ⟨some 19, _, _, _, _, _⟩ rfl (fun K' hK => ?_)
          go_simp
          go_at_call 87
          (with_reducible refine (Qc0.out _ (HE.out.below (below_none hF.low))).mono ?_)
          rintro e Wq ⟨rfl, hq⟩
          refine hK.out _ _ ⟨_, hF.pure hok hla hpre rfl hq, ?fr⟩
          case fr => simp only [putO, layL]
    · replace hge : 4 ≤ i := hgt
      clear hgt
      rcases Nat.lt_or_ge i 6 with hlt | hgt
      · replace hi := hlt
        clear hlt
        rcases Nat.lt_or_ge i 5 with hlt | hgt
        · replace hi := hlt
          clear hlt
          obtain rfl := eqi hi hge
          have hcc := (two_at (keep_block H9.out (below_none hF.low))).1
          have cH90 := hcc.1
          have cH91 := hcc.2
          clear hcc
          refine step_of ⟨some 20, _, _, _, _, _⟩ rfl (fun K' hK => ?_)
          go_simp
          refine hK.out _ _ ⟨_, hF.pure hok hla hpre rfl (Below.refl _ _), ?fr⟩
          case fr => simp only [putO, layL]
        · replace hge : 5 ≤ i := hgt
          clear hgt
          obtain rfl := eqi hi hge
          have hcc := (two_at (keep_block H10.out (below_none hF.low))).1
          have cH100 := hcc.1
          have cH101 := hcc.2
          clear hcc
          refine step_of ⟨some 21, _, _, _, _, _⟩ rfl (fun K' hK => ?_)
          go_simp
          refine hK.out _ _ ⟨_, hF.pure hok hla hpre rfl (Below.refl _ _), ?fr⟩
          case fr => simp only [putO, layL]
      · replace hge : 6 ≤ i := hgt
        clear hgt
        rcases Nat.lt_or_ge i 7 with hlt | hgt
        · replace hi := hlt
          clear hlt
          obtain rfl := eqi hi hge
          have p3 := hpre 3 (by kernel_rfl)
          have e3 : s3 = .agg #[.string (numS r), .string (denS r), .string (numS g), .string (denS g), .string (numS s), .string (denS s)] := hF.get 3 _ rfl (.inr p3)
          subst e3
          have p4 := hpre 4 (by kernel_rfl)
          have e4 : s4 = .agg #[.string (numS v), .string (denS v)] := hF.get 4 _ rfl (.inr p4)
          subst e4
          have p5 := hpre 5 (by kernel_rfl)
          have e5 : s5 = .agg #[.string (numS w0), .string (denS w0)] := hF.get 5 _ rfl (.inr p5)
          subst e5
          refine step_of ⟨some 22, _, _, _, _, _⟩ rfl (fun K' hK => ?_)
          go_simp
          go_at_call 95
          (with_reducible refine (Qc1.out _ (HE.out.below (below_none hF.low))).mono ?_)
          rintro e Wq ⟨rfl, hq⟩
          refine hK.out _ _ ⟨_, hF.pure hok hla hpre rfl hq, ?fr⟩
          case fr => simp only [putO, layL]
        · replace hge : 7 ≤ i := hgt
          clear hgt
          rcases Nat.lt_or_ge i 8 with hlt | hgt
          · replace hi := hlt
            clear hlt
            obtain rfl := eqi hi hge
            refine step_of ⟨some 14, _, _, _, _, _⟩ rfl (fun K' hK => ?_)
            go_simp
            refine hK.out _ _ ⟨_, hF.box hok hla hpre hun rfl, ?fr⟩
            case fr => simp only [putO, layL]
          · replace hge : 8 ≤ i := hgt
            clear hgt
            obtain rfl := eqi hi hge
            have p7 := hpre 7 (by kernel_rfl)
            obtain ⟨G, eG, _, hGl, hGB⟩ : ∃ G, s7 = .pointer (some ⟨G, 0, none⟩) ∧ (∀ k, none = some k → G = k) ∧ W0.heap.size ≤ G ∧ Wr.heap[G]? = some (.cells (if listed.getD 8 false = true then #[.string (numS p), .string (denS p)] else #[.string { data := #[] }, .string { data := #[] }]) 23 (0, 0)) := hF.get 7 _ rfl (.inr p7)
            subst eG
            rw [if_neg (bit_off hun)] at hGB
            have HGB := Lib.hid hGB
            clear hGB
            have p6 := hpre 6 (by kernel_rfl)
            have e6 : s6 = .agg #[.string (numS p), .string (denS p)] := hF.get 6 _ rfl (.inr p6)
            subst e6
            obtain ⟨⟨y0, y1⟩, g0, g1⟩ := two_at HGB.out
            refine step_of ⟨none, _, _, _, _, _⟩ rfl (fun K' hK => ?_)
            go_simp
            refine hK.out _ _ ⟨undef, hF.put hok hna hpre hun rfl undef rfl (.inr p7) rfl (set2_at HGB.out (.string (numS p)) (.string (denS p))) (fun k hk => set2_other _ _ (.string (numS p)) (.string (denS p)) hk) (put2_below hGl _ (.string (numS p)) (.string (denS p))), ?fr⟩
            case fr => simp only [putO, layL]
  case hd =>
    rintro listed vs WA hF hall
    obtain ⟨s0, s1, s2, s3, s4, s5, s6, s7, s8, hvs⟩ := exl_of 9 vs (fun l => vs = l) hF.len rfl
    subst hvs
    obtain ⟨b14, e7, _, gq, k7⟩ : ∃ G, s7 = .pointer (some ⟨G, 0, none⟩) ∧ (∀ k, none = some k → G = k) ∧ _ ≤ G ∧ WA.heap[G]? = some (.cells (if listed.getD 8 false = true then #[.string (numS p), .string (denS p)] else #[.string { data := #[] }, .string { data := #[] }]) 23 (0, 0)) := hF.get 7 _ rfl (.inr (hall 7 (by decide)))
    subst e7
    rw [if_pos (hall 8 (by decide))] at k7
    have H14 := Lib.hid k7
    clear k7
    have ge14 := Lib.hid gq
    clear gq
    have hq := below_none hF.low
    replace H6 := Lib.hid (keep_block H6.out hq)
    replace H9 := Lib.hid (keep_block H9.out hq)
    replace H10 := Lib.hid (keep_block H10.out hq)
    replace H12 := Lib.hid (keep_block H12.out hq)
    replace H13 := Lib.hid (keep_block H13.out hq)
    replace HE := Lib.hid (HE.out.below hq)
    replace HG := Lib.hid (HG.out.trans (hq.mono HG.out.size))
    clear hq
    clear hF hall hok hna hla
    simp only [putO, layL]
    have L14_6 : Hid (W.heap.size < b14) := Lib.hid (by have := lt_6.out; have := ge14.out; omega)
    have L14_9 : Hid (W.heap.size + 1 < b14) := Lib.hid (by have := lt_9.out; have := ge14.out; omega)
    have L14_10 : Hid (W.heap.size + 2 < b14) := Lib.hid (by have := lt_10.out; have := ge14.out; omega)
    have L14_12 : Hid (W.heap.size + 3 < b14) := Lib.hid (by have := lt_12.out; have := ge14.out; omega)
    have L14_13 : Hid (W.heap.size + 4 < b14) := Lib.hid (by have := lt_13.out; have := ge14.out; omega)
    have G14 : Hid (W.heap.size ≤ b14) := Lib.hid (by have := geW.out; have := ge14.out; omega)
    clear geW lt_6 lt_9 lt_10 lt_12 lt_13
    go_wp2_with fail
    refine (Qc2.out _ HE.out).mono ?_
    rintro e w1 ⟨rfl, hb⟩
    replace H6 := Lib.hid (keep_block H6.out hb)
    replace H9 := Lib.hid (keep_block H9.out hb)
    replace H10 := Lib.hid (keep_block H10.out hb)
    replace H12 := Lib.hid (keep_block H12.out hb)
    replace H13 := Lib.hid (keep_block H13.out hb)
    replace H14 := Lib.hid (keep_block H14.out hb)
    replace HE := Lib.hid (HE.out.below hb)
    replace HG := Lib.hid (HG.out.trans (hb.mono HG.out.size))
    clear hb
    have lt_6 := heap_lt H6.out
    have lt_9 := heap_lt H9.out
    have lt_10 := heap_lt H10.out
    have lt_12 := heap_lt H12.out
    have lt_13 := heap_lt H13.out
    have lt_14 := heap_lt H14.out
    have geW := HG.out.size
    have L15_6 : Hid (W.heap.size < w1.heap.size) := Lib.hid (by omega)
    have L15_9 : Hid (W.heap.size + 1 < w1.heap.size) := Lib.hid (by omega)
    have L15_10 : Hid (W.heap.size + 2 < w1.heap.size) := Lib.hid (by omega)
    have L15_12 : Hid (W.heap.size + 3 < w1.heap.size) := Lib.hid (by omega)
    have L15_13 : Hid (W.heap.size + 4 < w1.heap.size) := Lib.hid (by omega)
    have L15_14 : Hid (b14 < w1.heap.size) := Lib.hid (by omega)
    have G15 : Hid (W.heap.size ≤ w1.heap.size) := Lib.hid (by omega)
    have hb : Below w1.heap.size w1 (w1.alloc (.cells #[.string (numS zz), .string (denS zz)] 23)) := (Below.refl _ _).alloc (Nat.le_refl _) _
    replace H6 := Lib.hid (keep_block H6.out hb)
    replace H9 := Lib.hid (keep_block H9.out hb)
    replace H10 := Lib.hid (keep_block H10.out hb)
    replace H12 := Lib.hid (keep_block H12.out hb)
    replace H13 := Lib.hid (keep_block H13.out hb)
    replace H14 := Lib.hid (keep_block H14.out hb)
    replace HE := Lib.hid (HE.out.below hb)
    replace HG := Lib.hid (HG.out.trans (hb.mono HG.out.size))
    have H15 := Lib.hid (heap_alloc_new w1 (.cells #[.string (numS zz), .string (denS zz)] 23))
    clear hb
    clear geW lt_6 lt_9 lt_10 lt_12 lt_13 lt_14
    obtain ⟨WL2, hWL2⟩ : ∃ Z, (w1.alloc (.cells #[.string (numS zz), .string (denS zz)] 23)) = Z := ⟨_, rfl⟩
    rw [hWL2] at HE HG H6 H9 H10 H12 H13 H14 H15
    have EWL2 := Lib.hid hWL2
    clear hWL2
    obtain ⟨B15, hB15⟩ : ∃ z, w1.heap.size = z := ⟨_, rfl⟩
    rw [hB15] at H15 G15 L15_6 L15_9 L15_10 L15_12 L15_13 L15_14
    have EB15 := Lib.hid hB15
    clear hB15
    go_wp2_with fail
    rw [EWL2.out]
    rw [EB15.out]
    have := L14_6.out
    have := L14_9.out
    have := L14_10.out
    have := L14_12.out
    have := L14_13.out
    have := L15_6.out
    have := L15_9.out
    have := L15_10.out
    have := L15_12.out
    have := L15_13.out
    have := L15_14.out
    have := HG.out.size
    have := G14.out
    have := G15.out
    have hok : okB 11 (part_e0Ks4 r v w0 g s p zz ii qq gk sk f n k W b14 B15) = true := by kernel_rfl
    have hna := noAny_of (ks := (part_e0Ks4 r v w0 g s p zz ii qq gk sk f n k W b14 B15)) (by kernel_rfl)
    have hla := lasts_of hna
    refine wp_region_facts (row := none) (w := W) 11 (part_e0Ks4 r v w0 g s p zz ii qq gk sk f n k W b14 B15) [some 30, some 31, some 32, some 33, some 34, some 35, some 36, some 37, some 38, some 39, none] (by kernel_rfl) (by kernel_rfl) rfl [undef, undef, undef, undef, undef, undef, undef, undef, undef, undef, undef, .pointer (some ⟨W.heap.size, 0, none⟩), .pointer (some ⟨W.heap.size + 1, 0, none⟩), .pointer (some ⟨W.heap.size + 2, 0, none⟩), .pointer (some ⟨W.heap.size + 3, 0, none⟩), .pointer (some ⟨W.heap.size + 4, 0, none⟩), .pointer (some ⟨b14, 0, none⟩), .pointer (some ⟨B15, 0, none⟩)] ?h00 (Fs.start_olds hla rfl (only_of_below HG.out none) ⟨⟨_, rfl, fun _ h => Option.some.inj h, by omega, H6.out⟩, fun _ => ⟨fun _ => far_of (by omega), fun _ => far_of (by omega), fun _ => far_of (by omega), fun _ => far_of (by omega), fun _ => far_of (by omega), fun _ => far_of (by omega), trivial⟩, ⟨⟨_, rfl, fun _ h => Option.some.inj h, by omega, H9.out⟩, fun _ => ⟨fun _ => far_of (by omega), fun _ => far_of (by omega), fun _ => far_of (by omega), fun _ => far_of (by omega), fun _ => far_of (by omega), trivial⟩, ⟨⟨_, rfl, fun _ h => Option.some.inj h, by omega, H10.out⟩, fun _ => ⟨fun _ => far_of (by omega), fun _ => far_of (by omega), fun _ => far_of (by omega), fun _ => far_of (by omega), trivial⟩, ⟨⟨_, rfl, fun _ h => Option.some.inj h, by omega, H12.out⟩, fun _ => ⟨fun _ => far_of (by omega), fun _ => far_of (by omega), fun _ => far_of (by omega), trivial⟩, ⟨⟨_, rfl, fun _ h => Option.some.inj h, by omega, H13.out⟩, fun _ => ⟨fun _ => far_of (by omega), fun _ => far_of (by omega), trivial⟩, ⟨⟨_, rfl, fun _ h => Option.some.inj h, by omega, H14.out⟩, fun _ => ⟨fun _ => far_of (by omega), trivial⟩, ⟨⟨_, rfl, fun _ h => Option.some.inj h, by omega, H15.out⟩, fun _ => trivial, trivial⟩⟩⟩⟩⟩⟩⟩) ?hs ?hd
    case h00 => simp only [putO, layL]
    case hs =>
      rintro listed vs Wr hF i hi hun hpre
      obtain ⟨s0, s1, s2, s3, s4, s5, s6, s7, s8, s9, s10, o0, o1, o2, o3, o4, o5, o6, hvs⟩ := exl_of 18 vs (fun l => vs = l) hF.len rfl
      subst hvs
      obtain ⟨eG0, gG0, hO0⟩ := old_of hF (i := 11) rfl (.inl (by decide))
      replace eG0 : o0 = _ := eG0
      subst eG0
      obtain ⟨eG1, gG1, hO1⟩ := old_of hF (i := 12) rfl (.inl (by decide))
      replace eG1 : o1 = _ := eG1
      subst eG1
      obtain ⟨eG2, gG2, hO2⟩ := old_of hF (i := 13) rfl (.inl (by decide))
      replace eG2 : o2 = _ := eG2
      subst eG2
      obtain ⟨eG3, gG3, hO3⟩ := old_of hF (i := 14) rfl (.inl (by decide))
      replace eG3 : o3 = _ := eG3
      subst eG3
      obtain ⟨eG4, gG4, hO4⟩ := old_of hF (i := 15) rfl (.inl (by decide))
      replace eG4 : o4 = _ := eG4
      subst eG4
      obtain ⟨eG5, gG5, hO5⟩ := old_of hF (i := 16) rfl (.inl (by decide))
      replace eG5 : o5 = _ := eG5
      subst eG5
      obtain ⟨eG6, gG6, hO6⟩ := old_of hF (i := 17) rfl (.inl (by decide))
      replace eG6 : o6 = _ := eG6
      subst eG6
      have hge := Nat.zero_le i
      simp only [putO, layL]
      rcases Nat.lt_or_ge i 5 with hlt | hgt
      · replace hi := hlt
        clear hlt
        rcases Nat.lt_or_ge i 2 with hlt | hgt
        · replace hi := hlt
          clear hlt
          rcases Nat.lt_or_ge i 1 with hlt | hgt
          · replace hi := hlt
            clear hlt
            obtain rfl := eqi hi hge
            rw [if_neg (hF.unst (by decide))] at hO0
            have hcc := (two_at (hO0)).1
            have cH60 := hcc.1
            have cH61 := hcc.2
            clear hcc
            refine step_of ⟨some 30, _, _, _, _, _⟩ rfl (fun K' hK => ?_)
            go_simp
            refine hK.out _ _ ⟨_, hF.pure hok hla hpre rfl (Below.refl _ _), ?fr⟩
            case fr => simp only [putO, layL]
          · replace hge : 1 ≤ i := hgt
            clear hgt
            obtain rfl := eqi hi hge
            refine step_of ⟨some 31, _, _, _, _, _⟩ rfl (fun K' hK => ?_)
            go_simp
            refine hK.out _ _ ⟨_, hF.pure hok hla hpre rfl (Below.refl _ _), ?fr⟩
            case fr => simp only [putO, layL]
        · replace hge : 2 ≤ i := hgt
          clear hgt
          rcases Nat.lt_or_ge i 3 with hlt | hgt
          · replace hi := hlt
            clear hlt
            obtain rfl := eqi hi hge
            have p1 := hpre 1 (by kernel_rfl)
            have e1 : s1 = .int .i64 k := hF.get 1 _ rfl (.inr p1)
            subst e1
            refine step_of ⟨some 32, _, _, _, _, _⟩ rfl (fun K' hK => ?_)
            go_simp
            refine hK.out _ _ ⟨_, hF.pure hok hla hpre rfl (Below.refl _ _), ?fr⟩
            case fr => simp only [putO, layL]
          · replace hge : 3 ≤ i := hgt
            clear hgt
            rcases Nat.lt_or_ge i 4 with hlt | hgt
            · replace hi := hlt
              clear hlt
              obtain rfl := eqi hi hge
              refine step_of ⟨some 33, _, _, _, _, _⟩ rfl (fun K' hK => ?_)
              go_simp
              refine hK.out _ _ ⟨_, hF.pure hok hla hpre rfl (Below.refl _ _), ?fr⟩
              case fr => simp only [putO, layL]
            · replace hge : 4 ≤ i := hgt
              clear hgt
              obtain rfl := eqi hi hge
              have p0 := hpre 0 (by kernel_rfl)
              have e0 : s0 = .agg #[.string (numS r), .string (denS r)] := hF.get 0 _ rfl (.inr p0)
              subst e0
              have p2 := hpre 2 (by kernel_rfl)
              have e2 : s2 = .int .i64 (k - 1) := hF.get 2 _ rfl (.inr p2)
              subst e2
              have p3 := hpre 3 (by kernel_rfl)
              have e3 : s3 = .int .i64 0 := hF.get 3 _ rfl (.inr p3)
              subst e3
              refine step_of ⟨some 34, _, _, _, _, _⟩ rfl (fun K' hK => ?_)
              go_simp
              go_at_call 87
              (with_reducible refine (Qc3.out _ (HE0.out.below (below_none hF.low))).mono ?_)
              rintro e Wq ⟨rfl, hq⟩
              refine hK.out _ _ ⟨_, hF.pure hok hla hpre rfl hq, ?fr⟩
              case fr => simp only [putO, layL]
      · replace hge : 5 ≤ i := hgt
        clear hgt
        rcases Nat.lt_or_ge i 8 with hlt | hgt
        · replace hi := hlt
          clear hlt
          rcases Nat.lt_or_ge i 6 with hlt | hgt
          · replace hi := hlt
            clear hlt
            obtain rfl := eqi hi hge
            rw [if_neg (hF.unst (by decide))] at hO5
            have hcc := (two_at (hO5)).1
            have cH140 := hcc.1
            have cH141 := hcc.2
            clear hcc
            refine step_of ⟨some 35, _, _, _, _, _⟩ rfl (fun K' hK => ?_)
            go_simp
            refine hK.out _ _ ⟨_, hF.pure hok hla hpre rfl (Below.refl _ _), ?fr⟩
            case fr => simp only [putO, layL]
          · replace hge : 6 ≤ i := hgt
            clear hgt
            rcases Nat.lt_or_ge i 7 with hlt | hgt
            · replace hi := hlt
              clear hlt
              obtain rfl := eqi hi hge
              rw [if_neg (hF.unst (by decide))] at hO1
              have hcc := (two_at (hO1)).1
              have cH90 := hcc.1
              have cH91 := hcc.2
              clear hcc
              refine step_of ⟨some 36, _, _, _, _, _⟩ rfl (fun K' hK => ?_)
              go_simp
              refine hK.out _ _ ⟨_, hF.pure hok hla hpre rfl (Below.refl _ _), ?fr⟩
              case fr => simp only [putO, layL]
            · replace hge : 7 ≤ i := hgt
              clear hgt
              obtain rfl := eqi hi hge
              have p4 := hpre 4 (by kernel_rfl)
              have e4 : s4 = .agg #[.string (numS r), .string (denS r), .string (numS gk), .string (denS gk), .string (numS sk), .string (denS sk)] := hF.get 4 _ rfl (.inr p4)
              subst e4
              have p5 := hpre 5 (by kernel_rfl)
              have e5 : s5 = .agg #[.string (numS p), .string (denS p)] := hF.get 5 _ rfl (.inr p5)
              subst e5
              have p6 := hpre 6 (by kernel_rfl)
              have e6 : s6 = .agg #[.string (numS v), .string (denS v)] := hF.get 6 _ rfl (.inr p6)
              subst e6
              refine step_of ⟨some 37, _, _, _, _, _⟩ rfl (fun K' hK => ?_)
              go_simp
              go_at_call 88
              (with_reducible refine (Qc4.out _ (HE0.out.below (below_none hF.low))).mono ?_)
              rintro e Wq ⟨rfl, hq⟩
              refine hK.out _ _ ⟨_, hF.pure hok hla hpre rfl hq, ?fr⟩
              case fr => simp only [putO, layL]
        · replace hge : 8 ≤ i := hgt
          clear hgt
          rcases Nat.lt_or_ge i 9 with hlt | hgt
          · replace hi := hlt
            clear hlt
            obtain rfl := eqi hi hge
            rw [if_neg (hF.unst (by decide))] at hO0
            have hcc := (two_at (hO0)).1
            have cH60 := hcc.1
            have cH61 := hcc.2
            clear hcc
            refine step_of ⟨some 38, _, _, _, _, _⟩ rfl (fun K' hK => ?_)
            go_simp
            refine hK.out _ _ ⟨_, hF.pure hok hla hpre rfl (Below.refl _ _), ?fr⟩
            case fr => simp only [putO, layL]
          · replace hge : 9 ≤ i := hgt
            clear hgt
            rcases Nat.lt_or_ge i 10 with hlt | hgt
            · replace hi := hlt
              clear hlt
              obtain rfl := eqi hi hge
              have p7 := hpre 7 (by kernel_rfl)
              have e7 : s7 = .agg #[.string (numS f), .string (denS f)] := hF.get 7 _ rfl (.inr p7)
              subst e7
              have p8 := hpre 8 (by kernel_rfl)
              have e8 : s8 = .agg #[.string (numS r), .string (denS r)] := hF.get 8 _ rfl (.inr p8)
              subst e8
              refine step_of ⟨some 39, _, _, _, _, _⟩ rfl (fun K' hK => ?_)
              go_simp
              go_at_call 93
              (with_reducible refine (Qc5.out _ (HE0.out.below (below_none hF.low))).mono ?_)
              rintro e Wq ⟨rfl, hq⟩
              refine hK.out _ _ ⟨_, hF.pure hok hla hpre rfl hq, ?fr⟩
              case fr => simp only [putO, layL]
            · replace hge : 10 ≤ i := hgt
              clear hgt
              obtain rfl := eqi hi hge
              have p9 := hpre 9 (by kernel_rfl)
              have e9 : s9 = .agg #[.string (numS ii), .string (denS ii)] := hF.get 9 _ rfl (.inr p9)
              subst e9
              rw [if_neg (bit_off hun)] at hO6
              have HGB := Lib.hid hO6
              obtain ⟨⟨y0, y1⟩, g0, g1⟩ := two_at HGB.out
              refine step_of ⟨none, _, _, _, _, _⟩ rfl (fun K' hK => ?_)
              go_simp
              refine hK.out _ _ ⟨undef, hF.put hok hna hpre hun rfl undef rfl (.inl (by decide)) rfl (set2_at HGB.out (.string (numS ii)) (.string (denS ii))) (fun k hk => set2_other _ _ (.string (numS ii)) (.string (denS ii)) hk) (put2_below gG6 _ (.string (numS ii)) (.string (denS ii))), ?fr⟩
              case fr => simp only [putO, layL]
    case hd =>
      rintro listed vs WB hF hall
      obtain ⟨s0, s1, s2, s3, s4, s5, s6, s7, s8, s9, s10, o0, o1, o2, o3, o4, o5, o6, hvs⟩ := exl_of 18 vs (fun l => vs = l) hF.len rfl
      subst hvs
      obtain ⟨eG0, gG0, hO0⟩ := old_of hF (i := 11) rfl (.inl (by decide))
      replace eG0 : o0 = _ := eG0
      subst eG0
      obtain ⟨eG1, gG1, hO1⟩ := old_of hF (i := 12) rfl (.inl (by decide))
      replace eG1 : o1 = _ := eG1
      subst eG1
      obtain ⟨eG2, gG2, hO2⟩ := old_of hF (i := 13) rfl (.inl (by decide))
      replace eG2 : o2 = _ := eG2
      subst eG2
      obtain ⟨eG3, gG3, hO3⟩ := old_of hF (i := 14) rfl (.inl (by decide))
      replace eG3 : o3 = _ := eG3
      subst eG3
      obtain ⟨eG4, gG4, hO4⟩ := old_of hF (i := 15) rfl (.inl (by decide))
      replace eG4 : o4 = _ := eG4
      subst eG4
      obtain ⟨eG5, gG5, hO5⟩ := old_of hF (i := 16) rfl (.inl (by decide))
      replace eG5 : o5 = _ := eG5
      subst eG5
      obtain ⟨eG6, gG6, hO6⟩ := old_of hF (i := 17) rfl (.inl (by decide))
      replace eG6 : o6 = _ := eG6
      subst eG6
      rw [if_neg (hF.unst (by decide))] at hO0
      replace H6 := Lib.hid hO0
      clear hO0
      rw [if_neg (hF.unst (by decide))] at hO1
      replace H9 := Lib.hid hO1
      clear hO1
      rw [if_neg (hF.unst (by decide))] at hO2
      replace H10 := Lib.hid hO2
      clear hO2
      rw [if_neg (hF.unst (by decide))] at hO3
      replace H12 := Lib.hid hO3
      clear hO3
      rw [if_neg (hF.unst (by decide))] at hO4
      replace H13 := Lib.hid hO4
      clear hO4
      rw [if_neg (hF.unst (by decide))] at hO5
      replace H14 := Lib.hid hO5
      clear hO5
      rw [if_pos (hall 10 (by decide))] at hO6
      replace H15 := Lib.hid hO6
      clear hO6
      have HQ := Lib.hid hF.low
      clear hF hall hok hna hla
      simp only [putO, layL]
      replace HG := Lib.hid (below_none HQ.out)
      clear HQ
      replace HE := Lib.hid (HE0.out.below HG.out)
      go_wp2_with fail
      have := L14_6.out
      have := L14_9.out
      have := L14_10.out
      have := L14_12.out
      have := L14_13.out
      have := L15_6.out
      have := L15_9.out
      have := L15_10.out
      have := L15_12.out
      have := L15_13.out
      have := L15_14.out
      have := HG.out.size
      have := G14.out
      have := G15.out
      have hok : okB 6 (part_e0Ks7 r v w0 g s p zz ii qq gk sk f n k W b14 B15) = true := by kernel_rfl
      have hna := noAny_of (ks := (part_e0Ks7 r v w0 g s p zz ii qq gk sk f n k W b14 B15)) (by kernel_rfl)
      have hla := lasts_of hna
      refine wp_region_facts (row := none) (w := W) 6 (part_e0Ks7 r v w0 g s p zz ii qq gk sk f n k W b14 B15) [some 47, some 48, some 49, some 50, none, none] (by kernel_rfl) (by kernel_rfl) rfl [undef, undef, undef, undef, undef, undef, .pointer (some ⟨W.heap.size, 0, none⟩), .pointer (some ⟨W.heap.size + 1, 0, none⟩), .pointer (some ⟨W.heap.size + 2, 0, none⟩), .pointer (some ⟨W.heap.size + 3, 0, none⟩), .pointer (some ⟨W.heap.size + 4, 0, none⟩), .pointer (some ⟨b14, 0, none⟩), .pointer (some ⟨B15, 0, none⟩)] ?h00 (Fs.start_olds hla rfl (only_of_below HG.out none) ⟨⟨_, rfl, fun _ h => Option.some.inj h, by omega, H6.out⟩, fun _ => ⟨fun _ => far_of (by omega), fun _ => far_of (by omega), fun _ => far_of (by omega), fun _ => far_of (by omega), fun _ => far_of (by omega), fun _ => far_of (by omega), trivial⟩, ⟨⟨_, rfl, fun _ h => Option.some.inj h, by omega, H9.out⟩, fun _ => ⟨fun _ => far_of (by omega), fun _ => far_of (by omega), fun _ => far_of (by omega), fun _ => far_of (by omega), fun _ => far_of (by omega), trivial⟩, ⟨⟨_, rfl, fun _ h => Option.some.inj h, by omega, H10.out⟩, fun _ => ⟨fun _ => far_of (by omega), fun _ => far_of (by omega), fun _ => far_of (by omega), fun _ => far_of (by omega), trivial⟩, ⟨⟨_, rfl, fun _ h => Option.some.inj h, by omega, H12.out⟩, fun _ => ⟨fun _ => far_of (by omega), fun _ => far_of (by omega), fun _ => far_of (by omega), trivial⟩, ⟨⟨_, rfl, fun _ h => Option.some.inj h, by omega, H13.out⟩, fun _ => ⟨fun _ => far_of (by omega), fun _ => far_of (by omega), trivial⟩, ⟨⟨_, rfl, fun _ h => Option.some.inj h, by omega, H14.out⟩, fun _ => ⟨fun _ => far_of (by omega), trivial⟩, ⟨⟨_, rfl, fun _ h => Option.some.inj h, by omega, H15.out⟩, fun _ => trivial, trivial⟩⟩⟩⟩⟩⟩⟩) ?hs ?hd
      case h00 => simp only [putO, layL]
      case hs =>
        rintro listed vs Wr hF i hi hun hpre
        obtain ⟨s0, s1, s2, s3, s4, s5, o0, o1, o2, o3, o4, o5, o6, hvs⟩ := exl_of 13 vs (fun l => vs = l) hF.len rfl
        subst hvs
        obtain ⟨eG0, gG0, hO0⟩ := old_of hF (i := 6) rfl (.inl (by decide))
        replace eG0 : o0 = _ := eG0
        subst eG0
        obtain ⟨eG1, gG1, hO1⟩ := old_of hF (i := 7) rfl (.inl (by decide))
        replace eG1 : o1 = _ := eG1
        subst eG1
        obtain ⟨eG2, gG2, hO2⟩ := old_of hF (i := 8) rfl (.inl (by decide))
        replace eG2 : o2 = _ := eG2
        subst eG2
        obtain ⟨eG3, gG3, hO3⟩ := old_of hF (i := 9) rfl (.inl (by decide))
        replace eG3 : o3 = _ := eG3
        subst eG3
        obtain ⟨eG4, gG4, hO4⟩ := old_of hF (i := 10) rfl (.inl (by decide))
        replace eG4 : o4 = _ := eG4
        subst eG4
        obtain ⟨eG5, gG5, hO5⟩ := old_of hF (i := 11) rfl (.inl (by decide))
        replace eG5 : o5 = _ := eG5
        subst eG5
        obtain ⟨eG6, gG6, hO6⟩ := old_of hF (i := 12) rfl (.inl (by decide))
        replace eG6 : o6 = _ := eG6
        subst eG6
        have hge := Nat.zero_le i
        simp only [putO, layL]
        rcases Nat.lt_or_ge i 3 with hlt | hgt
        · replace hi := hlt
          clear hlt
          rcases Nat.lt_or_ge i 1 with hlt | hgt
          · replace hi := hlt
            clear hlt
            obtain rfl := eqi hi hge
            rw [if_neg (hF.unst (by decide))] at hO6
            have hcc := (two_at (hO6)).1
            have cH150 := hcc.1
            have cH151 := hcc.2
            clear hcc
            refine step_of ⟨some 47, _, _, _, _, _⟩ rfl (fun K' hK => ?_)
            go_simp
            refine hK.out _ _ ⟨_, hF.pure hok hla hpre rfl (Below.refl _ _), ?fr⟩
            case fr => simp only [putO, layL]
          · replace hge : 1 ≤ i := hgt
            clear hgt
            rcases Nat.lt_or_ge i 2 with hlt | hgt
            · replace hi := hlt
              clear hlt
              obtain rfl := eqi hi hge
              rw [if_neg (hF.unst (by decide))] at hO5
              have hcc := (two_at (hO5)).1
              have cH140 := hcc.1
              have cH141 := hcc.2
              clear hcc
              refine step_of ⟨some 48, _, _, _, _, _⟩ rfl (fun K' hK => ?_)
              go_simp
              refine hK.out _ _ ⟨_, hF.pure hok hla hpre rfl (Below.refl _ _), ?fr⟩
              case fr => simp only [putO, layL]
            · replace hge : 2 ≤ i := hgt
              clear hgt
              obtain rfl := eqi hi hge
              rw [if_neg (hF.unst (by decide))] at hO6
              have hcc := (two_at (hO6)).1
              have cH150 := hcc.1
              have cH151 := hcc.2
              clear hcc
              refine step_of ⟨some 49, _, _, _, _, _⟩ rfl (fun K' hK => ?_)
              go_simp
              refine hK.out _ _ ⟨_, hF.pure hok hla hpre rfl (Below.refl _ _), ?fr⟩
              case fr => simp only [putO, layL]
        · replace hge : 3 ≤ i := hgt
          clear hgt
          rcases Nat.lt_or_ge i 4 with hlt | hgt
          · replace hi := hlt
            clear hlt
            obtain rfl := eqi hi hge
            have p1 := hpre 1 (by kernel_rfl)
            have e1 : s1 = .agg #[.string (numS p), .string (denS p)] := hF.get 1 _ rfl (.inr p1)
            subst e1
            have p2 := hpre 2 (by kernel_rfl)
            have e2 : s2 = .agg #[.string (numS ii), .string (denS ii)] := hF.get 2 _ rfl (.inr p2)
            subst e2
            refine step_of ⟨some 50, _, _, _, _, _⟩ rfl (fun K' hK => ?_)
            go_simp
            go_at_call 107
            (with_reducible refine (Qc6.out _ (HE0.out.below (below_none hF.low))).mono ?_)
            rintro e Wq ⟨rfl, hq⟩
            refine hK.out _ _ ⟨_, hF.pure hok hla hpre rfl hq, ?fr⟩
            case fr => simp only [putO, layL]
          · replace hge : 4 ≤ i := hgt
            clear hgt
            rcases Nat.lt_or_ge i 5 with hlt | hgt
            · replace hi := hlt
              clear hlt
              obtain rfl := eqi hi hge
              have p0 := hpre 0 (by kernel_rfl)
              have e0 : s0 = .agg #[.string (numS ii), .string (denS ii)] := hF.get 0 _ rfl (.inr p0)
              subst e0
              rw [if_neg (bit_off hun)] at hO3
              have HGB := Lib.hid hO3
              obtain ⟨⟨y0, y1⟩, g0, g1⟩ := two_at HGB.out
              refine step_of ⟨none, _, _, _, _, _⟩ rfl (fun K' hK => ?_)
              go_simp
              refine hK.out _ _ ⟨undef, hF.put hok hna hpre hun rfl undef rfl (.inl (by decide)) rfl (set2_at HGB.out (.string (numS ii)) (.string (denS ii))) (fun k hk => set2_other _ _ (.string (numS ii)) (.string (denS ii)) hk) (put2_below gG3 _ (.string (numS ii)) (.string (denS ii))), ?fr⟩
              case fr => simp only [putO, layL]
            · replace hge : 5 ≤ i := hgt
              clear hgt
              obtain rfl := eqi hi hge
              have p3 := hpre 3 (by kernel_rfl)
              have e3 : s3 = .agg #[.string (numS qq), .string (denS qq)] := hF.get 3 _ rfl (.inr p3)
              subst e3
              rw [if_neg (bit_off hun)] at hO4
              have HGB := Lib.hid hO4
              obtain ⟨⟨y0, y1⟩, g0, g1⟩ := two_at HGB.out
              refine step_of ⟨none, _, _, _, _, _⟩ rfl (fun K' hK => ?_)
              go_simp
              refine hK.out _ _ ⟨undef, hF.put hok hna hpre hun rfl undef rfl (.inl (by decide)) rfl (set2_at HGB.out (.string (numS qq)) (.string (denS qq))) (fun k hk => set2_other _ _ (.string (numS qq)) (.string (denS qq)) hk) (put2_below gG4 _ (.string (numS qq)) (.string (denS qq))), ?fr⟩
              case fr => simp only [putO, layL]
      case hd =>
        rintro listed vs WD hF hall
        obtain ⟨s0, s1, s2, s3, s4, s5, o0, o1, o2, o3, o4, o5, o6, hvs⟩ := exl_of 13 vs (fun l => vs = l) hF.len rfl
        subst hvs
        obtain ⟨eG0, gG0, hO0⟩ := old_of hF (i := 6) rfl (.inl (by decide))
        replace eG0 : o0 = _ := eG0
        subst eG0
        obtain ⟨eG1, gG1, hO1⟩ := old_of hF (i := 7) rfl (.inl (by decide))
        replace eG1 : o1 = _ := eG1
        subst eG1
        obtain ⟨eG2, gG2, hO2⟩ := old_of hF (i := 8) rfl (.inl (by decide))
        replace eG2 : o2 = _ := eG2
        subst eG2
        obtain ⟨eG3, gG3, hO3⟩ := old_of hF (i := 9) rfl (.inl (by decide))
        replace eG3 : o3 = _ := eG3
        subst eG3
        obtain ⟨eG4, gG4, hO4⟩ := old_of hF (i := 10) rfl (.inl (by decide))
        replace eG4 : o4 = _ := eG4
        subst eG4
        obtain ⟨eG5, gG5, hO5⟩ := old_of hF (i := 11) rfl (.inl (by decide))
        replace eG5 : o5 = _ := eG5
        subst eG5
        obtain ⟨eG6, gG6, hO6⟩ := old_of hF (i := 12) rfl (.inl (by decide))
        replace eG6 : o6 = _ := eG6
        subst eG6
        rw [if_neg (hF.unst (by decide))] at hO0
        replace H6 := Lib.hid hO0
        clear hO0
        rw [if_neg (hF.unst (by decide))] at hO1
        replace H9 := Lib.hid hO1
        clear hO1
        rw [if_neg (hF.unst (by decide))] at hO2
        replace H10 := Lib.hid hO2
        clear hO2
        rw [if_pos (hall 4 (by decide))] at hO3
        replace H12 := Lib.hid hO3
        clear hO3
        rw [if_pos (hall 5 (by decide))] at hO4
        replace H13 := Lib.hid hO4
        clear hO4
        rw [if_neg (hF.unst (by decide))] at hO5
        replace H14 := Lib.hid hO5
        clear hO5
        rw [if_neg (hF.unst (by decide))] at hO6
        replace H15 := Lib.hid hO6
        clear hO6
        have HQ := Lib.hid hF.low
        clear hF hall hok hna hla
        simp only [putO, layL]
        replace HG := Lib.hid (below_none HQ.out)
        clear HQ
        replace HE := Lib.hid (HE0.out.below HG.out)
        obtain ⟨⟨x12_0, x12_1⟩, x12_f0, x12_f1⟩ := two_at H12.out
        obtain ⟨⟨x13_0, x13_1⟩, x13_f0, x13_f1⟩ := two_at H13.out
        go_wp2
        refine bodyPost_ret (v := .tuple #[.agg #[.string (numS ii), .string (denS ii)], .agg #[.string (numS qq), .string (denS qq)]]) (by simp [results, Tryz.results213, go_sem, x12_0, x12_1, x13_0, x13_1]) rfl ⟨rfl, HG.out⟩

set_option linter.unusedVariables false in
/-- what the operations of region 1 yield -/
def part_e1Ks1 (r v w0 g s p zz ii qq o : Rat) (n k : Int) : List RK :=
  [.pure (.agg #[.string (numS r), .string (denS r)]),
   .pure (.int .i64 n),
   .pure (.int .i64 1),
   .pure (.agg #[.string (numS r), .string (denS r), .string (numS g), .string (denS g), .string (numS s), .string (denS s)]),
   .pure (.agg #[.string (numS v), .string (denS v)]),
   .pure (.agg #[.string (numS w0), .string (denS w0)]),
   .pure (.agg #[.string (numS p), .string (denS p)]),
   .box none #[.string { data := #[] }, .string { data := #[] }] #[.string (numS p), .string (denS p)] 23 8,
   .put 7]
set_option linter.unusedVariables false in
/-- what the operations of region 6 yield -/
def part_e1Ks6 (r v w0 g s p zz ii qq o : Rat) (n k : Int) (W : World) (b14 B15 : Nat) : List RK :=
  [.pure (.agg #[.string (numS zz), .string (denS zz)]),
   .pure (.agg #[.string { data := #[49] }, .string { data := #[49] }]),
   .pure (.agg #[.string (numS r), .string (denS r)]),
   .pure (.agg #[.string (numS o), .string (denS o)]),
   .pure (.agg #[.string (numS ii), .string (denS ii)]),
   .put 12,
   .box (some (W.heap.size)) #[.string (numS r), .string (denS r)] #[.string (numS r), .string (denS r)] 23 13,
   .box (some (W.heap.size + 1)) #[.string (numS v), .string (denS v)] #[.string (numS v), .string (denS v)] 23 13,
   .box (some (W.heap.size + 2)) #[.string (numS w0), .string (denS w0)] #[.string (numS w0), .string (denS w0)] 23 13,
   .box (some (W.heap.size + 3)) #[.string { data := #[] }, .string { data := #[] }] #[.string { data := #[] }, .string { data := #[] }] 23 13,
   .box (some (W.heap.size + 4)) #[.string { data := #[] }, .string { data := #[] }] #[.string { data := #[] }, .string { data := #[] }] 23 13,
   .box (some (b14)) #[.string (numS p), .string (denS p)] #[.string (numS p), .string (denS p)] 23 13,
   .box (some (B15)) #[.string (numS zz), .string (denS zz)] #[.string (numS ii), .string (denS ii)] 23 5]
set_option linter.unusedVariables false in
/-- what the operations of region 7 yield -/
def part_e1Ks7 (r v w0 g s p zz ii qq o : Rat) (n k : Int) (W : World) (b14 B15 : Nat) : List RK :=
  [.pure (.agg #[.string (numS ii), .string (denS ii)]),
   .pure (.agg #[.string (numS p), .string (denS p)]),
   .pure (.agg #[.string (numS ii), .string (denS ii)]),
   .pure (.agg #[.string (numS qq), .string (denS qq)]),
   .put 9,
   .put 10,
   .box (some (W.heap.size)) #[.string (numS r), .string (denS r)] #[.string (numS r), .string (denS r)] 23 13,
   .box (some (W.heap.size + 1)) #[.string (numS v), .string (denS v)] #[.string (numS v), .string (denS v)] 23 13,
   .box (some (W.heap.size + 2)) #[.string (numS w0), .string (denS w0)] #[.string (numS w0), .string (denS w0)] 23 13,
   .box (some (W.heap.size + 3)) #[.string { data := #[] }, .string { data := #[] }] #[.string (numS ii), .string (denS ii)] 23 4,
   .box (some (W.heap.size + 4)) #[.string { data := #[] }, .string { data := #[] }] #[.string (numS qq), .string (denS qq)] 23 5,
   .box (some (b14)) #[.string (numS p), .string (denS p)] #[.string (numS p), .string (denS p)] 23 13,
   .box (some (B15)) #[.string (numS ii), .string (denS ii)] #[.string (numS ii), .string (denS ii)] 23 13]
set_option linter.unusedSimpArgs false in
set_option linter.unusedVariables false in
set_option maxHeartbeats 4000000 in
set_option maxRecDepth 100000 in
theorem part_e1 (r v w0 g s p zz ii qq o : Rat) (n k : Int) (W : World) (c0 : Fun3 87 (.agg #[.string (numS r), .string (denS r)]) (.int .i64 n) (.int .i64 1) (.agg #[.string (numS r), .string (denS r), .string (numS g), .string (denS g), .string (numS s), .string (denS s)]))
    (c1 : Fun3 95 (.agg #[.string (numS r), .string (denS r), .string (numS g), .string (denS g), .string (numS s), .string (denS s)]) (.agg #[.string (numS v), .string (denS v)]) (.agg #[.string (numS w0), .string (denS w0)]) (.agg #[.string (numS p), .string (denS p)]))
    (c2 : Fun1 49 (.int .i64 0) (.agg #[.string (numS zz), .string (denS zz)]))
    (c3 : Fun2 92 (.agg #[.string { data := #[49] }, .string { data := #[49] }]) (.agg #[.string (numS r), .string (denS r)]) (.agg #[.string (numS o), .string (denS o)]))
    (c4 : Fun2 91 (.agg #[.string (numS zz), .string (denS zz)]) (.agg #[.string (numS o), .string (denS o)]) (.agg #[.string (numS ii), .string (denS ii)]))
    (c5 : Fun2 107 (.agg #[.string (numS p), .string (denS p)]) (.agg #[.string (numS ii), .string (denS ii)]) (.agg #[.string (numS qq), .string (denS qq)])) (hE : EnvY W) :
    Calls Tryz.prog 213 #[.agg #[.string (numS r), .string (denS r)], .int .i64 1, .int .i64 n, .agg #[.string (numS v), .string (denS v)], .agg #[.string (numS w0), .string (denS w0)], .int .i64 1] W fun e w' => e = .returned (.tuple #[.agg #[.string (numS ii), .string (denS ii)], .agg #[.string (numS qq), .string (denS qq)]]) ∧ Below W.heap.size W w' := by
  have Qc0 := Lib.hid c0
  have Qc1 := Lib.hid c1
  have Qc2 := Lib.hid c2
  have Qc3 := Lib.hid c3
  have Qc4 := Lib.hid c4
  have Qc5 := Lib.hid c5
  unfold Fun1 at Qc2
  unfold Fun2 at Qc3 Qc4 Qc5
  unfold Fun3 at Qc0 Qc1
  have HE0 := Lib.hid hE
  have HG := Lib.hid (show Below W.heap.size W (((((W.alloc (.cells #[.string (numS r), .string (denS r)] 23)).alloc (.cells #[.string (numS v), .string (denS v)] 23)).alloc (.cells #[.string (numS w0), .string (denS w0)] 23)).alloc (.cells #[.string { data := #[] }, .string { data := #[] }] 23)).alloc (.cells #[.string { data := #[] }, .string { data := #[] }] 23)) from ((((((Below.refl _ _).alloc (Nat.le_refl _) _).alloc (by simp only [World.size_alloc]; omega) _).alloc (by simp only [World.size_alloc]; omega) _).alloc (by simp only [World.size_alloc]; omega) _).alloc (by simp only [World.size_alloc]; omega) _))
  have H6 : Hid ((((((W.alloc (.cells #[.string (numS r), .string (denS r)] 23)).alloc (.cells #[.string (numS v), .string (denS v)] 23)).alloc (.cells #[.string (numS w0), .string (denS w0)] 23)).alloc (.cells #[.string { data := #[] }, .string { data := #[] }] 23)).alloc (.cells #[.string { data := #[] }, .string { data := #[] }] 23)).heap[W.heap.size]? = some (.cells #[.string (numS r), .string (denS r)] 23 (0, 0))) := Lib.hid (by
    have h := heap_alloc_new W (.cells #[.string (numS r), .string (denS r)] 23)
    exact new_keep (new_keep (new_keep (new_keep (h)))))
  have H9 : Hid ((((((W.alloc (.cells #[.string (numS r), .string (denS r)] 23)).alloc (.cells #[.string (numS v), .string (denS v)] 23)).alloc (.cells #[.string (numS w0), .string (denS w0)] 23)).alloc (.cells #[.string { data := #[] }, .string { data := #[] }] 23)).alloc (.cells #[.string { data := #[] }, .string { data := #[] }] 23)).heap[W.heap.size + 1]? = some (.cells #[.string (numS v), .string (denS v)] 23 (0, 0))) := Lib.hid (by
    have h := heap_alloc_new (W.alloc (.cells #[.string (numS r), .string (denS r)] 23)) (.cells #[.string (numS v), .string (denS v)] 23)
    simp only [World.size_alloc] at h
    exact new_keep (new_keep (new_keep (h))))
  have H10 : Hid ((((((W.alloc (.cells #[.string (numS r), .string (denS r)] 23)).alloc (.cells #[.string (numS v), .string (denS v)] 23)).alloc (.cells #[.string (numS w0), .string (denS w0)] 23)).alloc (.cells #[.string { data := #[] }, .string { data := #[] }] 23)).alloc (.cells #[.string { data := #[] }, .string { data := #[] }] 23)).heap[W.heap.size + 2]? = some (.cells #[.string (numS w0), .string (denS w0)] 23 (0, 0))) := Lib.hid (by
    have h := heap_alloc_new ((W.alloc (.cells #[.string (numS r), .string (denS r)] 23)).alloc (.cells #[.string (numS v), .string (denS v)] 23)) (.cells #[.string (numS w0), .string (denS w0)] 23)
    simp only [World.size_alloc] at h
    exact new_keep (new_keep (h)))
  have H12 : Hid ((((((W.alloc (.cells #[.string (numS r), .string (denS r)] 23)).alloc (.cells #[.string (numS v), .string (denS v)] 23)).alloc (.cells #[.string (numS w0), .string (denS w0)] 23)).alloc (.cells #[.string { data := #[] }, .string { data := #[] }] 23)).alloc (.cells #[.string { data := #[] }, .string { data := #[] }] 23)).heap[W.heap.size + 3]? = some (.cells #[.string { data := #[] }, .string { data := #[] }] 23 (0, 0))) := Lib.hid (by
    have h := heap_alloc_new (((W.alloc (.cells #[.string (numS r), .string (denS r)] 23)).alloc (.cells #[.string (numS v), .string (denS v)] 23)).alloc (.cells #[.string (numS w0), .string (denS w0)] 23)) (.cells #[.string { data := #[] }, .string { data := #[] }] 23)
    simp only [World.size_alloc] at h
    exact new_keep (h))
  have H13 : Hid ((((((W.alloc (.cells #[.string (numS r), .string (denS r)] 23)).alloc (.cells #[.string (numS v), .string (denS v)] 23)).alloc (.cells #[.string (numS w0), .string (denS w0)] 23)).alloc (.cells #[.string { data := #[] }, .string { data := #[] }] 23)).alloc (.cells #[.string { data := #[] }, .string { data := #[] }] 23)).heap[W.heap.size + 4]? = some (.cells #[.string { data := #[] }, .string { data := #[] }] 23 (0, 0))) := Lib.hid (by
    have h := heap_alloc_new ((((W.alloc (.cells #[.string (numS r), .string (denS r)] 23)).alloc (.cells #[.string (numS v), .string (denS v)] 23)).alloc (.cells #[.string (numS w0), .string (denS w0)] 23)).alloc (.cells #[.string { data := #[] }, .string { data := #[] }] 23)) (.cells #[.string { data := #[] }, .string { data := #[] }] 23)
    simp only [World.size_alloc] at h
    exact h)
  obtain ⟨W0, hW0⟩ : ∃ Z, (((((W.alloc (.cells #[.string (numS r), .string (denS r)] 23)).alloc (.cells #[.string (numS v), .string (denS v)] 23)).alloc (.cells #[.string (numS w0), .string (denS w0)] 23)).alloc (.cells #[.string { data := #[] }, .string { data := #[] }] 23)).alloc (.cells #[.string { data := #[] }, .string { data := #[] }] 23)) = Z := ⟨_, rfl⟩
  rw [hW0] at HG H6 H9 H10 H12 H13
  have EW0 := Lib.hid hW0
  have HE := Lib.hid (HE0.out.below HG.out)
  clear hW0 hE c0 c1 c2 c3 c4 c5
  go_enter Tryz.func213, Tryz.ntmps213
  have lt_6 := Lib.hid (heap_lt H6.out)
  have lt_9 := Lib.hid (heap_lt H9.out)
  have lt_10 := Lib.hid (heap_lt H10.out)
  have lt_12 := Lib.hid (heap_lt H12.out)
  have lt_13 := Lib.hid (heap_lt H13.out)
  have geW := Lib.hid HG.out.size
  go_wp2_with fail
  rw [EW0.out]
  have hok : okB 9 (part_e1Ks1 r v w0 g s p zz ii qq o n k) = true := by kernel_rfl
  have hna := noAny_of (ks := (part_e1Ks1 r v w0 g s p zz ii qq o n k)) (by kernel_rfl)
  have hla := lasts_of hna
  refine wp_region_facts (row := none) (w := W0) 9 (part_e1Ks1 r v w0 g s p zz ii qq o n k) [some 16, some 17, some 18, some 19, some 20, some 21, some 22, some 14, none] (by kernel_rfl) (by kernel_rfl) rfl [undef, undef, undef, undef, undef, undef, undef, undef, undef] ?h00 (Fs.start rfl rfl) ?hs ?hd
  case h00 => simp only [putO, layL]
  case hs =>
    rintro listed vs Wr hF i hi hun hpre
    obtain ⟨s0, s1, s2, s3, s4, s5, s6, s7, s8, hvs⟩ := exl_of 9 vs (fun l => vs = l) hF.len rfl
    subst hvs
    have hge := Nat.zero_le i
    simp only [putO, layL]
    rcases Nat.lt_or_ge i 4 with hlt | hgt
    · replace hi := hlt
      clear hlt
      rcases Nat.lt_or_ge i 2 with hlt | hgt
      · replace hi := hlt
        clear hlt
        rcases Nat.lt_or_ge i 1 with hlt | hgt
        · replace hi := hlt
          clear hlt
          obtain rfl := eqi hi hge
          have hcc := (two_at (keep_block H6.out (below_none hF.low))).1
          have cH60 := hcc.1
          have cH61 := hcc.2
          clear hcc
          refine step_of ⟨some 16, _, _, _, _, _⟩ rfl (fun K' hK => ?_)
          go_simp
          refine hK.out _ _ ⟨_, hF.pure hok hla hpre rfl (Below.refl _ _), ?fr⟩
          case fr => simp only [putO, layL]
        · replace hge : 1 ≤ i := hgt
          clear hgt
          obtain rfl := eqi hi hge
          refine step_of ⟨some 17, _, _, _, _, _⟩ rfl (fun K' hK => ?_)
          go_simp
          refine hK.out _ _ ⟨_, hF.pure hok hla hpre rfl (Below.refl _ _), ?fr⟩
          case fr => simp only [putO, layL]
      · replace hge : 2 ≤ i := hgt
        clear hgt
        rcases Nat.lt_or_ge i 3 with hlt | hgt
        · replace hi := hlt
          clear hlt
          obtain rfl := eqi hi hge
          refine step_of ⟨some 18, _, _, _, _, _⟩ rfl (fun K' hK => ?_)
          go_simp
          refine hK.out _ _ ⟨_, hF.pure hok hla hpre rfl (Below.refl _ _), ?fr⟩
          case fr => simp only [putO, layL]
        · replace hge : 3 ≤ i := hgt
          clear hgt
          obtain rfl := eqi hi hge
          have p0 := hpre 0 (by kernel_rfl)
          have e0 : s0 = .agg #[.string (numS r), .string (denS r)] := hF.get 0 _ rfl (.inr p0)
          subst e0
          have p1 := hpre 1 (by kernel_rfl)
          have e1 : s1 = .int .i64 n := hF.get 1 _ rfl (.inr p1)
          subst e1
          have p2 := hpre 2 (by kernel_rfl)
          have e2 : s2 = .int .i64 1 := hF.get 2 _ rfl (.inr p2)
          subst e2
          refine step_of ⟨some 19, _, _, _, _, _⟩ rfl (fun K' hK => ?_)
          go_simp
          go_at_call 87
          (with_reducible refine (Qc0.out _ (HE.out.below (below_none hF.low))).mono ?_)
          rintro e Wq ⟨rfl, hq⟩
          refine hK.out _ _ ⟨_, hF.pure hok hla hpre rfl hq, ?fr⟩
          case fr => simp only [putO, layL]
    · replace hge : 4 ≤ i := hgt
      clear hgt
      rcases Nat.lt_or_ge i 6 with hlt | hgt
      · replace hi := hlt
        clear hlt
        rcases Nat.lt_or_ge i 5 with hlt | hgt
        · replace hi := hlt
          clear hlt
          obtain rfl := eqi hi hge
          have hcc := (two_at (keep_block H9.out (below_none hF.low))).1
          have cH90 := hcc.1
          have cH91 := hcc.2
          clear hcc
          refine step_of ⟨some 20, _, _, _, _, _⟩ rfl (fun K' hK => ?_)
          go_simp
          refine hK.out _ _ ⟨_, hF.pure hok hla hpre rfl (Below.refl _ _), ?fr⟩
          case fr => simp only [putO, layL]
        · replace hge : 5 ≤ i := hgt
          clear hgt
          obtain rfl := eqi hi hge
          have hcc := (two_at (keep_block H10.out (below_none hF.low))).1
          have cH100 := hcc.1
          have cH101 := hcc.2
          clear hcc
          refine step_of ⟨some 21, _, _, _, _, _⟩ rfl (fun K' hK => ?_)
          go_simp
          refine hK.out _ _ ⟨_, hF.pure hok hla hpre rfl (Below.refl _ _), ?fr⟩
          case fr => simp only [putO, layL]
      · replace hge : 6 ≤ i := hgt
        clear hgt
        rcases Nat.lt_or_ge i 7 with hlt | hgt
        · replace hi := hlt
          clear hlt
          obtain rfl := eqi hi hge
          have p3 := hpre 3 (by kernel_rfl)
          have e3 : s3 = .agg #[.string (numS r), .string (denS r), .string (numS g), .string (denS g), .string (numS s), .string (denS s)] := hF.get 3 _ rfl (.inr p3)
          subst e3
          have p4 := hpre 4 (by kernel_rfl)
          have e4 : s4 = .agg #[.string (numS v), .string (denS v)] := hF.get 4 _ rfl (.inr p4)
          subst e4
          have p5 := hpre 5 (by kernel_rfl)
          have e5 : s5 = .agg #[.string (numS w0), .string (denS w0)] := hF.get 5 _ rfl (.inr p5)
          subst e5
          refine step_of ⟨some 22, _, _, _, _, _⟩ rfl (fun K' hK => ?_)
          go_simp
          go_at_call 95
          (with_reducible refine (Qc1.out _ (HE.out.below (below_none hF.low))).mono ?_)
          rintro e Wq ⟨rfl, hq⟩
          refine hK.out _ _ ⟨_, hF.pure hok hla hpre rfl hq, ?fr⟩
          case fr => simp only [putO, layL]
        · replace hge : 7 ≤ i := hgt
          clear hgt
          rcases Nat.lt_or_ge i 8 with hlt | hgt
          · replace hi := hlt
            clear hlt
            obtain rfl := eqi hi hge
            refine step_of ⟨some 14, _, _, _, _, _⟩ rfl (fun K' hK => ?_)
            go_simp
            refine hK.out _ _ ⟨_, hF.box hok hla hpre hun rfl, ?fr⟩
            case fr => simp only [putO, layL]
          · replace hge : 8 ≤ i := hgt
            clear hgt
            obtain rfl := eqi hi hge
            have p7 := hpre 7 (by kernel_rfl)
            obtain ⟨G, eG, _, hGl, hGB⟩ : ∃ G, s7 = .pointer (some ⟨G, 0, none⟩) ∧ (∀ k, none = some k → G = k) ∧ W0.heap.size ≤ G ∧ Wr.heap[G]? = some (.cells (if listed.getD 8 false = true then #[.string (numS p), .string (denS p)] else #[.string { data := #[] }, .string { data := #[] }]) 23 (0, 0)) := hF.get 7 _ rfl (.inr p7)
            subst eG
            rw [if_neg (bit_off hun)] at hGB
            have HGB := Lib.hid hGB
            clear hGB
            have p6 := hpre 6 (by kernel_rfl)
            have e6 : s6 = .agg #[.string (numS p), .string (denS p)] := hF.get 6 _ rfl (.inr p6)
            subst e6
            obtain ⟨⟨y0, y1⟩, g0, g1⟩ := two_at HGB.out
            refine step_of ⟨none, _, _, _, _, _⟩ rfl (fun K' hK => ?_)
            go_simp
            refine hK.out _ _ ⟨undef, hF.put hok hna hpre hun rfl undef rfl (.inr p7) rfl (set2_at HGB.out (.string (numS p)) (.string (denS p))) (fun k hk => set2_other _ _ (.string (numS p)) (.string (denS p)) hk) (put2_below hGl _ (.string (numS p)) (.string (denS p))), ?fr⟩
            case fr => simp only [putO, layL]
  case hd =>
    rintro listed vs WA hF hall
    obtain ⟨s0, s1, s2, s3, s4, s5, s6, s7, s8, hvs⟩ := exl_of 9 vs (fun l => vs = l) hF.len rfl
    subst hvs
    obtain ⟨b14, e7, _, gq, k7⟩ : ∃ G, s7 = .pointer (some ⟨G, 0, none⟩) ∧ (∀ k, none = some k → G = k) ∧ _ ≤ G ∧ WA.heap[G]? = some (.cells (if listed.getD 8 false = true then #[.string (numS p), .string (denS p)] else #[.string { data := #[] }, .string { data := #[] }]) 23 (0, 0)) := hF.get 7 _ rfl (.inr (hall 7 (by decide)))
    subst e7
    rw [if_pos (hall 8 (by decide))] at k7
    have H14 := Lib.hid k7
    clear k7
    have ge14 := Lib.hid gq
    clear gq
    have hq := below_none hF.low
    replace H6 := Lib.hid (keep_block H6.out hq)
    replace H9 := Lib.hid (keep_block H9.out hq)
    replace H10 := Lib.hid (keep_block H10.out hq)
    replace H12 := Lib.hid (keep_block H12.out hq)
    replace H13 := Lib.hid (keep_block H13.out hq)
    replace HE := Lib.hid (HE.out.below hq)
    replace HG := Lib.hid (HG.out.trans (hq.mono HG.out.size))
    clear hq
    clear hF hall hok hna hla
    simp only [putO, layL]
    have L14_6 : Hid (W.heap.size < b14) := Lib.hid (by have := lt_6.out; have := ge14.out; omega)
    have L14_9 : Hid (W.heap.size + 1 < b14) := Lib.hid (by have := lt_9.out; have := ge14.out; omega)
    have L14_10 : Hid (W.heap.size + 2 < b14) := Lib.hid (by have := lt_10.out; have := ge14.out; omega)
    have L14_12 : Hid (W.heap.size + 3 < b14) := Lib.hid (by have := lt_12.out; have := ge14.out; omega)
    have L14_13 : Hid (W.heap.size + 4 < b14) := Lib.hid (by have := lt_13.out; have := ge14.out; omega)
    have G14 : Hid (W.heap.size ≤ b14) := Lib.hid (by have := geW.out; have := ge14.out; omega)
    clear geW lt_6 lt_9 lt_10 lt_12 lt_13
    go_wp2_with fail
    refine (Qc2.out _ HE.out).mono ?_
    rintro e w1 ⟨rfl, hb⟩
    replace H6 := Lib.hid (keep_block H6.out hb)
    replace H9 := Lib.hid (keep_block H9.out hb)
    replace H10 := Lib.hid (keep_block H10.out hb)
    replace H12 := Lib.hid (keep_block H12.out hb)
    replace H13 := Lib.hid (keep_block H13.out hb)
    replace H14 := Lib.hid (keep_block H14.out hb)
    replace HE := Lib.hid (HE.out.below hb)
    replace HG := Lib.hid (HG.out.trans (hb.mono HG.out.size))
    clear hb
    have lt_6 := heap_lt H6.out
    have lt_9 := heap_lt H9.out
    have lt_10 := heap_lt H10.out
    have lt_12 := heap_lt H12.out
    have lt_13 := heap_lt H13.out
    have lt_14 := heap_lt H14.out
    have geW := HG.out.size
    have L15_6 : Hid (W.heap.size < w1.heap.size) := Lib.hid (by omega)
    have L15_9 : Hid (W.heap.size + 1 < w1.heap.size) := Lib.hid (by omega)
    have L15_10 : Hid (W.heap.size + 2 < w1.heap.size) := Lib.hid (by omega)
    have L15_12 : Hid (W.heap.size + 3 < w1.heap.size) := Lib.hid (by omega)
    have L15_13 : Hid (W.heap.size + 4 < w1.heap.size) := Lib.hid (by omega)
    have L15_14 : Hid (b14 < w1.heap.size) := Lib.hid (by omega)
    have G15 : Hid (W.heap.size ≤ w1.heap.size) := Lib.hid (by omega)
    have hb : Below w1.heap.size w1 (w1.alloc (.cells #[.string (numS zz), .string (denS zz)] 23)) := (Below.refl _ _).alloc (Nat.le_refl _) _
    replace H6 := Lib.hid (keep_block H6.out hb)
    replace H9 := Lib.hid (keep_block H9.out hb)
    replace H10 := Lib.hid (keep_block H10.out hb)
    replace H12 := Lib.hid (keep_block H12.out hb)
    replace H13 := Lib.hid (keep_block H13.out hb)
    replace H14 := Lib.hid (keep_block H14.out hb)
    replace HE := Lib.hid (HE.out.below hb)
    replace HG := Lib.hid (HG.out.trans (hb.mono HG.out.size))
    have H15 := Lib.hid (heap_alloc_new w1 (.cells #[.string (numS zz), .string (denS zz)] 23))
    clear hb
    clear geW lt_6 lt_9 lt_10 lt_12 lt_13 lt_14
    obtain ⟨WL2, hWL2⟩ : ∃ Z, (w1.alloc (.cells #[.string (numS zz), .string (denS zz)] 23)) = Z := ⟨_, rfl⟩
    rw [hWL2] at HE HG H6 H9 H10 H12 H13 H14 H15
    have EWL2 := Lib.hid hWL2
    clear hWL2
    obtain ⟨B15, hB15⟩ : ∃ z, w1.heap.size = z := ⟨_, rfl⟩
    rw [hB15] at H15 G15 L15_6 L15_9 L15_10 L15_12 L15_13 L15_14
    have EB15 := Lib.hid hB15
    clear hB15
    go_wp2_with fail
    rw [EWL2.out]
    rw [EB15.out]
    have := L14_6.out
    have := L14_9.out
    have := L14_10.out
    have := L14_12.out
    have := L14_13.out
    have := L15_6.out
    have := L15_9.out
    have := L15_10.out
    have := L15_12.out
    have := L15_13.out
    have := L15_14.out
    have := HG.out.size
    have := G14.out
    have := G15.out
    have hok : okB 6 (part_e1Ks6 r v w0 g s p zz ii qq o n k W b14 B15) = true := by kernel_rfl
    have hna := noAny_of (ks := (part_e1Ks6 r v w0 g s p zz ii qq o n k W b14 B15)) (by kernel_rfl)
    have hla := lasts_of hna
    refine wp_region_facts (row := none) (w := W) 6 (part_e1Ks6 r v w0 g s p zz ii qq o n k W b14 B15) [some 42, some 43, some 44, some 45, some 46, none] (by kernel_rfl) (by kernel_rfl) rfl [undef, undef, undef, undef, undef, undef, .pointer (some ⟨W.heap.size, 0, none⟩), .pointer (some ⟨W.heap.size + 1, 0, none⟩), .pointer (some ⟨W.heap.size + 2, 0, none⟩), .pointer (some ⟨W.heap.size + 3, 0, none⟩), .pointer (some ⟨W.heap.size + 4, 0, none⟩), .pointer (some ⟨b14, 0, none⟩), .pointer (some ⟨B15, 0, none⟩)] ?h00 (Fs.start_olds hla rfl (only_of_below HG.out none) ⟨⟨_, rfl, fun _ h => Option.some.inj h, by omega, H6.out⟩, fun _ => ⟨fun _ => far_of (by omega), fun _ => far_of (by omega), fun _ => far_of (by omega), fun _ => far_of (by omega), fun _ => far_of (by omega), fun _ => far_of (by omega), trivial⟩, ⟨⟨_, rfl, fun _ h => Option.some.inj h, by omega, H9.out⟩, fun _ => ⟨fun _ => far_of (by omega), fun _ => far_of (by omega), fun _ => far_of (by omega), fun _ => far_of (by omega), fun _ => far_of (by omega), trivial⟩, ⟨⟨_, rfl, fun _ h => Option.some.inj h, by omega, H10.out⟩, fun _ => ⟨fun _ => far_of (by omega), fun _ => far_of (by omega), fun _ => far_of (by omega), fun _ => far_of (by omega), trivial⟩, ⟨⟨_, rfl, fun _ h => Option.some.inj h, by omega, H12.out⟩, fun _ => ⟨fun _ => far_of (by omega), fun _ => far_of (by omega), fun _ => far_of (by omega), trivial⟩, ⟨⟨_, rfl, fun _ h => Option.some.inj h, by omega, H13.out⟩, fun _ => ⟨fun _ => far_of (by omega), fun _ => far_of (by omega), trivial⟩, ⟨⟨_, rfl, fun _ h => Option.some.inj h, by omega, H14.out⟩, fun _ => ⟨fun _ => far_of (by omega), trivial⟩, ⟨⟨_, rfl, fun _ h => Option.some.inj h, by omega, H15.out⟩, fun _ => trivial, trivial⟩⟩⟩⟩⟩⟩⟩) ?hs ?hd
    case h00 => simp only [putO, layL]
    case hs =>
      rintro listed vs Wr hF i hi hun hpre
      obtain ⟨s0, s1, s2, s3, s4, s5, o0, o1, o2, o3, o4, o5, o6, hvs⟩ := exl_of 13 vs (fun l => vs = l) hF.len rfl
      subst hvs
      obtain ⟨eG0, gG0, hO0⟩ := old_of hF (i := 6) rfl (.inl (by decide))
      replace eG0 : o0 = _ := eG0
      subst eG0
      obtain ⟨eG1, gG1, hO1⟩ := old_of hF (i := 7) rfl (.inl (by decide))
      replace eG1 : o1 = _ := eG1
      subst eG1
      obtain ⟨eG2, gG2, hO2⟩ := old_of hF (i := 8) rfl (.inl (by decide))
      replace eG2 : o2 = _ := eG2
      subst eG2
      obtain ⟨eG3, gG3, hO3⟩ := old_of hF (i := 9) rfl (.inl (by decide))
      replace eG3 : o3 = _ := eG3
      subst eG3
      obtain ⟨eG4, gG4, hO4⟩ := old_of hF (i := 10) rfl (.inl (by decide))
      replace eG4 : o4 = _ := eG4
      subst eG4
      obtain ⟨eG5, gG5, hO5⟩ := old_of hF (i := 11) rfl (.inl (by decide))
      replace eG5 : o5 = _ := eG5
      subst eG5
      obtain ⟨eG6, gG6, hO6⟩ := old_of hF (i := 12) rfl (.inl (by decide))
      replace eG6 : o6 = _ := eG6
      subst eG6
      have hge := Nat.zero_le i
      simp only [putO, layL]
      rcases Nat.lt_or_ge i 3 with hlt | hgt
      · replace hi := hlt
        clear hlt
        rcases Nat.lt_or_ge i 1 with hlt | hgt
        · replace hi := hlt
          clear hlt
          obtain rfl := eqi hi hge
          rw [if_neg (fun h => bit_off hun (hF.back 5 0 h (by kernel_rfl)))] at hO6
          have hcc := (two_at (hO6)).1
          have cH150 := hcc.1
          have cH151 := hcc.2
          clear hcc
          refine step_of ⟨some 42, _, _, _, _, _⟩ rfl (fun K' hK => ?_)
          go_simp
          refine hK.out _ _ ⟨_, hF.pure hok hla hpre rfl (Below.refl _ _), ?fr⟩
          case fr => simp only [putO, layL]
        · replace hge : 1 ≤ i := hgt
          clear hgt
          rcases Nat.lt_or_ge i 2 with hlt | hgt
          · replace hi := hlt
            clear hlt
            obtain rfl := eqi hi hge
            have o0 := ((HE0.out.below (below_none hF.low))).one 0 (by decide)
            have o1 := ((HE0.out.below (below_none hF.low))).one 1 (by decide)
            refine step_of ⟨some 43, _, _, _, _, _⟩ rfl (fun K' hK => ?_)
            go_simp
            refine hK.out _ _ ⟨_, hF.pure hok hla hpre rfl (Below.refl _ _), ?fr⟩
            case fr => simp only [putO, layL]
          · replace hge : 2 ≤ i := hgt
            clear hgt
            obtain rfl := eqi hi hge
            rw [if_neg (hF.unst (by decide))] at hO0
            have hcc := (two_at (hO0)).1
            have cH60 := hcc.1
            have cH61 := hcc.2
            clear hcc
            refine step_of ⟨some 44, _, _, _, _, _⟩ rfl (fun K' hK => ?_)
            go_simp
            refine hK.out _ _ ⟨_, hF.pure hok hla hpre rfl (Below.refl _ _), ?fr⟩
            case fr => simp only [putO, layL]
      · replace hge : 3 ≤ i := hgt
        clear hgt
        rcases Nat.lt_or_ge i 4 with hlt | hgt
        · replace hi := hlt
          clear hlt
          obtain rfl := eqi hi hge
          have p1 := hpre 1 (by kernel_rfl)
          have e1 : s1 = .agg #[.string { data := #[49] }, .string { data := #[49] }] := hF.get 1 _ rfl (.inr p1)
          subst e1
          have p2 := hpre 2 (by kernel_rfl)
          have e2 : s2 = .agg #[.string (numS r), .string (denS r)] := hF.get 2 _ rfl (.inr p2)
          subst e2
          refine step_of ⟨some 45, _, _, _, _, _⟩ rfl (fun K' hK => ?_)
          go_simp
          go_at_call 92
          (with_reducible refine (Qc3.out _ (HE0.out.below (below_none hF.low))).mono ?_)
          rintro e Wq ⟨rfl, hq⟩
          refine hK.out _ _ ⟨_, hF.pure hok hla hpre rfl hq, ?fr⟩
          case fr => simp only [putO, layL]
        · replace hge : 4 ≤ i := hgt
          clear hgt
          rcases Nat.lt_or_ge i 5 with hlt | hgt
          · replace hi := hlt
            clear hlt
            obtain rfl := eqi hi hge
            have p0 := hpre 0 (by kernel_rfl)
            have e0 : s0 = .agg #[.string (numS zz), .string (denS zz)] := hF.get 0 _ rfl (.inr p0)
            subst e0
            have p3 := hpre 3 (by kernel_rfl)
            have e3 : s3 = .agg #[.string (numS o), .string (denS o)] := hF.get 3 _ rfl (.inr p3)
            subst e3
            refine step_of ⟨some 46, _, _, _, _, _⟩ rfl (fun K' hK => ?_)
            go_simp
            go_at_call 91
            (with_reducible refine (Qc4.out _ (HE0.out.below (below_none hF.low))).mono ?_)
            rintro e Wq ⟨rfl, hq⟩
            refine hK.out _ _ ⟨_, hF.pure hok hla hpre rfl hq, ?fr⟩
            case fr => simp only [putO, layL]
          · replace hge : 5 ≤ i := hgt
            clear hgt
            obtain rfl := eqi hi hge
            have p4 := hpre 4 (by kernel_rfl)
            have e4 : s4 = .agg #[.string (numS ii), .string (denS ii)] := hF.get 4 _ rfl (.inr p4)
            subst e4
            rw [if_neg (bit_off hun)] at hO6
            have HGB := Lib.hid hO6
            obtain ⟨⟨y0, y1⟩, g0, g1⟩ := two_at HGB.out
            refine step_of ⟨none, _, _, _, _, _⟩ rfl (fun K' hK => ?_)
            go_simp
            refine hK.out _ _ ⟨undef, hF.put hok hna hpre hun rfl undef rfl (.inl (by decide)) rfl (set2_at HGB.out (.string (numS ii)) (.string (denS ii))) (fun k hk => set2_other _ _ (.string (numS ii)) (.string (denS ii)) hk) (put2_below gG6 _ (.string (numS ii)) (.string (denS ii))), ?fr⟩
            case fr => simp only [putO, layL]
    case hd =>
      rintro listed vs WC hF hall
      obtain ⟨s0, s1, s2, s3, s4, s5, o0, o1, o2, o3, o4, o5, o6, hvs⟩ := exl_of 13 vs (fun l => vs = l) hF.len rfl
      subst hvs
      obtain ⟨eG0, gG0, hO0⟩ := old_of hF (i := 6) rfl (.inl (by decide))
      replace eG0 : o0 = _ := eG0
      subst eG0
      obtain ⟨eG1, gG1, hO1⟩ := old_of hF (i := 7) rfl (.inl (by decide))
      replace eG1 : o1 = _ := eG1
      subst eG1
      obtain ⟨eG2, gG2, hO2⟩ := old_of hF (i := 8) rfl (.inl (by decide))
      replace eG2 : o2 = _ := eG2
      subst eG2
      obtain ⟨eG3, gG3, hO3⟩ := old_of hF (i := 9) rfl (.inl (by decide))
      replace eG3 : o3 = _ := eG3
      subst eG3
      obtain ⟨eG4, gG4, hO4⟩ := old_of hF (i := 10) rfl (.inl (by decide))
      replace eG4 : o4 = _ := eG4
      subst eG4
      obtain ⟨eG5, gG5, hO5⟩ := old_of hF (i := 11) rfl (.inl (by decide))
      replace eG5 : o5 = _ := eG5
      subst eG5
      obtain ⟨eG6, gG6, hO6⟩ := old_of hF (i := 12) rfl (.inl (by decide))
      replace eG6 : o6 = _ := eG6
      subst eG6
      rw [if_neg (hF.unst (by decide))] at hO0
      replace H6 := Lib.hid hO0
      clear hO0
      rw [if_neg (hF.unst (by decide))] at hO1
      replace H9 := Lib.hid hO1
      clear hO1
      rw [if_neg (hF.unst (by decide))] at hO2
      replace H10 := Lib.hid hO2
      clear hO2
      rw [if_neg (hF.unst (by decide))] at hO3
      replace H12 := Lib.hid hO3
      clear hO3
      rw [if_neg (hF.unst (by decide))] at hO4
      replace H13 := Lib.hid hO4
      clear hO4
      rw [if_neg (hF.unst (by decide))] at hO5
      replace H14 := Lib.hid hO5
      clear hO5
      rw [if_pos (hall 5 (by decide))] at hO6
      replace H15 := Lib.hid hO6
      clear hO6
      have HQ := Lib.hid hF.low
      clear hF hall hok hna hla
      simp only [putO, layL]
      replace HG := Lib.hid (below_none HQ.out)
      clear HQ
      replace HE := Lib.hid (HE0.out.below HG.out)
      go_wp2_with fail
      have := L14_6.out
      have := L14_9.out
      have := L14_10.out
      have := L14_12.out
      have := L14_13.out
      have := L15_6.out
      have := L15_9.out
      have := L15_10.out
      have := L15_12.out
      have := L15_13.out
      have := L15_14.out
      have := HG.out.size
      have := G14.out
      have := G15.out
      have hok : okB 6 (part_e1Ks7 r v w0 g s p zz ii qq o n k W b14 B15) = true := by kernel_rfl
      have hna := noAny_of (ks := (part_e1Ks7 r v w0 g s p zz ii qq o n k W b14 B15)) (by kernel_rfl)
      have hla := lasts_of hna
      refine wp_region_facts (row := none) (w := W) 6 (part_e1Ks7 r v w0 g s p zz ii qq o n k W b14 B15) [some 47, some 48, some 49, some 50, none, none] (by kernel_rfl) (by kernel_rfl) rfl [undef, undef, undef, undef, undef, undef, .pointer (some ⟨W.heap.size, 0, none⟩), .pointer (some ⟨W.heap.size + 1, 0, none⟩), .pointer (some ⟨W.heap.size + 2, 0, none⟩), .pointer (some ⟨W.heap.size + 3, 0, none⟩), .pointer (some ⟨W.heap.size + 4, 0, none⟩), .pointer (some ⟨b14, 0, none⟩), .pointer (some ⟨B15, 0, none⟩)] ?h00 (Fs.start_olds hla rfl (only_of_below HG.out none) ⟨⟨_, rfl, fun _ h => Option.some.inj h, by omega, H6.out⟩, fun _ => ⟨fun _ => far_of (by omega), fun _ => far_of (by omega), fun _ => far_of (by omega), fun _ => far_of (by omega), fun _ => far_of (by omega), fun _ => far_of (by omega), trivial⟩, ⟨⟨_, rfl, fun _ h => Option.some.inj h, by omega, H9.out⟩, fun _ => ⟨fun _ => far_of (by omega), fun _ => far_of (by omega), fun _ => far_of (by omega), fun _ => far_of (by omega), fun _ => far_of (by omega), trivial⟩, ⟨⟨_, rfl, fun _ h => Option.some.inj h, by omega, H10.out⟩, fun _ => ⟨fun _ => far_of (by omega), fun _ => far_of (by omega), fun _ => far_of (by omega), fun _ => far_of (by omega), trivial⟩, ⟨⟨_, rfl, fun _ h => Option.some.inj h, by omega, H12.out⟩, fun _ => ⟨fun _ => far_of (by omega), fun _ => far_of (by omega), fun _ => far_of (by omega), trivial⟩, ⟨⟨_, rfl, fun _ h => Option.some.inj h, by omega, H13.out⟩, fun _ => ⟨fun _ => far_of (by omega), fun _ => far_of (by omega), trivial⟩, ⟨⟨_, rfl, fun _ h => Option.some.inj h, by omega, H14.out⟩, fun _ => ⟨fun _ => far_of (by omega), trivial⟩, ⟨⟨_, rfl, fun _ h => Option.some.inj h, by omega, H15.out⟩, fun _ => trivial, trivial⟩⟩⟩⟩⟩⟩⟩) ?hs ?hd
      case h00 => simp only [putO, layL]
      case hs =>
        rintro listed vs Wr hF i hi hun hpre
        obtain ⟨s0, s1, s2, s3, s4, s5, o0, o1, o2, o3, o4, o5, o6, hvs⟩ := exl_of 13 vs (fun l => vs = l) hF.len rfl
        subst hvs
        obtain ⟨eG0, gG0, hO0⟩ := old_of hF (i := 6) rfl (.inl (by decide))
        replace eG0 : o0 = _ := eG0
        subst eG0
        obtain ⟨eG1, gG1, hO1⟩ := old_of hF (i := 7) rfl (.inl (by decide))
        replace eG1 : o1 = _ := eG1
        subst eG1
        obtain ⟨eG2, gG2, hO2⟩ := old_of hF (i := 8) rfl (.inl (by decide))
        replace eG2 : o2 = _ := eG2
        subst eG2
        obtain ⟨eG3, gG3, hO3⟩ := old_of hF (i := 9) rfl (.inl (by decide))
        replace eG3 : o3 = _ := eG3
        subst eG3
        obtain ⟨eG4, gG4, hO4⟩ := old_of hF (i := 10) rfl (.inl (by decide))
        replace eG4 : o4 = _ := eG4
        subst eG4
        obtain ⟨eG5, gG5, hO5⟩ := old_of hF (i := 11) rfl (.inl (by decide))
        replace eG5 : o5 = _ := eG5
        subst eG5
        obtain ⟨eG6, gG6, hO6⟩ := old_of hF (i := 12) rfl (.inl (by decide))
        replace eG6 : o6 = _ := eG6
        subst eG6
        have hge := Nat.zero_le i
        simp only [putO, layL]
        rcases Nat.lt_or_ge i 3 with hlt | hgt
        · replace hi := hlt
          clear hlt
          rcases Nat.lt_or_ge i 1 with hlt | hgt
          · replace hi := hlt
            clear hlt
            obtain rfl := eqi hi hge
            rw [if_neg (hF.unst (by decide))] at hO6
            have hcc := (two_at (hO6)).1
            have cH150 := hcc.1
            have cH151 := hcc.2
            clear hcc
            refine step_of ⟨some 47, _, _, _, _, _⟩ rfl (fun K' hK => ?_)
            go_simp
            refine hK.out _ _ ⟨_, hF.pure hok hla hpre rfl (Below.refl _ _), ?fr⟩
            case fr => simp only [putO, layL]
          · replace hge : 1 ≤ i := hgt
            clear hgt
            rcases Nat.lt_or_ge i 2 with hlt | hgt
            · replace hi := hlt
              clear hlt
              obtain rfl := eqi hi hge
              rw [if_neg (hF.unst (by decide))] at hO5
              have hcc := (two_at (hO5)).1
              have cH140 := hcc.1
              have cH141 := hcc.2
              clear hcc
              refine step_of ⟨some 48, _, _, _, _, _⟩ rfl (fun K' hK => ?_)
              go_simp
              refine hK.out _ _ ⟨_, hF.pure hok hla hpre rfl (Below.refl _ _), ?fr⟩
              case fr => simp only [putO, layL]
            · replace hge : 2 ≤ i := hgt
              clear hgt
              obtain rfl := eqi hi hge
              rw [if_neg (hF.unst (by decide))] at hO6
              have hcc := (two_at (hO6)).1
              have cH150 := hcc.1
              have cH151 := hcc.2
              clear hcc
              refine step_of ⟨some 49, _, _, _, _, _⟩ rfl (fun K' hK => ?_)
              go_simp
              refine hK.out _ _ ⟨_, hF.pure hok hla hpre rfl (Below.refl _ _), ?fr⟩
              case fr => simp only [putO, layL]
        · replace hge : 3 ≤ i := hgt
          clear hgt
          rcases Nat.lt_or_ge i 4 with hlt | hgt
          · replace hi := hlt
            clear hlt
            obtain rfl := eqi hi hge
            have p1 := hpre 1 (by kernel_rfl)
            have e1 : s1 = .agg #[.string (numS p), .string (denS p)] := hF.get 1 _ rfl (.inr p1)
            subst e1
            have p2 := hpre 2 (by kernel_rfl)
            have e2 : s2 = .agg #[.string (numS ii), .string (denS ii)] := hF.get 2 _ rfl (.inr p2)
            subst e2
            refine step_of ⟨some 50, _, _, _, _, _⟩ rfl (fun K' hK => ?_)
            go_simp
            go_at_call 107
            (with_reducible refine (Qc5.out _ (HE0.out.below (below_none hF.low))).mono ?_)
            rintro e Wq ⟨rfl, hq⟩
            refine hK.out _ _ ⟨_, hF.pure hok hla hpre rfl hq, ?fr⟩
            case fr => simp only [putO, layL]
          · replace hge : 4 ≤ i := hgt
            clear hgt
            rcases Nat.lt_or_ge i 5 with hlt | hgt
            · replace hi := hlt
              clear hlt
              obtain rfl := eqi hi hge
              have p0 := hpre 0 (by kernel_rfl)
              have e0 : s0 = .agg #[.string (numS ii), .string (denS ii)] := hF.get 0 _ rfl (.inr p0)
              subst e0
              rw [if_neg (bit_off hun)] at hO3
              have HGB := Lib.hid hO3
              obtain ⟨⟨y0, y1⟩, g0, g1⟩ := two_at HGB.out
              refine step_of ⟨none, _, _, _, _, _⟩ rfl (fun K' hK => ?_)
              go_simp
              refine hK.out _ _ ⟨undef, hF.put hok hna hpre hun rfl undef rfl (.inl (by decide)) rfl (set2_at HGB.out (.string (numS ii)) (.string (denS ii))) (fun k hk => set2_other _ _ (.string (numS ii)) (.string (denS ii)) hk) (put2_below gG3 _ (.string (numS ii)) (.string (denS ii))), ?fr⟩
              case fr => simp only [putO, layL]
            · replace hge : 5 ≤ i := hgt
              clear hgt
              obtain rfl := eqi hi hge
              have p3 := hpre 3 (by kernel_rfl)
              have e3 : s3 = .agg #[.string (numS qq), .string (denS qq)] := hF.get 3 _ rfl (.inr p3)
              subst e3
              rw [if_neg (bit_off hun)] at hO4
              have HGB := Lib.hid hO4
              obtain ⟨⟨y0, y1⟩, g0, g1⟩ := two_at HGB.out
              refine step_of ⟨none, _, _, _, _, _⟩ rfl (fun K' hK => ?_)
              go_simp
              refine hK.out _ _ ⟨undef, hF.put hok hna hpre hun rfl undef rfl (.inl (by decide)) rfl (set2_at HGB.out (.string (numS qq)) (.string (denS qq))) (fun k hk => set2_other _ _ (.string (numS qq)) (.string (denS qq)) hk) (put2_below gG4 _ (.string (numS qq)) (.string (denS qq))), ?fr⟩
              case fr => simp only [putO, layL]
      case hd =>
        rintro listed vs WD hF hall
        obtain ⟨s0, s1, s2, s3, s4, s5, o0, o1, o2, o3, o4, o5, o6, hvs⟩ := exl_of 13 vs (fun l => vs = l) hF.len rfl
        subst hvs
        obtain ⟨eG0, gG0, hO0⟩ := old_of hF (i := 6) rfl (.inl (by decide))
        replace eG0 : o0 = _ := eG0
        subst eG0
        obtain ⟨eG1, gG1, hO1⟩ := old_of hF (i := 7) rfl (.inl (by decide))
        replace eG1 : o1 = _ := eG1
        subst eG1
        obtain ⟨eG2, gG2, hO2⟩ := old_of hF (i := 8) rfl (.inl (by decide))
        replace eG2 : o2 = _ := eG2
        subst eG2
        obtain ⟨eG3, gG3, hO3⟩ := old_of hF (i := 9) rfl (.inl (by decide))
        replace eG3 : o3 = _ := eG3
        subst eG3
        obtain ⟨eG4, gG4, hO4⟩ := old_of hF (i := 10) rfl (.inl (by decide))
        replace eG4 : o4 = _ := eG4
        subst eG4
        obtain ⟨eG5, gG5, hO5⟩ := old_of hF (i := 11) rfl (.inl (by decide))
        replace eG5 : o5 = _ := eG5
        subst eG5
        obtain ⟨eG6, gG6, hO6⟩ := old_of hF (i := 12) rfl (.inl (by decide))
        replace eG6 : o6 = _ := eG6
        subst eG6
        rw [if_neg (hF.unst (by decide))] at hO0
        replace H6 := Lib.hid hO0
        clear hO0
        rw [if_neg (hF.unst (by decide))] at hO1
        replace H9 := Lib.hid hO1
        clear hO1
        rw [if_neg (hF.unst (by decide))] at hO2
        replace H10 := Lib.hid hO2
        clear hO2
        rw [if_pos (hall 4 (by decide))] at hO3
        replace H12 := Lib.hid hO3
        clear hO3
        rw [if_pos (hall 5 (by decide))] at hO4
        replace H13 := Lib.hid hO4
        clear hO4
        rw [if_neg (hF.unst (by decide))] at hO5
        replace H14 := Lib.hid hO5
        clear hO5
        rw [if_neg (hF.unst (by decide))] at hO6
        replace H15 := Lib.hid hO6
        clear hO6
        have HQ := Lib.hid hF.low
        clear hF hall hok hna hla
        simp only [putO, layL]
        replace HG := Lib.hid (below_none HQ.out)
        clear HQ
        replace HE := Lib.hid (HE0.out.below HG.out)
        obtain ⟨⟨x12_0, x12_1⟩, x12_f0, x12_f1⟩ := two_at H12.out
        obtain ⟨⟨x13_0, x13_1⟩, x13_f0, x13_f1⟩ := two_at H13.out
        go_wp2
        refine bodyPost_ret (v := .tuple #[.agg #[.string (numS ii), .string (denS ii)], .agg #[.string (numS qq), .string (denS qq)]]) (by simp [results, Tryz.results213, go_sem, x12_0, x12_1, x13_0, x13_1]) rfl ⟨rfl, HG.out⟩

set_option linter.unusedVariables false in
/-- what the operations of region 2 yield -/
def fy_FVKs2 (r qn p v qe g1 s x : Rat) (n e : Int) (W : World) (w5 : World) : List RK :=
  [.pure (.agg #[.string (numS r), .string (denS r)]),
   .pure (.int .i64 n),
   .pure (.int .i64 e),
   .pure (.agg #[.string (numS r), .string (denS r), .string (numS g1), .string (denS g1), .string (numS s), .string (denS s)]),
   .pure (.agg #[.string (numS p), .string (denS p)]),
   .pure (.agg #[.string (numS v), .string (denS v)]),
   .pure (.agg #[.string (numS x), .string (denS x)]),
   .put 8,
   .box (some (W.heap.size)) #[.string { data := #[] }, .string { data := #[] }] #[.string (numS x), .string (denS x)] 23 7,
   .box (some (w5.heap.size)) #[.string (numS r), .string (denS r)] #[.string (numS r), .string (denS r)] 23 12,
   .box (some (w5.heap.size + 1)) #[.string (numS p), .string (denS p)] #[.string (numS p), .string (denS p)] 23 12,
   .box (some (w5.heap.size + 2)) #[.string (numS v), .string (denS v)] #[.string (numS v), .string (denS v)] 23 12]
set_option linter.unusedSimpArgs false in
set_option linter.unusedVariables false in
set_option maxHeartbeats 4000000 in
set_option maxRecDepth 100000 in
theorem fy_FV (r qn p v qe g1 s x : Rat) (n e : Int) (b g C : Nat) (W : World) (hq0 : fits r = true)
    (hq1 : fits qn = true)
    (hw1 : qn.floor = n)
    (hq2 : fits p = true)
    (hq3 : fits v = true)
    (hq4 : fits qe = true)
    (hw4 : qe.floor = e)
    (hn0 : 0 ≤ n)
    (hn1 : n ≤ 1000)
    (he0 : 0 ≤ e)
    (he1 : e ≤ 1)
    (c0 : Fun3 87 (.agg #[.string (numS r), .string (denS r)]) (.int .i64 n) (.int .i64 e) (.agg #[.string (numS r), .string (denS r), .string (numS g1), .string (denS g1), .string (numS s), .string (denS s)]))
    (c1 : Fun3 88 (.agg #[.string (numS r), .string (denS r), .string (numS g1), .string (denS g1), .string (numS s), .string (denS s)]) (.agg #[.string (numS p), .string (denS p)]) (.agg #[.string (numS v), .string (denS v)]) (.agg #[.string (numS x), .string (denS x)])) (ha : ArgsAt W b (some ⟨g, 0, none⟩) 5 C 0) (hne : g ≠ b) (hc0 : NumCells W g (0 + 0 * 9) r) (hc1 : NumCells W g (0 + 1 * 9) qn) (hc2 : NumCells W g (0 + 2 * 9) p) (hc3 : NumCells W g (0 + 3 * 9) v) (hc4 : NumCells W g (0 + 4 * 9) qe) (hE : EnvY W) (hP : Past b) :
    Calls Tryz.prog 82 #[.pointer (some ⟨b, 0, none⟩)] W fun e w' => e = .returned (.agg #[.string (numS x), .string (denS x)]) ∧ W.grownBy w' (some b) := by
  have Qc0 := Lib.hid c0
  have Qc1 := Lib.hid c1
  unfold Fun3 at Qc0 Qc1
  have TA0 := Lib.hid (fun W' ga gc ge => argNum_any b g 0 5 C 0 r W' ga (by decide) (by decide) hne gc hq0 ge hP)
  rw [fracV_is r] at TA0
  have TA1 := Lib.hid (fun W' ga gc ge => argWhole_any b g 0 5 C 1 qn W' ga (by decide) (by decide) hne gc hq1 (by rw [hw1]; omega) (by rw [hw1]; omega) ge hP)
  rw [hw1] at TA1
  have TA2 := Lib.hid (fun W' ga gc ge => argNum_any b g 0 5 C 2 p W' ga (by decide) (by decide) hne gc hq2 ge hP)
  rw [fracV_is p] at TA2
  have TA3 := Lib.hid (fun W' ga gc ge => numOr_some b g 0 5 C 3 v 0 W' ga (by decide) (by decide) hne gc hq3 ge hP)
  rw [fracV_is v] at TA3
  have TA4 := Lib.hid (fun W' ga gc ge => wholeOr_some b g 0 5 C 4 qe 0 W' ga (by decide) (by decide) hne gc hq4 (by rw [hw4]; omega) (by rw [hw4]; omega) ge hP)
  rw [hw4] at TA4
  have HP := Lib.hid hP
  have HE0 := Lib.hid hE
  have NG := Lib.hid hne
  have HBW := Lib.hid (heap_lt ha)
  have hb : Below W.heap.size W (W.alloc (.cells #[.string { data := #[] }, .string { data := #[] }] 23)) := ((Below.refl _ _).alloc (Nat.le_refl _) _)
  have HG := Lib.hid (kept_below (b := b) hb)
  have HE := Lib.hid (hE.below hb)
  have HA := Lib.hid (show ArgsAt (W.alloc (.cells #[.string { data := #[] }, .string { data := #[] }] 23)) b (some ⟨g, 0, none⟩) 5 C 0 from keep_block ha hb)
  have HC0 := Lib.hid (NumCells.below hc0 hb)
  have HC1 := Lib.hid (NumCells.below hc1 hb)
  have HC2 := Lib.hid (NumCells.below hc2 hb)
  have HC3 := Lib.hid (NumCells.below hc3 hb)
  have HC4 := Lib.hid (NumCells.below hc4 hb)
  have H2 : Hid ((W.alloc (.cells #[.string { data := #[] }, .string { data := #[] }] 23)).heap[W.heap.size]? = some (.cells #[.string { data := #[] }, .string { data := #[] }] 23 (0, 0))) := Lib.hid (by
    have h := heap_alloc_new W (.cells #[.string { data := #[] }, .string { data := #[] }] 23)
    exact h)
  have NE2 : Hid (W.heap.size ≠ b) := Lib.hid (by have := HBW.out; omega)
  obtain ⟨W0, hW0⟩ : ∃ Z, (W.alloc (.cells #[.string { data := #[] }, .string { data := #[] }] 23)) = Z := ⟨_, rfl⟩
  rw [hW0] at HG HE HA HC0 HC1 HC2 HC3 HC4 H2
  have EW0 := Lib.hid hW0
  clear hW0 hb ha hE hP hne hc0 hc1 hc2 hc3 hc4 c0 c1 hq0 hq1 hw1 hq2 hq3 hq4 hw4 hn0 hn1 he0 he1
  go_enter Tryz.func82, Tryz.ntmps82
  go_wp2_with fail
  rw [EW0.out]
  refine (TA0.out _ HA.out HC0.out (HE.out.e)).mono ?_
  rintro e w1 ⟨rfl, ha, hg⟩
  replace HA := Lib.hid ha
  clear HC0
  replace H2 := Lib.hid (kept_block H2.out hg NE2.out)
  replace HC1 := Lib.hid (HC1.out.kept hg NG.out)
  replace HC2 := Lib.hid (HC2.out.kept hg NG.out)
  replace HC3 := Lib.hid (HC3.out.kept hg NG.out)
  replace HC4 := Lib.hid (HC4.out.kept hg NG.out)
  replace HE := Lib.hid (HE.out.kept hg HP.out)
  replace HG := Lib.hid (kept_trans HG.out hg)
  clear ha hg
  go_wp2_with fail
  refine (TA1.out _ HA.out HC1.out (HE.out.e)).mono ?_
  rintro e w2 ⟨rfl, ha, hg⟩
  replace HA := Lib.hid ha
  clear HC1
  replace H2 := Lib.hid (kept_block H2.out hg NE2.out)
  replace HC2 := Lib.hid (HC2.out.kept hg NG.out)
  replace HC3 := Lib.hid (HC3.out.kept hg NG.out)
  replace HC4 := Lib.hid (HC4.out.kept hg NG.out)
  replace HE := Lib.hid (HE.out.kept hg HP.out)
  replace HG := Lib.hid (kept_trans HG.out hg)
  clear ha hg
  go_wp2_with fail
  refine (TA2.out _ HA.out HC2.out (HE.out.e)).mono ?_
  rintro e w3 ⟨rfl, ha, hg⟩
  replace HA := Lib.hid ha
  clear HC2
  replace H2 := Lib.hid (kept_block H2.out hg NE2.out)
  replace HC3 := Lib.hid (HC3.out.kept hg NG.out)
  replace HC4 := Lib.hid (HC4.out.kept hg NG.out)
  replace HE := Lib.hid (HE.out.kept hg HP.out)
  replace HG := Lib.hid (kept_trans HG.out hg)
  clear ha hg
  go_wp2_with fail
  refine (TA3.out _ HA.out HC3.out (HE.out.e)).mono ?_
  rintro e w4 ⟨rfl, ha, hg⟩
  replace HA := Lib.hid ha
  clear HC3
  replace H2 := Lib.hid (kept_block H2.out hg NE2.out)
  replace HC4 := Lib.hid (HC4.out.kept hg NG.out)
  replace HE := Lib.hid (HE.out.kept hg HP.out)
  replace HG := Lib.hid (kept_trans HG.out hg)
  clear ha hg
  go_wp2_with fail
  refine (TA4.out _ HA.out HC4.out (HE.out.e)).mono ?_
  rintro e w5 ⟨rfl, ha, hg⟩
  replace HA := Lib.hid ha
  clear HC4
  replace H2 := Lib.hid (kept_block H2.out hg NE2.out)
  replace HE := Lib.hid (HE.out.kept hg HP.out)
  replace HG := Lib.hid (kept_trans HG.out hg)
  clear ha hg
  have lt_2 := heap_lt H2.out
  have geW := HG.out.size
  have L3_2 : Hid (W.heap.size < w5.heap.size) := Lib.hid (by omega)
  have G3 : Hid (W.heap.size ≤ w5.heap.size) := Lib.hid (by omega)
  have NE3 : Hid (w5.heap.size ≠ b) := Lib.hid (by have := HBW.out; omega)
  have hb : Below w5.heap.size w5 (w5.alloc (.cells #[.string (numS r), .string (denS r)] 23)) := (Below.refl _ _).alloc (Nat.le_refl _) _
  replace H2 := Lib.hid (keep_block H2.out hb)
  replace HA := Lib.hid (keep_block HA.out hb)
  replace HE := Lib.hid (HE.out.below hb)
  replace HG := Lib.hid (kept_trans HG.out (kept_below hb))
  have H3 := Lib.hid (heap_alloc_new w5 (.cells #[.string (numS r), .string (denS r)] 23))
  clear hb
  have L5_2 : Hid (W.heap.size < w5.heap.size + 1) := Lib.hid (by omega)
  have L5_3 : Hid (w5.heap.size < w5.heap.size + 1) := Lib.hid (by omega)
  have G5 : Hid (W.heap.size ≤ w5.heap.size + 1) := Lib.hid (by omega)
  have NE5 : Hid (w5.heap.size + 1 ≠ b) := Lib.hid (by have := HBW.out; omega)
  have hb : Below (w5.alloc (.cells #[.string (numS r), .string (denS r)] 23)).heap.size (w5.alloc (.cells #[.string (numS r), .string (denS r)] 23)) ((w5.alloc (.cells #[.string (numS r), .string (denS r)] 23)).alloc (.cells #[.string (numS p), .string (denS p)] 23)) := (Below.refl _ _).alloc (Nat.le_refl _) _
  replace H2 := Lib.hid (keep_block H2.out hb)
  replace H3 := Lib.hid (keep_block H3.out hb)
  replace HA := Lib.hid (keep_block HA.out hb)
  replace HE := Lib.hid (HE.out.below hb)
  replace HG := Lib.hid (kept_trans HG.out (kept_below hb))
  have H5 : Hid (((w5.alloc (.cells #[.string (numS r), .string (denS r)] 23)).alloc (.cells #[.string (numS p), .string (denS p)] 23)).heap[w5.heap.size + 1]? = some (.cells #[.string (numS p), .string (denS p)] 23 (0, 0))) := Lib.hid (by
    have h := heap_alloc_new (w5.alloc (.cells #[.string (numS r), .string (denS r)] 23)) (.cells #[.string (numS p), .string (denS p)] 23)
    simp only [World.size_alloc] at h
    exact h)
  clear hb
  have L6_2 : Hid (W.heap.size < w5.heap.size + 2) := Lib.hid (by omega)
  have L6_3 : Hid (w5.heap.size < w5.heap.size + 2) := Lib.hid (by omega)
  have L6_5 : Hid (w5.heap.size + 1 < w5.heap.size + 2) := Lib.hid (by omega)
  have G6 : Hid (W.heap.size ≤ w5.heap.size + 2) := Lib.hid (by omega)
  have NE6 : Hid (w5.heap.size + 2 ≠ b) := Lib.hid (by have := HBW.out; omega)
  have hb : Below ((w5.alloc (.cells #[.string (numS r), .string (denS r)] 23)).alloc (.cells #[.string (numS p), .string (denS p)] 23)).heap.size ((w5.alloc (.cells #[.string (numS r), .string (denS r)] 23)).alloc (.cells #[.string (numS p), .string (denS p)] 23)) (((w5.alloc (.cells #[.string (numS r), .string (denS r)] 23)).alloc (.cells #[.string (numS p), .string (denS p)] 23)).alloc (.cells #[.string (numS v), .string (denS v)] 23)) := (Below.refl _ _).alloc (Nat.le_refl _) _
  replace H2 := Lib.hid (keep_block H2.out hb)
  replace H3 := Lib.hid (keep_block H3.out hb)
  replace H5 := Lib.hid (keep_block H5.out hb)
  replace HA := Lib.hid (keep_block HA.out hb)
  replace HE := Lib.hid (HE.out.below hb)
  replace HG := Lib.hid (kept_trans HG.out (kept_below hb))
  have H6 : Hid ((((w5.alloc (.cells #[.string (numS r), .string (denS r)] 23)).alloc (.cells #[.string (numS p), .string (denS p)] 23)).alloc (.cells #[.string (numS v), .string (denS v)] 23)).heap[w5.heap.size + 2]? = some (.cells #[.string (numS v), .string (denS v)] 23 (0, 0))) := Lib.hid (by
    have h := heap_alloc_new ((w5.alloc (.cells #[.string (numS r), .string (denS r)] 23)).alloc (.cells #[.string (numS p), .string (denS p)] 23)) (.cells #[.string (numS v), .string (denS v)] 23)
    simp only [World.size_alloc] at h
    exact h)
  clear hb
  clear geW lt_2
  obtain ⟨WL1, hWL1⟩ : ∃ Z, (((w5.alloc (.cells #[.string (numS r), .string (denS r)] 23)).alloc (.cells #[.string (numS p), .string (denS p)] 23)).alloc (.cells #[.string (numS v), .string (denS v)] 23)) = Z := ⟨_, rfl⟩
  rw [hWL1] at HE HG H2 H3 H5 H6 HA
  have EWL1 := Lib.hid hWL1
  clear hWL1
  clear HA 
  go_wp2_with fail
  rw [EWL1.out]
  have := L3_2.out
  have := L5_2.out
  have := L5_3.out
  have := L6_2.out
  have := L6_3.out
  have := L6_5.out
  have := HG.out.size
  have := G3.out
  have := G5.out
  have := G6.out
  have hok : okB 8 (fy_FVKs2 r qn p v qe g1 s x n e W w5) = true := by kernel_rfl
  have hna := noAny_of (ks := (fy_FVKs2 r qn p v qe g1 s x n e W w5)) (by kernel_rfl)
  have hla := lasts_of hna
  refine wp_region_facts (row := (some b)) (w := W) 8 (fy_FVKs2 r qn p v qe g1 s x n e W w5) [some 18, some 19, some 20, some 21, some 22, some 23, some 24, none] (by kernel_rfl) (by kernel_rfl) rfl [undef, undef, undef, undef, undef, undef, undef, undef, .pointer (some ⟨W.heap.size, 0, none⟩), .pointer (some ⟨w5.heap.size, 0, none⟩), .pointer (some ⟨w5.heap.size + 1, 0, none⟩), .pointer (some ⟨w5.heap.size + 2, 0, none⟩)] ?h00 (Fs.start_olds hla rfl HG.out ⟨⟨_, rfl, fun _ h => Option.some.inj h, by omega, H2.out⟩, fun _ => ⟨fun _ => far_of (by omega), fun _ => far_of (by omega), fun _ => far_of (by omega), trivial⟩, ⟨⟨_, rfl, fun _ h => Option.some.inj h, by omega, H3.out⟩, fun _ => ⟨fun _ => far_of (by omega), fun _ => far_of (by omega), trivial⟩, ⟨⟨_, rfl, fun _ h => Option.some.inj h, by omega, H5.out⟩, fun _ => ⟨fun _ => far_of (by omega), trivial⟩, ⟨⟨_, rfl, fun _ h => Option.some.inj h, by omega, H6.out⟩, fun _ => trivial, trivial⟩⟩⟩⟩) ?hs ?hd
  case h00 => simp only [putO, layL]
  case hs =>
    rintro listed vs Wr hF i hi hun hpre
    obtain ⟨s0, s1, s2, s3, s4, s5, s6, s7, o0, o1, o2, o3, hvs⟩ := exl_of 12 vs (fun l => vs = l) hF.len rfl
    subst hvs
    obtain ⟨eG0, gG0, hO0⟩ := old_of hF (i := 8) rfl (.inl (by decide))
    replace eG0 : o0 = _ := eG0
    subst eG0
    obtain ⟨eG1, gG1, hO1⟩ := old_of hF (i := 9) rfl (.inl (by decide))
    replace eG1 : o1 = _ := eG1
    subst eG1
    obtain ⟨eG2, gG2, hO2⟩ := old_of hF (i := 10) rfl (.inl (by decide))
    replace eG2 : o2 = _ := eG2
    subst eG2
    obtain ⟨eG3, gG3, hO3⟩ := old_of hF (i := 11) rfl (.inl (by decide))
    replace eG3 : o3 = _ := eG3
    subst eG3
    have hge := Nat.zero_le i
    simp only [putO, layL]
    rcases Nat.lt_or_ge i 4 with hlt | hgt
    · replace hi := hlt
      clear hlt
      rcases Nat.lt_or_ge i 2 with hlt | hgt
      · replace hi := hlt
        clear hlt
        rcases Nat.lt_or_ge i 1 with hlt | hgt
        · replace hi := hlt
          clear hlt
          obtain rfl := eqi hi hge
          rw [if_neg (hF.unst (by decide))] at hO1
          have hcc := (two_at (hO1)).1
          have cH30 := hcc.1
          have cH31 := hcc.2
          clear hcc
          refine step_of ⟨some 18, _, _, _, _, _⟩ rfl (fun K' hK => ?_)
          go_simp
          refine hK.out _ _ ⟨_, hF.pure hok hla hpre rfl (Below.refl _ _), ?fr⟩
          case fr => simp only [putO, layL]
        · replace hge : 1 ≤ i := hgt
          clear hgt
          obtain rfl := eqi hi hge
          refine step_of ⟨some 19, _, _, _, _, _⟩ rfl (fun K' hK => ?_)
          go_simp
          refine hK.out _ _ ⟨_, hF.pure hok hla hpre rfl (Below.refl _ _), ?fr⟩
          case fr => simp only [putO, layL]
      · replace hge : 2 ≤ i := hgt
        clear hgt
        rcases Nat.lt_or_ge i 3 with hlt | hgt
        · replace hi := hlt
          clear hlt
          obtain rfl := eqi hi hge
          refine step_of ⟨some 20, _, _, _, _, _⟩ rfl (fun K' hK => ?_)
          go_simp
          refine hK.out _ _ ⟨_, hF.pure hok hla hpre rfl (Below.refl _ _), ?fr⟩
          case fr => simp only [putO, layL]
        · replace hge : 3 ≤ i := hgt
          clear hgt
          obtain rfl := eqi hi hge
          have p0 := hpre 0 (by kernel_rfl)
          have e0 : s0 = .agg #[.string (numS r), .string (denS r)] := hF.get 0 _ rfl (.inr p0)
          subst e0
          have p1 := hpre 1 (by kernel_rfl)
          have e1 : s1 = .int .i64 n := hF.get 1 _ rfl (.inr p1)
          subst e1
          have p2 := hpre 2 (by kernel_rfl)
          have e2 : s2 = .int .i64 e := hF.get 2 _ rfl (.inr p2)
          subst e2
          refine step_of ⟨some 21, _, _, _, _, _⟩ rfl (fun K' hK => ?_)
          go_simp
          go_at_call 87
          (with_reducible refine (Qc0.out _ (HE0.out.kept hF.low HP.out)).mono ?_)
          rintro e Wq ⟨rfl, hq⟩
          refine hK.out _ _ ⟨_, hF.pure hok hla hpre rfl hq, ?fr⟩
          case fr => simp only [putO, layL]
    · replace hge : 4 ≤ i := hgt
      clear hgt
      rcases Nat.lt_or_ge i 6 with hlt | hgt
      · replace hi := hlt
        clear hlt
        rcases Nat.lt_or_ge i 5 with hlt | hgt
        · replace hi := hlt
          clear hlt
          obtain rfl := eqi hi hge
          rw [if_neg (hF.unst (by decide))] at hO2
          have hcc := (two_at (hO2)).1
          have cH50 := hcc.1
          have cH51 := hcc.2
          clear hcc
          refine step_of ⟨some 22, _, _, _, _, _⟩ rfl (fun K' hK => ?_)
          go_simp
          refine hK.out _ _ ⟨_, hF.pure hok hla hpre rfl (Below.refl _ _), ?fr⟩
          case fr => simp only [putO, layL]
        · replace hge : 5 ≤ i := hgt
          clear hgt
          obtain rfl := eqi hi hge
          rw [if_neg (hF.unst (by decide))] at hO3
          have hcc := (two_at (hO3)).1
          have cH60 := hcc.1
          have cH61 := hcc.2
          clear hcc
          refine step_of ⟨some 23, _, _, _, _, _⟩ rfl (fun K' hK => ?_)
          go_simp
          refine hK.out _ _ ⟨_, hF.pure hok hla hpre rfl (Below.refl _ _), ?fr⟩
          case fr => simp only [putO, layL]
      · replace hge : 6 ≤ i := hgt
        clear hgt
        rcases Nat.lt_or_ge i 7 with hlt | hgt
        · replace hi := hlt
          clear hlt
          obtain rfl := eqi hi hge
          have p3 := hpre 3 (by kernel_rfl)
          have e3 : s3 = .agg #[.string (numS r), .string (denS r), .string (numS g1), .string (denS g1), .string (numS s), .string (denS s)] := hF.get 3 _ rfl (.inr p3)
          subst e3
          have p4 := hpre 4 (by kernel_rfl)
          have e4 : s4 = .agg #[.string (numS p), .string (denS p)] := hF.get 4 _ rfl (.inr p4)
          subst e4
          have p5 := hpre 5 (by kernel_rfl)
          have e5 : s5 = .agg #[.string (numS v), .string (denS v)] := hF.get 5 _ rfl (.inr p5)
          subst e5
          refine step_of ⟨some 24, _, _, _, _, _⟩ rfl (fun K' hK => ?_)
          go_simp
          go_at_call 88
          (with_reducible refine (Qc1.out _ (HE0.out.kept hF.low HP.out)).mono ?_)
          rintro e Wq ⟨rfl, hq⟩
          refine hK.out _ _ ⟨_, hF.pure hok hla hpre rfl hq, ?fr⟩
          case fr => simp only [putO, layL]
        · replace hge : 7 ≤ i := hgt
          clear hgt
          obtain rfl := eqi hi hge
          have p6 := hpre 6 (by kernel_rfl)
          have e6 : s6 = .agg #[.string (numS x), .string (denS x)] := hF.get 6 _ rfl (.inr p6)
          subst e6
          rw [if_neg (bit_off hun)] at hO0
          have HGB := Lib.hid hO0
          obtain ⟨⟨y0, y1⟩, g0, g1⟩ := two_at HGB.out
          refine step_of ⟨none, _, _, _, _, _⟩ rfl (fun K' hK => ?_)
          go_simp
          refine hK.out _ _ ⟨undef, hF.put hok hna hpre hun rfl undef rfl (.inl (by decide)) rfl (set2_at HGB.out (.string (numS x)) (.string (denS x))) (fun k hk => set2_other _ _ (.string (numS x)) (.string (denS x)) hk) (put2_below gG0 _ (.string (numS x)) (.string (denS x))), ?fr⟩
          case fr => simp only [putO, layL]
  case hd =>
    rintro listed vs WD hF hall
    obtain ⟨s0, s1, s2, s3, s4, s5, s6, s7, o0, o1, o2, o3, hvs⟩ := exl_of 12 vs (fun l => vs = l) hF.len rfl
    subst hvs
    obtain ⟨eG0, gG0, hO0⟩ := old_of hF (i := 8) rfl (.inl (by decide))
    replace eG0 : o0 = _ := eG0
    subst eG0
    obtain ⟨eG1, gG1, hO1⟩ := old_of hF (i := 9) rfl (.inl (by decide))
    replace eG1 : o1 = _ := eG1
    subst eG1
    obtain ⟨eG2, gG2, hO2⟩ := old_of hF (i := 10) rfl (.inl (by decide))
    replace eG2 : o2 = _ := eG2
    subst eG2
    obtain ⟨eG3, gG3, hO3⟩ := old_of hF (i := 11) rfl (.inl (by decide))
    replace eG3 : o3 = _ := eG3
    subst eG3
    rw [if_pos (hall 7 (by decide))] at hO0
    replace H2 := Lib.hid hO0
    clear hO0
    rw [if_neg (hF.unst (by decide))] at hO1
    replace H3 := Lib.hid hO1
    clear hO1
    rw [if_neg (hF.unst (by decide))] at hO2
    replace H5 := Lib.hid hO2
    clear hO2
    rw [if_neg (hF.unst (by decide))] at hO3
    replace H6 := Lib.hid hO3
    clear hO3
    have HQ := Lib.hid hF.low
    clear hF hall hok hna hla
    simp only [putO, layL]
    replace HG := HQ
    clear HQ
    replace HE := Lib.hid (HE0.out.kept HG.out HP.out)
    obtain ⟨⟨x2_0, x2_1⟩, x2_f0, x2_f1⟩ := two_at H2.out
    go_wp2
    refine bodyPost_ret (v := .agg #[.string (numS x), .string (denS x)]) (by simp [results, Tryz.results82, go_sem, x2_0, x2_1]) rfl ⟨rfl, HG.out⟩

set_option linter.unusedVariables false in
/-- what the operations of region 2 yield -/
def fy_PMTKs2 (r qn p v qe g1 s x : Rat) (n e : Int) (W : World) (w5 : World) : List RK :=
  [.pure (.agg #[.string (numS r), .string (denS r)]),
   .pure (.int .i64 n),
   .pure (.int .i64 e),
   .pure (.agg #[.string (numS r), .string (denS r), .string (numS g1), .string (denS g1), .string (numS s), .string (denS s)]),
   .pure (.agg #[.string (numS p), .string (denS p)]),
   .pure (.agg #[.string (numS v), .string (denS v)]),
   .pure (.agg #[.string (numS x), .string (denS x)]),
   .put 8,
   .box (some (W.heap.size)) #[.string { data := #[] }, .string { data := #[] }] #[.string (numS x), .string (denS x)] 23 7,
   .box (some (w5.heap.size)) #[.string (numS r), .string (denS r)] #[.string (numS r), .string (denS r)] 23 12,
   .box (some (w5.heap.size + 1)) #[.string (numS p), .string (denS p)] #[.string (numS p), .string (denS p)] 23 12,
   .box (some (w5.heap.size + 2)) #[.string (numS v), .string (denS v)] #[.string (numS v), .string (denS v)] 23 12]
set_option linter.unusedSimpArgs false in
set_option linter.unusedVariables false in
set_option maxHeartbeats 4000000 in
set_option maxRecDepth 100000 in
theorem fy_PMT (r qn p v qe g1 s x : Rat) (n e : Int) (b g C : Nat) (W : World) (hq0 : fits r = true)
    (hq1 : fits qn = true)
    (hw1 : qn.floor = n)
    (hq2 : fits p = true)
    (hq3 : fits v = true)
    (hq4 : fits qe = true)
    (hw4 : qe.floor = e)
    (hn0 : 0 ≤ n)
    (hn1 : n ≤ 1000)
    (he0 : 0 ≤ e)
    (he1 : e ≤ 1)
    (c0 : Fun3 87 (.agg #[.string (numS r), .string (denS r)]) (.int .i64 n) (.int .i64 e) (.agg #[.string (numS r), .string (denS r), .string (numS g1), .string (denS g1), .string (numS s), .string (denS s)]))
    (c1 : Fun3 95 (.agg #[.string (numS r), .string (denS r), .string (numS g1), .string (denS g1), .string (numS s), .string (denS s)]) (.agg #[.string (numS p), .string (denS p)]) (.agg #[.string (numS v), .string (denS v)]) (.agg #[.string (numS x), .string (denS x)])) (ha : ArgsAt W b (some ⟨g, 0, none⟩) 5 C 0) (hne : g ≠ b) (hc0 : NumCells W g (0 + 0 * 9) r) (hc1 : NumCells W g (0 + 1 * 9) qn) (hc2 : NumCells W g (0 + 2 * 9) p) (hc3 : NumCells W g (0 + 3 * 9) v) (hc4 : NumCells W g (0 + 4 * 9) qe) (hE : EnvY W) (hP : Past b) :
    Calls Tryz.prog 94 #[.pointer (some ⟨b, 0, none⟩)] W fun e w' => e = .returned (.agg #[.string (numS x), .string (denS x)]) ∧ W.grownBy w' (some b) := by
  have Qc0 := Lib.hid c0
  have Qc1 := Lib.hid c1
  unfold Fun3 at Qc0 Qc1
  have TA0 := Lib.hid (fun W' ga gc ge => argNum_any b g 0 5 C 0 r W' ga (by decide) (by decide) hne gc hq0 ge hP)
  rw [fracV_is r] at TA0
  have TA1 := Lib.hid (fun W' ga gc ge => argWhole_any b g 0 5 C 1 qn W' ga (by decide) (by decide) hne gc hq1 (by rw [hw1]; omega) (by rw [hw1]; omega) ge hP)
  rw [hw1] at TA1
  have TA2 := Lib.hid (fun W' ga gc ge => argNum_any b g 0 5 C 2 p W' ga (by decide) (by decide) hne gc hq2 ge hP)
  rw [fracV_is p] at TA2
  have TA3 := Lib.hid (fun W' ga gc ge => numOr_some b g 0 5 C 3 v 0 W' ga (by decide) (by decide) hne gc hq3 ge hP)
  rw [fracV_is v] at TA3
  have TA4 := Lib.hid (fun W' ga gc ge => wholeOr_some b g 0 5 C 4 qe 0 W' ga (by decide) (by decide) hne gc hq4 (by rw [hw4]; omega) (by rw [hw4]; omega) ge hP)
  rw [hw4] at TA4
  have HP := Lib.hid hP
  have HE0 := Lib.hid hE
  have NG := Lib.hid hne
  have HBW := Lib.hid (heap_lt ha)
  have hb : Below W.heap.size W (W.alloc (.cells #[.string { data := #[] }, .string { data := #[] }] 23)) := ((Below.refl _ _).alloc (Nat.le_refl _) _)
  have HG := Lib.hid (kept_below (b := b) hb)
  have HE := Lib.hid (hE.below hb)
  have HA := Lib.hid (show ArgsAt (W.alloc (.cells #[.string { data := #[] }, .string { data := #[] }] 23)) b (some ⟨g, 0, none⟩) 5 C 0 from keep_block ha hb)
  have HC0 := Lib.hid (NumCells.below hc0 hb)
  have HC1 := Lib.hid (NumCells.below hc1 hb)
  have HC2 := Lib.hid (NumCells.below hc2 hb)
  have HC3 := Lib.hid (NumCells.below hc3 hb)
  have HC4 := Lib.hid (NumCells.below hc4 hb)
  have H2 : Hid ((W.alloc (.cells #[.string { data := #[] }, .string { data := #[] }] 23)).heap[W.heap.size]? = some (.cells #[.string { data := #[] }, .string { data := #[] }] 23 (0, 0))) := Lib.hid (by
    have h := heap_alloc_new W (.cells #[.string { data := #[] }, .string { data := #[] }] 23)
    exact h)
  have NE2 : Hid (W.heap.size ≠ b) := Lib.hid (by have := HBW.out; omega)
  obtain ⟨W0, hW0⟩ : ∃ Z, (W.alloc (.cells #[.string { data := #[] }, .string { data := #[] }] 23)) = Z := ⟨_, rfl⟩
  rw [hW0] at HG HE HA HC0 HC1 HC2 HC3 HC4 H2
  have EW0 := Lib.hid hW0
  clear hW0 hb ha hE hP hne hc0 hc1 hc2 hc3 hc4 c0 c1 hq0 hq1 hw1 hq2 hq3 hq4 hw4 hn0 hn1 he0 he1
  go_enter Tryz.func94, Tryz.ntmps94
  go_wp2_with fail
  rw [EW0.out]
  refine (TA0.out _ HA.out HC0.out (HE.out.e)).mono ?_
  rintro e w1 ⟨rfl, ha, hg⟩
  replace HA := Lib.hid ha
  clear HC0
  replace H2 := Lib.hid (kept_block H2.out hg NE2.out)
  replace HC1 := Lib.hid (HC1.out.kept hg NG.out)
  replace HC2 := Lib.hid (HC2.out.kept hg NG.out)
  replace HC3 := Lib.hid (HC3.out.kept hg NG.out)
  replace HC4 := Lib.hid (HC4.out.kept hg NG.out)
  replace HE := Lib.hid (HE.out.kept hg HP.out)
  replace HG := Lib.hid (kept_trans HG.out hg)
  clear ha hg
  go_wp2_with fail
  refine (TA1.out _ HA.out HC1.out (HE.out.e)).mono ?_
  rintro e w2 ⟨rfl, ha, hg⟩
  replace HA := Lib.hid ha
  clear HC1
  replace H2 := Lib.hid (kept_block H2.out hg NE2.out)
  replace HC2 := Lib.hid (HC2.out.kept hg NG.out)
  replace HC3 := Lib.hid (HC3.out.kept hg NG.out)
  replace HC4 := Lib.hid (HC4.out.kept hg NG.out)
  replace HE := Lib.hid (HE.out.kept hg HP.out)
  replace HG := Lib.hid (kept_trans HG.out hg)
  clear ha hg
  go_wp2_with fail
  refine (TA2.out _ HA.out HC2.out (HE.out.e)).mono ?_
  rintro e w3 ⟨rfl, ha, hg⟩
  replace HA := Lib.hid ha
  clear HC2
  replace H2 := Lib.hid (kept_block H2.out hg NE2.out)
  replace HC3 := Lib.hid (HC3.out.kept hg NG.out)
  replace HC4 := Lib.hid (HC4.out.kept hg NG.out)
  replace HE := Lib.hid (HE.out.kept hg HP.out)
  replace HG := Lib.hid (kept_trans HG.out hg)
  clear ha hg
  go_wp2_with fail
  refine (TA3.out _ HA.out HC3.out (HE.out.e)).mono ?_
  rintro e w4 ⟨rfl, ha, hg⟩
  replace HA := Lib.hid ha
  clear HC3
  replace H2 := Lib.hid (kept_block H2.out hg NE2.out)
  replace HC4 := Lib.hid (HC4.out.kept hg NG.out)
  replace HE := Lib.hid (HE.out.kept hg HP.out)
  replace HG := Lib.hid (kept_trans HG.out hg)
  clear ha hg
  go_wp2_with fail
  refine (TA4.out _ HA.out HC4.out (HE.out.e)).mono ?_
  rintro e w5 ⟨rfl, ha, hg⟩
  replace HA := Lib.hid ha
  clear HC4
  replace H2 := Lib.hid (kept_block H2.out hg NE2.out)
  replace HE := Lib.hid (HE.out.kept hg HP.out)
  replace HG := Lib.hid (kept_trans HG.out hg)
  clear ha hg
  have lt_2 := heap_lt H2.out
  have geW := HG.out.size
  have L3_2 : Hid (W.heap.size < w5.heap.size) := Lib.hid (by omega)
  have G3 : Hid (W.heap.size ≤ w5.heap.size) := Lib.hid (by omega)
  have NE3 : Hid (w5.heap.size ≠ b) := Lib.hid (by have := HBW.out; omega)
  have hb : Below w5.heap.size w5 (w5.alloc (.cells #[.string (numS r), .string (denS r)] 23)) := (Below.refl _ _).alloc (Nat.le_refl _) _
  replace H2 := Lib.hid (keep_block H2.out hb)
  replace HA := Lib.hid (keep_block HA.out hb)
  replace HE := Lib.hid (HE.out.below hb)
  replace HG := Lib.hid (kept_trans HG.out (kept_below hb))
  have H3 := Lib.hid (heap_alloc_new w5 (.cells #[.string (numS r), .string (denS r)] 23))
  clear hb
  have L5_2 : Hid (W.heap.size < w5.heap.size + 1) := Lib.hid (by omega)
  have L5_3 : Hid (w5.heap.size < w5.heap.size + 1) := Lib.hid (by omega)
  have G5 : Hid (W.heap.size ≤ w5.heap.size + 1) := Lib.hid (by omega)
  have NE5 : Hid (w5.heap.size + 1 ≠ b) := Lib.hid (by have := HBW.out; omega)
  have hb : Below (w5.alloc (.cells #[.string (numS r), .string (denS r)] 23)).heap.size (w5.alloc (.cells #[.string (numS r), .string (denS r)] 23)) ((w5.alloc (.cells #[.string (numS r), .string (denS r)] 23)).alloc (.cells #[.string (numS p), .string (denS p)] 23)) := (Below.refl _ _).alloc (Nat.le_refl _) _
  replace H2 := Lib.hid (keep_block H2.out hb)
  replace H3 := Lib.hid (keep_block H3.out hb)
  replace HA := Lib.hid (keep_block HA.out hb)
  replace HE := Lib.hid (HE.out.below hb)
  replace HG := Lib.hid (kept_trans HG.out (kept_below hb))
  have H5 : Hid (((w5.alloc (.cells #[.string (numS r), .string (denS r)] 23)).alloc (.cells #[.string (numS p), .string (denS p)] 23)).heap[w5.heap.size + 1]? = some (.cells #[.string (numS p), .string (denS p)] 23 (0, 0))) := Lib.hid (by
    have h := heap_alloc_new (w5.alloc (.cells #[.string (numS r), .string (denS r)] 23)) (.cells #[.string (numS p), .string (denS p)] 23)
    simp only [World.size_alloc] at h
    exact h)
  clear hb
  have L6_2 : Hid (W.heap.size < w5.heap.size + 2) := Lib.hid (by omega)
  have L6_3 : Hid (w5.heap.size < w5.heap.size + 2) := Lib.hid (by omega)
  have L6_5 : Hid (w5.heap.size + 1 < w5.heap.size + 2) := Lib.hid (by omega)
  have G6 : Hid (W.heap.size ≤ w5.heap.size + 2) := Lib.hid (by omega)
  have NE6 : Hid (w5.heap.size + 2 ≠ b) := Lib.hid (by have := HBW.out; omega)
  have hb : Below ((w5.alloc (.cells #[.string (numS r), .string (denS r)] 23)).alloc (.cells #[.string (numS p), .string (denS p)] 23)).heap.size ((w5.alloc (.cells #[.string (numS r), .string (denS r)] 23)).alloc (.cells #[.string (numS p), .string (denS p)] 23)) (((w5.alloc (.cells #[.string (numS r), .string (denS r)] 23)).alloc (.cells #[.string (numS p), .string (denS p)] 23)).alloc (.cells #[.string (numS v), .string (denS v)] 23)) := (Below.refl _ _).alloc (Nat.le_refl _) _
  replace H2 := Lib.hid (keep_block H2.out hb)
  replace H3 := Lib.hid (keep_block H3.out hb)
  replace H5 := Lib.hid (keep_block H5.out hb)
  replace HA := Lib.hid (keep_block HA.out hb)
  replace HE := Lib.hid (HE.out.below hb)
  replace HG := Lib.hid (kept_trans HG.out (kept_below hb))
  have H6 : Hid ((((w5.alloc (.cells #[.string (numS r), .string (denS r)] 23)).alloc (.cells #[.string (numS p), .string (denS p)] 23)).alloc (.cells #[.string (numS v), .string (denS v)] 23)).heap[w5.heap.size + 2]? = some (.cells #[.string (numS v), .string (denS v)] 23 (0, 0))) := Lib.hid (by
    have h := heap_alloc_new ((w5.alloc (.cells #[.string (numS r), .string (denS r)] 23)).alloc (.cells #[.string (numS p), .string (denS p)] 23)) (.cells #[.string (numS v), .string (denS v)] 23)
    simp only [World.size_alloc] at h
    exact h)
  clear hb
  clear geW lt_2
  obtain ⟨WL1, hWL1⟩ : ∃ Z, (((w5.alloc (.cells #[.string (numS r), .string (denS r)] 23)).alloc (.cells #[.string (numS p), .string (denS p)] 23)).alloc (.cells #[.string (numS v), .string (denS v)] 23)) = Z := ⟨_, rfl⟩
  rw [hWL1] at HE HG H2 H3 H5 H6 HA
  have EWL1 := Lib.hid hWL1
  clear hWL1
  clear HA 
  go_wp2_with fail
  rw [EWL1.out]
  have := L3_2.out
  have := L5_2.out
  have := L5_3.out
  have := L6_2.out
  have := L6_3.out
  have := L6_5.out
  have := HG.out.size
  have := G3.out
  have := G5.out
  have := G6.out
  have hok : okB 8 (fy_PMTKs2 r qn p v qe g1 s x n e W w5) = true := by kernel_rfl
  have hna := noAny_of (ks := (fy_PMTKs2 r qn p v qe g1 s x n e W w5)) (by kernel_rfl)
  have hla := lasts_of hna
  refine wp_region_facts (row := (some b)) (w := W) 8 (fy_PMTKs2 r qn p v qe g1 s x n e W w5) [some 18, some 19, some 20, some 21, some 22, some 23, some 24, none] (by kernel_rfl) (by kernel_rfl) rfl [undef, undef, undef, undef, undef, undef, undef, undef, .pointer (some ⟨W.heap.size, 0, none⟩), .pointer (some ⟨w5.heap.size, 0, none⟩), .pointer (some ⟨w5.heap.size + 1, 0, none⟩), .pointer (some ⟨w5.heap.size + 2, 0, none⟩)] ?h00 (Fs.start_olds hla rfl HG.out ⟨⟨_, rfl, fun _ h => Option.some.inj h, by omega, H2.out⟩, fun _ => ⟨fun _ => far_of (by omega), fun _ => far_of (by omega), fun _ => far_of (by omega), trivial⟩, ⟨⟨_, rfl, fun _ h => Option.some.inj h, by omega, H3.out⟩, fun _ => ⟨fun _ => far_of (by omega), fun _ => far_of (by omega), trivial⟩, ⟨⟨_, rfl, fun _ h => Option.some.inj h, by omega, H5.out⟩, fun _ => ⟨fun _ => far_of (by omega), trivial⟩, ⟨⟨_, rfl, fun _ h => Option.some.inj h, by omega, H6.out⟩, fun _ => trivial, trivial⟩⟩⟩⟩) ?hs ?hd
  case h00 => simp only [putO, layL]
  case hs =>
    rintro listed vs Wr hF i hi hun hpre
    obtain ⟨s0, s1, s2, s3, s4, s5, s6, s7, o0, o1, o2, o3, hvs⟩ := exl_of 12 vs (fun l => vs = l) hF.len rfl
    subst hvs
    obtain ⟨eG0, gG0, hO0⟩ := old_of hF (i := 8) rfl (.inl (by decide))
    replace eG0 : o0 = _ := eG0
    subst eG0
    obtain ⟨eG1, gG1, hO1⟩ := old_of hF (i := 9) rfl (.inl (by decide))
    replace eG1 : o1 = _ := eG1
    subst eG1
    obtain ⟨eG2, gG2, hO2⟩ := old_of hF (i := 10) rfl (.inl (by decide))
    replace eG2 : o2 = _ := eG2
    subst eG2
    obtain ⟨eG3, gG3, hO3⟩ := old_of hF (i := 11) rfl (.inl (by decide))
    replace eG3 : o3 = _ := eG3
    subst eG3
    have hge := Nat.zero_le i
    simp only [putO, layL]
    rcases Nat.lt_or_ge i 4 with hlt | hgt
    · replace hi := hlt
      clear hlt
      rcases Nat.lt_or_ge i 2 with hlt | hgt
      · replace hi := hlt
        clear hlt
        rcases Nat.lt_or_ge i 1 with hlt | hgt
        · replace hi := hlt
          clear hlt
          obtain rfl := eqi hi hge
          rw [if_neg (hF.unst (by decide))] at hO1
          have hcc := (two_at (hO1)).1
          have cH30 := hcc.1
          have cH31 := hcc.2
          clear hcc
          refine step_of ⟨some 18, _, _, _, _, _⟩ rfl (fun K' hK => ?_)
          go_simp
          refine hK.out _ _ ⟨_, hF.pure hok hla hpre rfl (Below.refl _ _), ?fr⟩
          case fr => simp only [putO, layL]
        · replace hge : 1 ≤ i := hgt
          clear hgt
          obtain rfl := eqi hi hge
          refine step_of ⟨some 19, _, _, _, _, _⟩ rfl (fun K' hK => ?_)
          go_simp
          refine hK.out _ _ ⟨_, hF.pure hok hla hpre rfl (Below.refl _ _), ?fr⟩
          case fr => simp only [putO, layL]
      · replace hge : 2 ≤ i := hgt
        clear hgt
        rcases Nat.lt_or_ge i 3 with hlt | hgt
        · replace hi := hlt
          clear hlt
          obtain rfl := eqi hi hge
          refine step_of ⟨some 20, _, _, _, _, _⟩ rfl (fun K' hK => ?_)
          go_simp
          refine hK.out _ _ ⟨_, hF.pure hok hla hpre rfl (Below.refl _ _), ?fr⟩
          case fr => simp only [putO, layL]
        · replace hge : 3 ≤ i := hgt
          clear hgt
          obtain rfl := eqi hi hge
          have p0 := hpre 0 (by kernel_rfl)
          have e0 : s0 = .agg #[.string (numS r), .string (denS r)] := hF.get 0 _ rfl (.inr p0)
          subst e0
          have p1 := hpre 1 (by kernel_rfl)
          have e1 : s1 = .int .i64 n := hF.get 1 _ rfl (.inr p1)
          subst e1
          have p2 := hpre 2 (by kernel_rfl)
          have e2 : s2 = .int .i64 e := hF.get 2 _ rfl (.inr p2)
          subst e2
          refine step_of ⟨some 21, _, _, _, _, _⟩ rfl (fun K' hK => ?_)
          go_simp
          go_at_call 87
          (with_reducible refine (Qc0.out _ (HE0.out.kept hF.low HP.out)).mono ?_)
          rintro e Wq ⟨rfl, hq⟩
          refine hK.out _ _ ⟨_, hF.pure hok hla hpre rfl hq, ?fr⟩
          case fr => simp only [putO, layL]
    · replace hge : 4 ≤ i := hgt
      clear hgt
      rcases Nat.lt_or_ge i 6 with hlt | hgt
      · replace hi := hlt
        clear hlt
        rcases Nat.lt_or_ge i 5 with hlt | hgt
        · replace hi := hlt
          clear hlt
          obtain rfl := eqi hi hge
          rw [if_neg (hF.unst (by decide))] at hO2
          have hcc := (two_at (hO2)).1
          have cH50 := hcc.1
          have cH51 := hcc.2
          clear hcc
          refine step_of ⟨some 22, _, _, _, _, _⟩ rfl (fun K' hK => ?_)
          go_simp
          refine hK.out _ _ ⟨_, hF.pure hok hla hpre rfl (Below.refl _ _), ?fr⟩
          case fr => simp only [putO, layL]
        · replace hge : 5 ≤ i := hgt
          clear hgt
          obtain rfl := eqi hi hge
          rw [if_neg (hF.unst (by decide))] at hO3
          have hcc := (two_at (hO3)).1
          have cH60 := hcc.1
          have cH61 := hcc.2
          clear hcc
          refine step_of ⟨some 23, _, _, _, _, _⟩ rfl (fun K' hK => ?_)
          go_simp
          refine hK.out _ _ ⟨_, hF.pure hok hla hpre rfl (Below.refl _ _), ?fr⟩
          case fr => simp only [putO, layL]
      · replace hge : 6 ≤ i := hgt
        clear hgt
        rcases Nat.lt_or_ge i 7 with hlt | hgt
        · replace hi := hlt
          clear hlt
          obtain rfl := eqi hi hge
          have p3 := hpre 3 (by kernel_rfl)
          have e3 : s3 = .agg #[.string (numS r), .string (denS r), .string (numS g1), .string (denS g1), .string (numS s), .string (denS s)] := hF.get 3 _ rfl (.inr p3)
          subst e3
          have p4 := hpre 4 (by kernel_rfl)
          have e4 : s4 = .agg #[.string (numS p), .string (denS p)] := hF.get 4 _ rfl (.inr p4)
          subst e4
          have p5 := hpre 5 (by kernel_rfl)
          have e5 : s5 = .agg #[.string (numS v), .string (denS v)] := hF.get 5 _ rfl (.inr p5)
          subst e5
          refine step_of ⟨some 24, _, _, _, _, _⟩ rfl (fun K' hK => ?_)
          go_simp
          go_at_call 95
          (with_reducible refine (Qc1.out _ (HE0.out.kept hF.low HP.out)).mono ?_)
          rintro e Wq ⟨rfl, hq⟩
          refine hK.out _ _ ⟨_, hF.pure hok hla hpre rfl hq, ?fr⟩
          case fr => simp only [putO, layL]
        · replace hge : 7 ≤ i := hgt
          clear hgt
          obtain rfl := eqi hi hge
          have p6 := hpre 6 (by kernel_rfl)
          have e6 : s6 = .agg #[.string (numS x), .string (denS x)] := hF.get 6 _ rfl (.inr p6)
          subst e6
          rw [if_neg (bit_off hun)] at hO0
          have HGB := Lib.hid hO0
          obtain ⟨⟨y0, y1⟩, g0, g1⟩ := two_at HGB.out
          refine step_of ⟨none, _, _, _, _, _⟩ rfl (fun K' hK => ?_)
          go_simp
          refine hK.out _ _ ⟨undef, hF.put hok hna hpre hun rfl undef rfl (.inl (by decide)) rfl (set2_at HGB.out (.string (numS x)) (.string (denS x))) (fun k hk => set2_other _ _ (.string (numS x)) (.string (denS x)) hk) (put2_below gG0 _ (.string (numS x)) (.string (denS x))), ?fr⟩
          case fr => simp only [putO, layL]
  case hd =>
    rintro listed vs WD hF hall
    obtain ⟨s0, s1, s2, s3, s4, s5, s6, s7, o0, o1, o2, o3, hvs⟩ := exl_of 12 vs (fun l => vs = l) hF.len rfl
    subst hvs
    obtain ⟨eG0, gG0, hO0⟩ := old_of hF (i := 8) rfl (.inl (by decide))
    replace eG0 : o0 = _ := eG0
    subst eG0
    obtain ⟨eG1, gG1, hO1⟩ := old_of hF (i := 9) rfl (.inl (by decide))
    replace eG1 : o1 = _ := eG1
    subst eG1
    obtain ⟨eG2, gG2, hO2⟩ := old_of hF (i := 10) rfl (.inl (by decide))
    replace eG2 : o2 = _ := eG2
    subst eG2
    obtain ⟨eG3, gG3, hO3⟩ := old_of hF (i := 11) rfl (.inl (by decide))
    replace eG3 : o3 = _ := eG3
    subst eG3
    rw [if_pos (hall 7 (by decide))] at hO0
    replace H2 := Lib.hid hO0
    clear hO0
    rw [if_neg (hF.unst (by decide))] at hO1
    replace H3 := Lib.hid hO1
    clear hO1
    rw [if_neg (hF.unst (by decide))] at hO2
    replace H5 := Lib.hid hO2
    clear hO2
    rw [if_neg (hF.unst (by decide))] at hO3
    replace H6 := Lib.hid hO3
    clear hO3
    have HQ := Lib.hid hF.low
    clear hF hall hok hna hla
    simp only [putO, layL]
    replace HG := HQ
    clear HQ
    replace HE := Lib.hid (HE0.out.kept HG.out HP.out)
    obtain ⟨⟨x2_0, x2_1⟩, x2_f0, x2_f1⟩ := two_at H2.out
    go_wp2
    refine bodyPost_ret (v := .agg #[.string (numS x), .string (denS x)]) (by simp [results, Tryz.results94, go_sem, x2_0, x2_1]) rfl ⟨rfl, HG.out⟩

set_option linter.unusedVariables false in
/-- what the operations of region 3 yield -/
def fy_PVKs3 (r qn p v qe g1 s x m1 a d : Rat) (n e : Int) (W : World) (w5 w6 : World) : List RK :=
  [.pure (.agg #[.string (numS v), .string (denS v)]),
   .pure (.agg #[.string (numS p), .string (denS p)]),
   .pure (.pointer (some ⟨w6.heap.size, 4, none⟩)),
   .pure (.agg #[.string (numS s), .string (denS s)]),
   .pure (.agg #[.string (numS m1), .string (denS m1)]),
   .pure (.agg #[.string (numS a), .string (denS a)]),
   .pure (.pointer (some ⟨w6.heap.size, 2, none⟩)),
   .pure (.agg #[.string (numS g1), .string (denS g1)]),
   .pure (.agg #[.string (numS d), .string (denS d)]),
   .pure (.agg #[.string (numS x), .string (denS x)]),
   .put 11,
   .box (some (W.heap.size)) #[.string { data := #[] }, .string { data := #[] }] #[.string (numS x), .string (denS x)] 23 10,
   .box (some (w5.heap.size + 1)) #[.string (numS p), .string (denS p)] #[.string (numS p), .string (denS p)] 23 15,
   .box (some (w5.heap.size + 2)) #[.string (numS v), .string (denS v)] #[.string (numS v), .string (denS v)] 23 15,
   .box (some (w6.heap.size)) #[.string (numS r), .string (denS r), .string (numS g1), .string (denS g1), .string (numS s), .string (denS s)] #[.string (numS r), .string (denS r), .string (numS g1), .string (denS g1), .string (numS s), .string (denS s)] 119 15]
set_option linter.unusedSimpArgs false in
set_option linter.unusedVariables false in
set_option maxHeartbeats 4000000 in
set_option maxRecDepth 100000 in
theorem fy_PV (r qn p v qe g1 s x m1 a d : Rat) (n e : Int) (b g C : Nat) (W : World) (hq0 : fits r = true)
    (hq1 : fits qn = true)
    (hw1 : qn.floor = n)
    (hq2 : fits p = true)
    (hq3 : fits v = true)
    (hq4 : fits qe = true)
    (hw4 : qe.floor = e)
    (hn0 : 0 ≤ n)
    (hn1 : n ≤ 1000)
    (he0 : 0 ≤ e)
    (he1 : e ≤ 1)
    (c0 : Fun3 87 (.agg #[.string (numS r), .string (denS r)]) (.int .i64 n) (.int .i64 e) (.agg #[.string (numS r), .string (denS r), .string (numS g1), .string (denS g1), .string (numS s), .string (denS s)]))
    (c1 : Fun2 93 (.agg #[.string (numS p), .string (denS p)]) (.agg #[.string (numS s), .string (denS s)]) (.agg #[.string (numS m1), .string (denS m1)]))
    (c2 : Fun2 92 (.agg #[.string (numS v), .string (denS v)]) (.agg #[.string (numS m1), .string (denS m1)]) (.agg #[.string (numS a), .string (denS a)]))
    (c3 : Fun2 91 (.agg #[.string (numS a), .string (denS a)]) (.agg #[.string (numS g1), .string (denS g1)]) (.agg #[.string (numS d), .string (denS d)]))
    (c4 : Fun1 90 (.agg #[.string (numS d), .string (denS d)]) (.agg #[.string (numS x), .string (denS x)])) (ha : ArgsAt W b (some ⟨g, 0, none⟩) 5 C 0) (hne : g ≠ b) (hc0 : NumCells W g (0 + 0 * 9) r) (hc1 : NumCells W g (0 + 1 * 9) qn) (hc2 : NumCells W g (0 + 2 * 9) p) (hc3 : NumCells W g (0 + 3 * 9) v) (hc4 : NumCells W g (0 + 4 * 9) qe) (hE : EnvY W) (hP : Past b) :
    Calls Tryz.prog 89 #[.pointer (some ⟨b, 0, none⟩)] W fun e w' => e = .returned (.agg #[.string (numS x), .string (denS x)]) ∧ W.grownBy w' (some b) := by
  have Qc0 := Lib.hid c0
  have Qc1 := Lib.hid c1
  have Qc2 := Lib.hid c2
  have Qc3 := Lib.hid c3
  have Qc4 := Lib.hid c4
  unfold Fun1 at Qc4
  unfold Fun2 at Qc1 Qc2 Qc3
  unfold Fun3 at Qc0
  have TA0 := Lib.hid (fun W' ga gc ge => argNum_any b g 0 5 C 0 r W' ga (by decide) (by decide) hne gc hq0 ge hP)
  rw [fracV_is r] at TA0
  have TA1 := Lib.hid (fun W' ga gc ge => argWhole_any b g 0 5 C 1 qn W' ga (by decide) (by decide) hne gc hq1 (by rw [hw1]; omega) (by rw [hw1]; omega) ge hP)
  rw [hw1] at TA1
  have TA2 := Lib.hid (fun W' ga gc ge => argNum_any b g 0 5 C 2 p W' ga (by decide) (by decide) hne gc hq2 ge hP)
  rw [fracV_is p] at TA2
  have TA3 := Lib.hid (fun W' ga gc ge => numOr_some b g 0 5 C 3 v 0 W' ga (by decide) (by decide) hne gc hq3 ge hP)
  rw [fracV_is v] at TA3
  have TA4 := Lib.hid (fun W' ga gc ge => wholeOr_some b g 0 5 C 4 qe 0 W' ga (by decide) (by decide) hne gc hq4 (by rw [hw4]; omega) (by rw [hw4]; omega) ge hP)
  rw [hw4] at TA4
  have HP := Lib.hid hP
  have HE0 := Lib.hid hE
  have NG := Lib.hid hne
  have HBW := Lib.hid (heap_lt ha)
  have hb : Below W.heap.size W (W.alloc (.cells #[.string { data := #[] }, .string { data := #[] }] 23)) := ((Below.refl _ _).alloc (Nat.le_refl _) _)
  have HG := Lib.hid (kept_below (b := b) hb)
  have HE := Lib.hid (hE.below hb)
  have HA := Lib.hid (show ArgsAt (W.alloc (.cells #[.string { data := #[] }, .string { data := #[] }] 23)) b (some ⟨g, 0, none⟩) 5 C 0 from keep_block ha hb)
  have HC0 := Lib.hid (NumCells.below hc0 hb)
  have HC1 := Lib.hid (NumCells.below hc1 hb)
  have HC2 := Lib.hid (NumCells.below hc2 hb)
  have HC3 := Lib.hid (NumCells.below hc3 hb)
  have HC4 := Lib.hid (NumCells.below hc4 hb)
  have H2 : Hid ((W.alloc (.cells #[.string { data := #[] }, .string { data := #[] }] 23)).heap[W.heap.size]? = some (.cells #[.string { data := #[] }, .string { data := #[] }] 23 (0, 0))) := Lib.hid (by
    have h := heap_alloc_new W (.cells #[.string { data := #[] }, .string { data := #[] }] 23)
    exact h)
  have NE2 : Hid (W.heap.size ≠ b) := Lib.hid (by have := HBW.out; omega)
  obtain ⟨W0, hW0⟩ : ∃ Z, (W.alloc (.cells #[.string { data := #[] }, .string { data := #[] }] 23)) = Z := ⟨_, rfl⟩
  rw [hW0] at HG HE HA HC0 HC1 HC2 HC3 HC4 H2
  have EW0 := Lib.hid hW0
  clear hW0 hb ha hE hP hne hc0 hc1 hc2 hc3 hc4 c0 c1 c2 c3 c4 hq0 hq1 hw1 hq2 hq3 hq4 hw4 hn0 hn1 he0 he1
  go_enter Tryz.func89, Tryz.ntmps89
  go_wp2_with fail
  rw [EW0.out]
  refine (TA0.out _ HA.out HC0.out (HE.out.e)).mono ?_
  rintro e w1 ⟨rfl, ha, hg⟩
  replace HA := Lib.hid ha
  clear HC0
  replace H2 := Lib.hid (kept_block H2.out hg NE2.out)
  replace HC1 := Lib.hid (HC1.out.kept hg NG.out)
  replace HC2 := Lib.hid (HC2.out.kept hg NG.out)
  replace HC3 := Lib.hid (HC3.out.kept hg NG.out)
  replace HC4 := Lib.hid (HC4.out.kept hg NG.out)
  replace HE := Lib.hid (HE.out.kept hg HP.out)
  replace HG := Lib.hid (kept_trans HG.out hg)
  clear ha hg
  go_wp2_with fail
  refine (TA1.out _ HA.out HC1.out (HE.out.e)).mono ?_
  rintro e w2 ⟨rfl, ha, hg⟩
  replace HA := Lib.hid ha
  clear HC1
  replace H2 := Lib.hid (kept_block H2.out hg NE2.out)
  replace HC2 := Lib.hid (HC2.out.kept hg NG.out)
  replace HC3 := Lib.hid (HC3.out.kept hg NG.out)
  replace HC4 := Lib.hid (HC4.out.kept hg NG.out)
  replace HE := Lib.hid (HE.out.kept hg HP.out)
  replace HG := Lib.hid (kept_trans HG.out hg)
  clear ha hg
  go_wp2_with fail
  refine (TA2.out _ HA.out HC2.out (HE.out.e)).mono ?_
  rintro e w3 ⟨rfl, ha, hg⟩
  replace HA := Lib.hid ha
  clear HC2
  replace H2 := Lib.hid (kept_block H2.out hg NE2.out)
  replace HC3 := Lib.hid (HC3.out.kept hg NG.out)
  replace HC4 := Lib.hid (HC4.out.kept hg NG.out)
  replace HE := Lib.hid (HE.out.kept hg HP.out)
  replace HG := Lib.hid (kept_trans HG.out hg)
  clear ha hg
  go_wp2_with fail
  refine (TA3.out _ HA.out HC3.out (HE.out.e)).mono ?_
  rintro e w4 ⟨rfl, ha, hg⟩
  replace HA := Lib.hid ha
  clear HC3
  replace H2 := Lib.hid (kept_block H2.out hg NE2.out)
  replace HC4 := Lib.hid (HC4.out.kept hg NG.out)
  replace HE := Lib.hid (HE.out.kept hg HP.out)
  replace HG := Lib.hid (kept_trans HG.out hg)
  clear ha hg
  go_wp2_with fail
  refine (TA4.out _ HA.out HC4.out (HE.out.e)).mono ?_
  rintro e w5 ⟨rfl, ha, hg⟩
  replace HA := Lib.hid ha
  clear HC4
  replace H2 := Lib.hid (kept_block H2.out hg NE2.out)
  replace HE := Lib.hid (HE.out.kept hg HP.out)
  replace HG := Lib.hid (kept_trans HG.out hg)
  clear ha hg
  have lt_2 := heap_lt H2.out
  have geW := HG.out.size
  have L3_2 : Hid (W.heap.size < w5.heap.size) := Lib.hid (by omega)
  have G3 : Hid (W.heap.size ≤ w5.heap.size) := Lib.hid (by omega)
  have NE3 : Hid (w5.heap.size ≠ b) := Lib.hid (by have := HBW.out; omega)
  have hb : Below w5.heap.size w5 (w5.alloc (.cells #[.string (numS r), .string (denS r)] 23)) := (Below.refl _ _).alloc (Nat.le_refl _) _
  replace H2 := Lib.hid (keep_block H2.out hb)
  replace HA := Lib.hid (keep_block HA.out hb)
  replace HE := Lib.hid (HE.out.below hb)
  replace HG := Lib.hid (kept_trans HG.out (kept_below hb))
  have H3 := Lib.hid (heap_alloc_new w5 (.cells #[.string (numS r), .string (denS r)] 23))
  clear hb
  have L5_2 : Hid (W.heap.size < w5.heap.size + 1) := Lib.hid (by omega)
  have L5_3 : Hid (w5.heap.size < w5.heap.size + 1) := Lib.hid (by omega)
  have G5 : Hid (W.heap.size ≤ w5.heap.size + 1) := Lib.hid (by omega)
  have NE5 : Hid (w5.heap.size + 1 ≠ b) := Lib.hid (by have := HBW.out; omega)
  have hb : Below (w5.alloc (.cells #[.string (numS r), .string (denS r)] 23)).heap.size (w5.alloc (.cells #[.string (numS r), .string (denS r)] 23)) ((w5.alloc (.cells #[.string (numS r), .string (denS r)] 23)).alloc (.cells #[.string (numS p), .string (denS p)] 23)) := (Below.refl _ _).alloc (Nat.le_refl _) _
  replace H2 := Lib.hid (keep_block H2.out hb)
  replace H3 := Lib.hid (keep_block H3.out hb)
  replace HA := Lib.hid (keep_block HA.out hb)
  replace HE := Lib.hid (HE.out.below hb)
  replace HG := Lib.hid (kept_trans HG.out (kept_below hb))
  have H5 : Hid (((w5.alloc (.cells #[.string (numS r), .string (denS r)] 23)).alloc (.cells #[.string (numS p), .string (denS p)] 23)).heap[w5.heap.size + 1]? = some (.cells #[.string (numS p), .string (denS p)] 23 (0, 0))) := Lib.hid (by
    have h := heap_alloc_new (w5.alloc (.cells #[.string (numS r), .string (denS r)] 23)) (.cells #[.string (numS p), .string (denS p)] 23)
    simp only [World.size_alloc] at h
    exact h)
  clear hb
  have L6_2 : Hid (W.heap.size < w5.heap.size + 2) := Lib.hid (by omega)
  have L6_3 : Hid (w5.heap.size < w5.heap.size + 2) := Lib.hid (by omega)
  have L6_5 : Hid (w5.heap.size + 1 < w5.heap.size + 2) := Lib.hid (by omega)
  have G6 : Hid (W.heap.size ≤ w5.heap.size + 2) := Lib.hid (by omega)
  have NE6 : Hid (w5.heap.size + 2 ≠ b) := Lib.hid (by have := HBW.out; omega)
  have hb : Below ((w5.alloc (.cells #[.string (numS r), .string (denS r)] 23)).alloc (.cells #[.string (numS p), .string (denS p)] 23)).heap.size ((w5.alloc (.cells #[.string (numS r), .string (denS r)] 23)).alloc (.cells #[.string (numS p), .string (denS p)] 23)) (((w5.alloc (.cells #[.string (numS r), .string (denS r)] 23)).alloc (.cells #[.string (numS p), .string (denS p)] 23)).alloc (.cells #[.string (numS v), .string (denS v)] 23)) := (Below.refl _ _).alloc (Nat.le_refl _) _
  replace H2 := Lib.hid (keep_block H2.out hb)
  replace H3 := Lib.hid (keep_block H3.out hb)
  replace H5 := Lib.hid (keep_block H5.out hb)
  replace HA := Lib.hid (keep_block HA.out hb)
  replace HE := Lib.hid (HE.out.below hb)
  replace HG := Lib.hid (kept_trans HG.out (kept_below hb))
  have H6 : Hid ((((w5.alloc (.cells #[.string (numS r), .string (denS r)] 23)).alloc (.cells #[.string (numS p), .string (denS p)] 23)).alloc (.cells #[.string (numS v), .string (denS v)] 23)).heap[w5.heap.size + 2]? = some (.cells #[.string (numS v), .string (denS v)] 23 (0, 0))) := Lib.hid (by
    have h := heap_alloc_new ((w5.alloc (.cells #[.string (numS r), .string (denS r)] 23)).alloc (.cells #[.string (numS p), .string (denS p)] 23)) (.cells #[.string (numS v), .string (denS v)] 23)
    simp only [World.size_alloc] at h
    exact h)
  clear hb
  clear geW lt_2
  obtain ⟨WL1, hWL1⟩ : ∃ Z, (((w5.alloc (.cells #[.string (numS r), .string (denS r)] 23)).alloc (.cells #[.string (numS p), .string (denS p)] 23)).alloc (.cells #[.string (numS v), .string (denS v)] 23)) = Z := ⟨_, rfl⟩
  rw [hWL1] at HE HG H2 H3 H5 H6 HA
  have EWL1 := Lib.hid hWL1
  clear hWL1
  clear HA 
  obtain ⟨⟨x3_0, x3_1⟩, x3_f0, x3_f1⟩ := two_at H3.out
  go_wp2_with fail
  rw [EWL1.out]
  refine (Qc0.out _ HE.out).mono ?_
  clear x3_0 x3_1 x3_f0 x3_f1
  rintro e w6 ⟨rfl, hb⟩
  replace H2 := Lib.hid (keep_block H2.out hb)
  replace H3 := Lib.hid (keep_block H3.out hb)
  replace H5 := Lib.hid (keep_block H5.out hb)
  replace H6 := Lib.hid (keep_block H6.out hb)
  replace HE := Lib.hid (HE.out.below hb)
  replace HG := Lib.hid (kept_trans HG.out (kept_below hb))
  clear hb
  have lt_2 := heap_lt H2.out
  have lt_3 := heap_lt H3.out
  have lt_5 := heap_lt H5.out
  have lt_6 := heap_lt H6.out
  have geW := HG.out.size
  have L8_2 : Hid (W.heap.size < w6.heap.size) := Lib.hid (by omega)
  have L8_3 : Hid (w5.heap.size < w6.heap.size) := Lib.hid (by omega)
  have L8_5 : Hid (w5.heap.size + 1 < w6.heap.size) := Lib.hid (by omega)
  have L8_6 : Hid (w5.heap.size + 2 < w6.heap.size) := Lib.hid (by omega)
  have G8 : Hid (W.heap.size ≤ w6.heap.size) := Lib.hid (by omega)
  have NE8 : Hid (w6.heap.size ≠ b) := Lib.hid (by have := HBW.out; omega)
  have hb : Below w6.heap.size w6 (w6.alloc (.cells #[.string (numS r), .string (denS r), .string (numS g1), .string (denS g1), .string (numS s), .string (denS s)] 119)) := (Below.refl _ _).alloc (Nat.le_refl _) _
  replace H2 := Lib.hid (keep_block H2.out hb)
  replace H3 := Lib.hid (keep_block H3.out hb)
  replace H5 := Lib.hid (keep_block H5.out hb)
  replace H6 := Lib.hid (keep_block H6.out hb)
  replace HE := Lib.hid (HE.out.below hb)
  replace HG := Lib.hid (kept_trans HG.out (kept_below hb))
  have H8 := Lib.hid (heap_alloc_new w6 (.cells #[.string (numS r), .string (denS r), .string (numS g1), .string (denS g1), .string (numS s), .string (denS s)] 119))
  clear hb
  clear geW lt_2 lt_3 lt_5 lt_6
  obtain ⟨WL2, hWL2⟩ : ∃ Z, (w6.alloc (.cells #[.string (numS r), .string (denS r), .string (numS g1), .string (denS g1), .string (numS s), .string (denS s)] 119)) = Z := ⟨_, rfl⟩
  rw [hWL2] at HE HG H2 H3 H5 H6 H8
  have EWL2 := Lib.hid hWL2
  clear hWL2
  go_wp2_with fail
  rw [EWL2.out]
  have := L5_2.out
  have := L6_2.out
  have := L6_5.out
  have := L8_2.out
  have := L8_5.out
  have := L8_6.out
  have := HG.out.size
  have := G5.out
  have := G6.out
  have := G8.out
  have hok : okB 11 (fy_PVKs3 r qn p v qe g1 s x m1 a d n e W w5 w6) = true := by kernel_rfl
  have hna := noAny_of (ks := (fy_PVKs3 r qn p v qe g1 s x m1 a d n e W w5 w6)) (by kernel_rfl)
  have hla := lasts_of hna
  refine wp_region_facts (row := (some b)) (w := W) 11 (fy_PVKs3 r qn p v qe g1 s x m1 a d n e W w5 w6) [some 23, some 24, some 25, some 26, some 27, some 28, some 29, some 30, some 31, some 32, none] (by kernel_rfl) (by kernel_rfl) rfl [undef, undef, undef, undef, undef, undef, undef, undef, undef, undef, undef, .pointer (some ⟨W.heap.size, 0, none⟩), .pointer (some ⟨w5.heap.size + 1, 0, none⟩), .pointer (some ⟨w5.heap.size + 2, 0, none⟩), .pointer (some ⟨w6.heap.size, 0, none⟩)] ?h00 (Fs.start_olds hla rfl HG.out ⟨⟨_, rfl, fun _ h => Option.some.inj h, by omega, H2.out⟩, fun _ => ⟨fun _ => far_of (by omega), fun _ => far_of (by omega), fun _ => far_of (by omega), trivial⟩, ⟨⟨_, rfl, fun _ h => Option.some.inj h, by omega, H5.out⟩, fun _ => ⟨fun _ => far_of (by omega), fun _ => far_of (by omega), trivial⟩, ⟨⟨_, rfl, fun _ h => Option.some.inj h, by omega, H6.out⟩, fun _ => ⟨fun _ => far_of (by omega), trivial⟩, ⟨⟨_, rfl, fun _ h => Option.some.inj h, by omega, H8.out⟩, fun _ => trivial, trivial⟩⟩⟩⟩) ?hs ?hd
  case h00 => simp only [putO, layL]
  case hs =>
    rintro listed vs Wr hF i hi hun hpre
    obtain ⟨s0, s1, s2, s3, s4, s5, s6, s7, s8, s9, s10, o0, o1, o2, o3, hvs⟩ := exl_of 15 vs (fun l => vs = l) hF.len rfl
    subst hvs
    obtain ⟨eG0, gG0, hO0⟩ := old_of hF (i := 11) rfl (.inl (by decide))
    replace eG0 : o0 = _ := eG0
    subst eG0
    obtain ⟨eG1, gG1, hO1⟩ := old_of hF (i := 12) rfl (.inl (by decide))
    replace eG1 : o1 = _ := eG1
    subst eG1
    obtain ⟨eG2, gG2, hO2⟩ := old_of hF (i := 13) rfl (.inl (by decide))
    replace eG2 : o2 = _ := eG2
    subst eG2
    obtain ⟨eG3, gG3, hO3⟩ := old_of hF (i := 14) rfl (.inl (by decide))
    replace eG3 : o3 = _ := eG3
    subst eG3
    have hge := Nat.zero_le i
    simp only [putO, layL]
    rcases Nat.lt_or_ge i 5 with hlt | hgt
    · replace hi := hlt
      clear hlt
      rcases Nat.lt_or_ge i 2 with hlt | hgt
      · replace hi := hlt
        clear hlt
        rcases Nat.lt_or_ge i 1 with hlt | hgt
        · replace hi := hlt
          clear hlt
          obtain rfl := eqi hi hge
          rw [if_neg (hF.unst (by decide))] at hO2
          have hcc := (two_at (hO2)).1
          have cH60 := hcc.1
          have cH61 := hcc.2
          clear hcc
          refine step_of ⟨some 23, _, _, _, _, _⟩ rfl (fun K' hK => ?_)
          go_simp
          refine hK.out _ _ ⟨_, hF.pure hok hla hpre rfl (Below.refl _ _), ?fr⟩
          case fr => simp only [putO, layL]
        · replace hge : 1 ≤ i := hgt
          clear hgt
          obtain rfl := eqi hi hge
          rw [if_neg (hF.unst (by decide))] at hO1
          have hcc := (two_at (hO1)).1
          have cH50 := hcc.1
          have cH51 := hcc.2
          clear hcc
          refine step_of ⟨some 24, _, _, _, _, _⟩ rfl (fun K' hK => ?_)
          go_simp
          refine hK.out _ _ ⟨_, hF.pure hok hla hpre rfl (Below.refl _ _), ?fr⟩
          case fr => simp only [putO, layL]
      · replace hge : 2 ≤ i := hgt
        clear hgt
        rcases Nat.lt_or_ge i 3 with hlt | hgt
        · replace hi := hlt
          clear hlt
          obtain rfl := eqi hi hge
          refine step_of ⟨some 25, _, _, _, _, _⟩ rfl (fun K' hK => ?_)
          go_simp
          refine hK.out _ _ ⟨_, hF.pure hok hla hpre rfl (Below.refl _ _), ?fr⟩
          case fr => simp only [putO, layL]
        · replace hge : 3 ≤ i := hgt
          clear hgt
          rcases Nat.lt_or_ge i 4 with hlt | hgt
          · replace hi := hlt
            clear hlt
            obtain rfl := eqi hi hge
            have p2 := hpre 2 (by kernel_rfl)
            have e2 : s2 = .pointer (some ⟨w6.heap.size, 4, none⟩) := hF.get 2 _ rfl (.inr p2)
            subst e2
            rw [if_neg (hF.unst (by decide))] at hO3
            have hcc := (six_at (hO3)).1
            have cH80 := hcc.1
            have cH81 := hcc.2.1
            have cH82 := hcc.2.2.1
            have cH83 := hcc.2.2.2.1
            have cH84 := hcc.2.2.2.2.1
            have cH85 := hcc.2.2.2.2.2
            clear hcc
            refine step_of ⟨some 26, _, _, _, _, _⟩ rfl (fun K' hK => ?_)
            go_simp
            refine hK.out _ _ ⟨_, hF.pure hok hla hpre rfl (Below.refl _ _), ?fr⟩
            case fr => simp only [putO, layL]
          · replace hge : 4 ≤ i := hgt
            clear hgt
            obtain rfl := eqi hi hge
            have p1 := hpre 1 (by kernel_rfl)
            have e1 : s1 = .agg #[.string (numS p), .string (denS p)] := hF.get 1 _ rfl (.inr p1)
            subst e1
            have p3 := hpre 3 (by kernel_rfl)
            have e3 : s3 = .agg #[.string (numS s), .string (denS s)] := hF.get 3 _ rfl (.inr p3)
            subst e3
            refine step_of ⟨some 27, _, _, _, _, _⟩ rfl (fun K' hK => ?_)
            go_simp
            go_at_call 93
            (with_reducible refine (Qc1.out _ (HE0.out.kept hF.low HP.out)).mono ?_)
            rintro e Wq ⟨rfl, hq⟩
            refine hK.out _ _ ⟨_, hF.pure hok hla hpre rfl hq, ?fr⟩
            case fr => simp only [putO, layL]
    · replace hge : 5 ≤ i := hgt
      clear hgt
      rcases Nat.lt_or_ge i 8 with hlt | hgt
      · replace hi := hlt
        clear hlt
        rcases Nat.lt_or_ge i 6 with hlt | hgt
        · replace hi := hlt
          clear hlt
          obtain rfl := eqi hi hge
          have p0 := hpre 0 (by kernel_rfl)
          have e0 : s0 = .agg #[.string (numS v), .string (denS v)] := hF.get 0 _ rfl (.inr p0)
          subst e0
          have p4 := hpre 4 (by kernel_rfl)
          have e4 : s4 = .agg #[.string (numS m1), .string (denS m1)] := hF.get 4 _ rfl (.inr p4)
          subst e4
          refine step_of ⟨some 28, _, _, _, _, _⟩ rfl (fun K' hK => ?_)
          go_simp
          go_at_call 92
          (with_reducible refine (Qc2.out _ (HE0.out.kept hF.low HP.out)).mono ?_)
          rintro e Wq ⟨rfl, hq⟩
          refine hK.out _ _ ⟨_, hF.pure hok hla hpre rfl hq, ?fr⟩
          case fr => simp only [putO, layL]
        · replace hge : 6 ≤ i := hgt
          clear hgt
          rcases Nat.lt_or_ge i 7 with hlt | hgt
          · replace hi := hlt
            clear hlt
            obtain rfl := eqi hi hge
            refine step_of ⟨some 29, _, _, _, _, _⟩ rfl (fun K' hK => ?_)
            go_simp
            refine hK.out _ _ ⟨_, hF.pure hok hla hpre rfl (Below.refl _ _), ?fr⟩
            case fr => simp only [putO, layL]
          · replace hge : 7 ≤ i := hgt
            clear hgt
            obtain rfl := eqi hi hge
            have p6 := hpre 6 (by kernel_rfl)
            have e6 : s6 = .pointer (some ⟨w6.heap.size, 2, none⟩) := hF.get 6 _ rfl (.inr p6)
            subst e6
            rw [if_neg (hF.unst (by decide))] at hO3
            have hcc := (six_at (hO3)).1
            have cH80 := hcc.1
            have cH81 := hcc.2.1
            have cH82 := hcc.2.2.1
            have cH83 := hcc.2.2.2.1
            have cH84 := hcc.2.2.2.2.1
            have cH85 := hcc.2.2.2.2.2
            clear hcc
            refine step_of ⟨some 30, _, _, _, _, _⟩ rfl (fun K' hK => ?_)
            go_simp
            refine hK.out _ _ ⟨_, hF.pure hok hla hpre rfl (Below.refl _ _), ?fr⟩
            case fr => simp only [putO, layL]
      · replace hge : 8 ≤ i := hgt
        clear hgt
        rcases Nat.lt_or_ge i 9 with hlt | hgt
        · replace hi := hlt
          clear hlt
          obtain rfl := eqi hi hge
          have p5 := hpre 5 (by kernel_rfl)
          have e5 : s5 = .agg #[.string (numS a), .string (denS a)] := hF.get 5 _ rfl (.inr p5)
          subst e5
          have p7 := hpre 7 (by kernel_rfl)
          have e7 : s7 = .agg #[.string (numS g1), .string (denS g1)] := hF.get 7 _ rfl (.inr p7)
          subst e7
          refine step_of ⟨some 31, _, _, _, _, _⟩ rfl (fun K' hK => ?_)
          go_simp
          go_at_call 91
          (with_reducible refine (Qc3.out _ (HE0.out.kept hF.low HP.out)).mono ?_)
          rintro e Wq ⟨rfl, hq⟩
          refine hK.out _ _ ⟨_, hF.pure hok hla hpre rfl hq, ?fr⟩
          case fr => simp only [putO, layL]
        · replace hge : 9 ≤ i := hgt
          clear hgt
          rcases Nat.lt_or_ge i 10 with hlt | hgt
          · replace hi := hlt
            clear hlt
            obtain rfl := eqi hi hge
            have p8 := hpre 8 (by kernel_rfl)
            have e8 : s8 = .agg #[.string (numS d), .string (denS d)] := hF.get 8 _ rfl (.inr p8)
            subst e8
            refine step_of ⟨some 32, _, _, _, _, _⟩ rfl (fun K' hK => ?_)
            go_simp
            go_at_call 90
            (with_reducible refine (Qc4.out _ (HE0.out.kept hF.low HP.out)).mono ?_)
            rintro e Wq ⟨rfl, hq⟩
            refine hK.out _ _ ⟨_, hF.pure hok hla hpre rfl hq, ?fr⟩
            case fr => simp only [putO, layL]
          · replace hge : 10 ≤ i := hgt
            clear hgt
            obtain rfl := eqi hi hge
            have p9 := hpre 9 (by kernel_rfl)
            have e9 : s9 = .agg #[.string (numS x), .string (denS x)] := hF.get 9 _ rfl (.inr p9)
            subst e9
            rw [if_neg (bit_off hun)] at hO0
            have HGB := Lib.hid hO0
            obtain ⟨⟨y0, y1⟩, g0, g1⟩ := two_at HGB.out
            refine step_of ⟨none, _, _, _, _, _⟩ rfl (fun K' hK => ?_)
            go_simp
            refine hK.out _ _ ⟨undef, hF.put hok hna hpre hun rfl undef rfl (.inl (by decide)) rfl (set2_at HGB.out (.string (numS x)) (.string (denS x))) (fun k hk => set2_other _ _ (.string (numS x)) (.string (denS x)) hk) (put2_below gG0 _ (.string (numS x)) (.string (denS x))), ?fr⟩
            case fr => simp only [putO, layL]
  case hd =>
    rintro listed vs WD hF hall
    obtain ⟨s0, s1, s2, s3, s4, s5, s6, s7, s8, s9, s10, o0, o1, o2, o3, hvs⟩ := exl_of 15 vs (fun l => vs = l) hF.len rfl
    subst hvs
    obtain ⟨eG0, gG0, hO0⟩ := old_of hF (i := 11) rfl (.inl (by decide))
    replace eG0 : o0 = _ := eG0
    subst eG0
    obtain ⟨eG1, gG1, hO1⟩ := old_of hF (i := 12) rfl (.inl (by decide))
    replace eG1 : o1 = _ := eG1
    subst eG1
    obtain ⟨eG2, gG2, hO2⟩ := old_of hF (i := 13) rfl (.inl (by decide))
    replace eG2 : o2 = _ := eG2
    subst eG2
    obtain ⟨eG3, gG3, hO3⟩ := old_of hF (i := 14) rfl (.inl (by decide))
    replace eG3 : o3 = _ := eG3
    subst eG3
    rw [if_pos (hall 10 (by decide))] at hO0
    replace H2 := Lib.hid hO0
    clear hO0
    rw [if_neg (hF.unst (by decide))] at hO1
    replace H5 := Lib.hid hO1
    clear hO1
    rw [if_neg (hF.unst (by decide))] at hO2
    replace H6 := Lib.hid hO2
    clear hO2
    rw [if_neg (hF.unst (by decide))] at hO3
    replace H8 := Lib.hid hO3
    clear hO3
    have HQ := Lib.hid hF.low
    clear hF hall hok hna hla
    simp only [putO, layL]
    replace HG := HQ
    clear HQ
    replace HE := Lib.hid (HE0.out.kept HG.out HP.out)
    clear H3
    obtain ⟨⟨x2_0, x2_1⟩, x2_f0, x2_f1⟩ := two_at H2.out
    go_wp2
    refine bodyPost_ret (v := .agg #[.string (numS x), .string (denS x)]) (by simp [results, Tryz.results89, go_sem, x2_0, x2_1]) rfl ⟨rfl, HG.out⟩

set_option linter.unusedSimpArgs false in
set_option linter.unusedVariables false in
set_option maxHeartbeats 4000000 in
set_option maxRecDepth 100000 in
theorem fy_parts (r qk qn v w0 qe ii qq : Rat) (k n e : Int) (b g C : Nat) (W : World) (hq0 : fits r = true)
    (hq1 : fits qk = true)
    (hw1 : qk.floor = k)
    (hq2 : fits qn = true)
    (hw2 : qn.floor = n)
    (hq3 : fits v = true)
    (hq4 : fits w0 = true)
    (hq5 : fits qe = true)
    (hw5 : qe.floor = e)
    (hk0 : 1 ≤ k)
    (hk1 : k ≤ n)
    (hn1 : n ≤ 1000)
    (he0 : 0 ≤ e)
    (he1 : e ≤ 1)
    (c0 : Fun6 213 (.agg #[.string (numS r), .string (denS r)]) (.int .i64 k) (.int .i64 n) (.agg #[.string (numS v), .string (denS v)]) (.agg #[.string (numS w0), .string (denS w0)]) (.int .i64 e) (.tuple #[.agg #[.string (numS ii), .string (denS ii)], .agg #[.string (numS qq), .string (denS qq)]])) (ha : ArgsAt W b (some ⟨g, 0, none⟩) 6 C 0) (hne : g ≠ b) (hc0 : NumCells W g (0 + 0 * 9) r) (hc1 : NumCells W g (0 + 1 * 9) qk) (hc2 : NumCells W g (0 + 2 * 9) qn) (hc3 : NumCells W g (0 + 3 * 9) v) (hc4 : NumCells W g (0 + 4 * 9) w0) (hc5 : NumCells W g (0 + 5 * 9) qe) (hE : EnvY W) (hP : Past b) :
    Calls Tryz.prog 97 #[.pointer (some ⟨b, 0, none⟩)] W fun e w' => e = .returned (.tuple #[.agg #[.string (numS ii), .string (denS ii)], .agg #[.string (numS qq), .string (denS qq)]]) ∧ W.grownBy w' (some b) := by
  have TW0 := Lib.hid (fun W => y_within (n) (0) (1000) W (by omega) (by omega))
  have TW1 := Lib.hid (fun W => y_within (e) (0) (1) W (by omega) (by omega))
  have TW2 := Lib.hid (fun W => y_within (k) (1) (n) W (by omega) (by omega))
  have Qc0 := Lib.hid c0
  unfold Fun6 at Qc0
  have TA0 := Lib.hid (fun W' ga gc ge => argNum_any b g 0 6 C 0 r W' ga (by decide) (by decide) hne gc hq0 ge hP)
  rw [fracV_is r] at TA0
  have TA1 := Lib.hid (fun W' ga gc ge => argWhole_any b g 0 6 C 1 qk W' ga (by decide) (by decide) hne gc hq1 (by rw [hw1]; omega) (by rw [hw1]; omega) ge hP)
  rw [hw1] at TA1
  have TA2 := Lib.hid (fun W' ga gc ge => argWhole_any b g 0 6 C 2 qn W' ga (by decide) (by decide) hne gc hq2 (by rw [hw2]; omega) (by rw [hw2]; omega) ge hP)
  rw [hw2] at TA2
  have TA3 := Lib.hid (fun W' ga gc ge => argNum_any b g 0 6 C 3 v W' ga (by decide) (by decide) hne gc hq3 ge hP)
  rw [fracV_is v] at TA3
  have TA4 := Lib.hid (fun W' ga gc ge => numOr_some b g 0 6 C 4 w0 0 W' ga (by decide) (by decide) hne gc hq4 ge hP)
  rw [fracV_is w0] at TA4
  have TA5 := Lib.hid (fun W' ga gc ge => wholeOr_some b g 0 6 C 5 qe 0 W' ga (by decide) (by decide) hne gc hq5 (by rw [hw5]; omega) (by rw [hw5]; omega) ge hP)
  rw [hw5] at TA5
  have HP := Lib.hid hP
  have HE0 := Lib.hid hE
  have NG := Lib.hid hne
  have HBW := Lib.hid (heap_lt ha)
  have hb : Below W.heap.size W ((W.alloc (.cells #[.string { data := #[] }, .string { data := #[] }] 23)).alloc (.cells #[.string { data := #[] }, .string { data := #[] }] 23)) := (((Below.refl _ _).alloc (Nat.le_refl _) _).alloc (by simp only [World.size_alloc]; omega) _)
  have HG := Lib.hid (kept_below (b := b) hb)
  have HE := Lib.hid (hE.below hb)
  have HA := Lib.hid (show ArgsAt ((W.alloc (.cells #[.string { data := #[] }, .string { data := #[] }] 23)).alloc (.cells #[.string { data := #[] }, .string { data := #[] }] 23)) b (some ⟨g, 0, none⟩) 6 C 0 from keep_block ha hb)
  have HC0 := Lib.hid (NumCells.below hc0 hb)
  have HC1 := Lib.hid (NumCells.below hc1 hb)
  have HC2 := Lib.hid (NumCells.below hc2 hb)
  have HC3 := Lib.hid (NumCells.below hc3 hb)
  have HC4 := Lib.hid (NumCells.below hc4 hb)
  have HC5 := Lib.hid (NumCells.below hc5 hb)
  have H2 : Hid (((W.alloc (.cells #[.string { data := #[] }, .string { data := #[] }] 23)).alloc (.cells #[.string { data := #[] }, .string { data := #[] }] 23)).heap[W.heap.size]? = some (.cells #[.string { data := #[] }, .string { data := #[] }] 23 (0, 0))) := Lib.hid (by
    have h := heap_alloc_new W (.cells #[.string { data := #[] }, .string { data := #[] }] 23)
    exact new_keep (h))
  have NE2 : Hid (W.heap.size ≠ b) := Lib.hid (by have := HBW.out; omega)
  have H3 : Hid (((W.alloc (.cells #[.string { data := #[] }, .string { data := #[] }] 23)).alloc (.cells #[.string { data := #[] }, .string { data := #[] }] 23)).heap[W.heap.size + 1]? = some (.cells #[.string { data := #[] }, .string { data := #[] }] 23 (0, 0))) := Lib.hid (by
    have h := heap_alloc_new (W.alloc (.cells #[.string { data := #[] }, .string { data := #[] }] 23)) (.cells #[.string { data := #[] }, .string { data := #[] }] 23)
    simp only [World.size_alloc] at h
    exact h)
  have NE3 : Hid (W.heap.size + 1 ≠ b) := Lib.hid (by have := HBW.out; omega)
  obtain ⟨W0, hW0⟩ : ∃ Z, ((W.alloc (.cells #[.string { data := #[] }, .string { data := #[] }] 23)).alloc (.cells #[.string { data := #[] }, .string { data := #[] }] 23)) = Z := ⟨_, rfl⟩
  rw [hW0] at HG HE HA HC0 HC1 HC2 HC3 HC4 HC5 H2 H3
  have EW0 := Lib.hid hW0
  clear hW0 hb ha hE hP hne hc0 hc1 hc2 hc3 hc4 hc5 c0 hq0 hq1 hw1 hq2 hw2 hq3 hq4 hq5 hw5 hk0 hk1 hn1 he0 he1
  go_enter Tryz.func97, Tryz.ntmps97
  go_wp2_with fail
  rw [EW0.out]
  refine (TA0.out _ HA.out HC0.out (HE.out.e)).mono ?_
  rintro e w1 ⟨rfl, ha, hg⟩
  replace HA := Lib.hid ha
  clear HC0
  replace H2 := Lib.hid (kept_block H2.out hg NE2.out)
  replace H3 := Lib.hid (kept_block H3.out hg NE3.out)
  replace HC1 := Lib.hid (HC1.out.kept hg NG.out)
  replace HC2 := Lib.hid (HC2.out.kept hg NG.out)
  replace HC3 := Lib.hid (HC3.out.kept hg NG.out)
  replace HC4 := Lib.hid (HC4.out.kept hg NG.out)
  replace HC5 := Lib.hid (HC5.out.kept hg NG.out)
  replace HE := Lib.hid (HE.out.kept hg HP.out)
  replace HG := Lib.hid (kept_trans HG.out hg)
  clear ha hg
  go_wp2_with fail
  refine (TA1.out _ HA.out HC1.out (HE.out.e)).mono ?_
  rintro e w2 ⟨rfl, ha, hg⟩
  replace HA := Lib.hid ha
  clear HC1
  replace H2 := Lib.hid (kept_block H2.out hg NE2.out)
  replace H3 := Lib.hid (kept_block H3.out hg NE3.out)
  replace HC2 := Lib.hid (HC2.out.kept hg NG.out)
  replace HC3 := Lib.hid (HC3.out.kept hg NG.out)
  replace HC4 := Lib.hid (HC4.out.kept hg NG.out)
  replace HC5 := Lib.hid (HC5.out.kept hg NG.out)
  replace HE := Lib.hid (HE.out.kept hg HP.out)
  replace HG := Lib.hid (kept_trans HG.out hg)
  clear ha hg
  go_wp2_with fail
  refine (TA2.out _ HA.out HC2.out (HE.out.e)).mono ?_
  rintro e w3 ⟨rfl, ha, hg⟩
  replace HA := Lib.hid ha
  clear HC2
  replace H2 := Lib.hid (kept_block H2.out hg NE2.out)
  replace H3 := Lib.hid (kept_block H3.out hg NE3.out)
  replace HC3 := Lib.hid (HC3.out.kept hg NG.out)
  replace HC4 := Lib.hid (HC4.out.kept hg NG.out)
  replace HC5 := Lib.hid (HC5.out.kept hg NG.out)
  replace HE := Lib.hid (HE.out.kept hg HP.out)
  replace HG := Lib.hid (kept_trans HG.out hg)
  clear ha hg
  go_wp2_with fail
  refine (TA3.out _ HA.out HC3.out (HE.out.e)).mono ?_
  rintro e w4 ⟨rfl, ha, hg⟩
  replace HA := Lib.hid ha
  clear HC3
  replace H2 := Lib.hid (kept_block H2.out hg NE2.out)
  replace H3 := Lib.hid (kept_block H3.out hg NE3.out)
  replace HC4 := Lib.hid (HC4.out.kept hg NG.out)
  replace HC5 := Lib.hid (HC5.out.kept hg NG.out)
  replace HE := Lib.hid (HE.out.kept hg HP.out)
  replace HG := Lib.hid (kept_trans HG.out hg)
  clear ha hg
  go_wp2_with fail
  refine (TA4.out _ HA.out HC4.out (HE.out.e)).mono ?_
  rintro e w5 ⟨rfl, ha, hg⟩
  replace HA := Lib.hid ha
  clear HC4
  replace H2 := Lib.hid (kept_block H2.out hg NE2.out)
  replace H3 := Lib.hid (kept_block H3.out hg NE3.out)
  replace HC5 := Lib.hid (HC5.out.kept hg NG.out)
  replace HE := Lib.hid (HE.out.kept hg HP.out)
  replace HG := Lib.hid (kept_trans HG.out hg)
  clear ha hg
  go_wp2_with fail
  refine (TA5.out _ HA.out HC5.out (HE.out.e)).mono ?_
  rintro e w6 ⟨rfl, ha, hg⟩
  replace HA := Lib.hid ha
  clear HC5
  replace H2 := Lib.hid (kept_block H2.out hg NE2.out)
  replace H3 := Lib.hid (kept_block H3.out hg NE3.out)
  replace HE := Lib.hid (HE.out.kept hg HP.out)
  replace HG := Lib.hid (kept_trans HG.out hg)
  clear ha hg
  have lt_2 := heap_lt H2.out
  have lt_3 := heap_lt H3.out
  have geW := HG.out.size
  have L4_2 : Hid (W.heap.size < w6.heap.size) := Lib.hid (by omega)
  have L4_3 : Hid (W.heap.size + 1 < w6.heap.size) := Lib.hid (by omega)
  have G4 : Hid (W.heap.size ≤ w6.heap.size) := Lib.hid (by omega)
  have NE4 : Hid (w6.heap.size ≠ b) := Lib.hid (by have := HBW.out; omega)
  have hb : Below w6.heap.size w6 (w6.alloc (.cells #[.string (numS r), .string (denS r)] 23)) := (Below.refl _ _).alloc (Nat.le_refl _) _
  replace H2 := Lib.hid (keep_block H2.out hb)
  replace H3 := Lib.hid (keep_block H3.out hb)
  replace HA := Lib.hid (keep_block HA.out hb)
  replace HE := Lib.hid (HE.out.below hb)
  replace HG := Lib.hid (kept_trans HG.out (kept_below hb))
  have H4 := Lib.hid (heap_alloc_new w6 (.cells #[.string (numS r), .string (denS r)] 23))
  clear hb
  have L7_2 : Hid (W.heap.size < w6.heap.size + 1) := Lib.hid (by omega)
  have L7_3 : Hid (W.heap.size + 1 < w6.heap.size + 1) := Lib.hid (by omega)
  have L7_4 : Hid (w6.heap.size < w6.heap.size + 1) := Lib.hid (by omega)
  have G7 : Hid (W.heap.size ≤ w6.heap.size + 1) := Lib.hid (by omega)
  have NE7 : Hid (w6.heap.size + 1 ≠ b) := Lib.hid (by have := HBW.out; omega)
  have hb : Below (w6.alloc (.cells #[.string (numS r), .string (denS r)] 23)).heap.size (w6.alloc (.cells #[.string (numS r), .string (denS r)] 23)) ((w6.alloc (.cells #[.string (numS r), .string (denS r)] 23)).alloc (.cells #[.string (numS v), .string (denS v)] 23)) := (Below.refl _ _).alloc (Nat.le_refl _) _
  replace H2 := Lib.hid (keep_block H2.out hb)
  replace H3 := Lib.hid (keep_block H3.out hb)
  replace H4 := Lib.hid (keep_block H4.out hb)
  replace HA := Lib.hid (keep_block HA.out hb)
  replace HE := Lib.hid (HE.out.below hb)
  replace HG := Lib.hid (kept_trans HG.out (kept_below hb))
  have H7 : Hid (((w6.alloc (.cells #[.string (numS r), .string (denS r)] 23)).alloc (.cells #[.string (numS v), .string (denS v)] 23)).heap[w6.heap.size + 1]? = some (.cells #[.string (numS v), .string (denS v)] 23 (0, 0))) := Lib.hid (by
    have h := heap_alloc_new (w6.alloc (.cells #[.string (numS r), .string (denS r)] 23)) (.cells #[.string (numS v), .string (denS v)] 23)
    simp only [World.size_alloc] at h
    exact h)
  clear hb
  have L8_2 : Hid (W.heap.size < w6.heap.size + 2) := Lib.hid (by omega)
  have L8_3 : Hid (W.heap.size + 1 < w6.heap.size + 2) := Lib.hid (by omega)
  have L8_4 : Hid (w6.heap.size < w6.heap.size + 2) := Lib.hid (by omega)
  have L8_7 : Hid (w6.heap.size + 1 < w6.heap.size + 2) := Lib.hid (by omega)
  have G8 : Hid (W.heap.size ≤ w6.heap.size + 2) := Lib.hid (by omega)
  have NE8 : Hid (w6.heap.size + 2 ≠ b) := Lib.hid (by have := HBW.out; omega)
  have hb : Below ((w6.alloc (.cells #[.string (numS r), .string (denS r)] 23)).alloc (.cells #[.string (numS v), .string (denS v)] 23)).heap.size ((w6.alloc (.cells #[.string (numS r), .string (denS r)] 23)).alloc (.cells #[.string (numS v), .string (denS v)] 23)) (((w6.alloc (.cells #[.string (numS r), .string (denS r)] 23)).alloc (.cells #[.string (numS v), .string (denS v)] 23)).alloc (.cells #[.string (numS w0), .string (denS w0)] 23)) := (Below.refl _ _).alloc (Nat.le_refl _) _
  replace H2 := Lib.hid (keep_block H2.out hb)
  replace H3 := Lib.hid (keep_block H3.out hb)
  replace H4 := Lib.hid (keep_block H4.out hb)
  replace H7 := Lib.hid (keep_block H7.out hb)
  replace HA := Lib.hid (keep_block HA.out hb)
  replace HE := Lib.hid (HE.out.below hb)
  replace HG := Lib.hid (kept_trans HG.out (kept_below hb))
  have H8 : Hid ((((w6.alloc (.cells #[.string (numS r), .string (denS r)] 23)).alloc (.cells #[.string (numS v), .string (denS v)] 23)).alloc (.cells #[.string (numS w0), .string (denS w0)] 23)).heap[w6.heap.size + 2]? = some (.cells #[.string (numS w0), .string (denS w0)] 23 (0, 0))) := Lib.hid (by
    have h := heap_alloc_new ((w6.alloc (.cells #[.string (numS r), .string (denS r)] 23)).alloc (.cells #[.string (numS v), .string (denS v)] 23)) (.cells #[.string (numS w0), .string (denS w0)] 23)
    simp only [World.size_alloc] at h
    exact h)
  clear hb
  clear geW lt_2 lt_3
  obtain ⟨WL1, hWL1⟩ : ∃ Z, (((w6.alloc (.cells #[.string (numS r), .string (denS r)] 23)).alloc (.cells #[.string (numS v), .string (denS v)] 23)).alloc (.cells #[.string (numS w0), .string (denS w0)] 23)) = Z := ⟨_, rfl⟩
  rw [hWL1] at HE HG H2 H3 H4 H7 H8 HA
  have EWL1 := Lib.hid hWL1
  clear hWL1
  clear HA 
  go_wp2_with fail
  rw [EWL1.out]
  refine (TW0.out _).mono ?_
  rintro e w7 ⟨rfl, hws⟩
  replace hws := hws.symm
  subst hws
  go_wp2_with fail
  refine (TW1.out _).mono ?_
  rintro e w8 ⟨rfl, hws⟩
  replace hws := hws.symm
  subst hws
  go_wp2_with fail
  refine (TW2.out _).mono ?_
  rintro e w9 ⟨rfl, hws⟩
  replace hws := hws.symm
  subst hws
  obtain ⟨⟨x4_0, x4_1⟩, x4_f0, x4_f1⟩ := two_at H4.out
  obtain ⟨⟨x7_0, x7_1⟩, x7_f0, x7_f1⟩ := two_at H7.out
  obtain ⟨⟨x8_0, x8_1⟩, x8_f0, x8_f1⟩ := two_at H8.out
  go_wp2_with fail
  refine (Qc0.out _ HE.out).mono ?_
  clear x4_0 x4_1 x4_f0 x4_f1
  clear x7_0 x7_1 x7_f0 x7_f1
  clear x8_0 x8_1 x8_f0 x8_f1
  rintro e w10 ⟨rfl, hb⟩
  replace H2 := Lib.hid (keep_block H2.out hb)
  replace H3 := Lib.hid (keep_block H3.out hb)
  replace H4 := Lib.hid (keep_block H4.out hb)
  replace H7 := Lib.hid (keep_block H7.out hb)
  replace H8 := Lib.hid (keep_block H8.out hb)
  replace HE := Lib.hid (HE.out.below hb)
  replace HG := Lib.hid (kept_trans HG.out (kept_below hb))
  clear hb
  have k3 := (set2_other w10 (W.heap.size) (.string (numS ii)) (.string (denS ii)) (by skip; omega)).trans H3.out
  obtain ⟨⟨x2_0, x2_1⟩, x2_f0, x2_f1⟩ := two_at H2.out
  have n2 := set2_at H2.out (.string (numS ii)) (.string (denS ii))
  have hgl : W.grownBy ((w10.setCell ⟨W.heap.size, 0, none⟩ (.string (numS ii))).setCell ⟨W.heap.size, 1, none⟩ (.string (denS ii))) (some b) := below_only HG.out (put2_below (show W.heap.size ≤ W.heap.size from (by omega)) w10 (.string (numS ii)) (.string (denS ii)))
  clear HG
  have HG := Lib.hid hgl
  clear hgl
  have k2 := (set2_other ((w10.setCell ⟨W.heap.size, 0, none⟩ (.string (numS ii))).setCell ⟨W.heap.size, 1, none⟩ (.string (denS ii))) (W.heap.size + 1) (.string (numS qq)) (.string (denS qq)) (by skip; omega)).trans n2
  obtain ⟨⟨x3_0, x3_1⟩, x3_f0, x3_f1⟩ := two_at H3.out
  have n3 := set2_at k3 (.string (numS qq)) (.string (denS qq))
  have hgl : W.grownBy ((((w10.setCell ⟨W.heap.size, 0, none⟩ (.string (numS ii))).setCell ⟨W.heap.size, 1, none⟩ (.string (denS ii))).setCell ⟨W.heap.size + 1, 0, none⟩ (.string (numS qq))).setCell ⟨W.heap.size + 1, 1, none⟩ (.string (denS qq))) (some b) := below_only HG.out (put2_below (show W.heap.size ≤ W.heap.size + 1 from (by omega)) ((w10.setCell ⟨W.heap.size, 0, none⟩ (.string (numS ii))).setCell ⟨W.heap.size, 1, none⟩ (.string (denS ii))) (.string (numS qq)) (.string (denS qq)))
  clear HG
  have HG := Lib.hid hgl
  clear hgl
  obtain ⟨⟨r2_0, r2_1⟩, _⟩ := two_at k2
  obtain ⟨⟨r3_0, r3_1⟩, _⟩ := two_at n3
  go_wp2
  refine bodyPost_ret (v := .tuple #[.agg #[.string (numS ii), .string (denS ii)], .agg #[.string (numS qq), .string (denS qq)]]) (by simp [results, Tryz.results97, go_sem, r2_0, r2_1, r3_0, r3_1]) rfl ⟨rfl, HG.out⟩

set_option linter.unusedSimpArgs false in
set_option linter.unusedVariables false in
set_option maxHeartbeats 4000000 in
set_option maxRecDepth 100000 in
theorem fy_IPMT (r qk qn v w0 qe ii qq : Rat) (k n e : Int) (b g C : Nat) (W : World) (hq0 : fits r = true)
    (hq1 : fits qk = true)
    (hw1 : qk.floor = k)
    (hq2 : fits qn = true)
    (hw2 : qn.floor = n)
    (hq3 : fits v = true)
    (hq4 : fits w0 = true)
    (hq5 : fits qe = true)
    (hw5 : qe.floor = e)
    (hk0 : 1 ≤ k)
    (hk1 : k ≤ n)
    (hn1 : n ≤ 1000)
    (he0 : 0 ≤ e)
    (he1 : e ≤ 1)
    (c0 : Fun6 213 (.agg #[.string (numS r), .string (denS r)]) (.int .i64 k) (.int .i64 n) (.agg #[.string (numS v), .string (denS v)]) (.agg #[.string (numS w0), .string (denS w0)]) (.int .i64 e) (.tuple #[.agg #[.string (numS ii), .string (denS ii)], .agg #[.string (numS qq), .string (denS qq)]])) (ha : ArgsAt W b (some ⟨g, 0, none⟩) 6 C 0) (hne : g ≠ b) (hc0 : NumCells W g (0 + 0 * 9) r) (hc1 : NumCells W g (0 + 1 * 9) qk) (hc2 : NumCells W g (0 + 2 * 9) qn) (hc3 : NumCells W g (0 + 3 * 9) v) (hc4 : NumCells W g (0 + 4 * 9) w0) (hc5 : NumCells W g (0 + 5 * 9) qe) (hE : EnvY W) (hP : Past b) :
    Calls Tryz.prog 96 #[.pointer (some ⟨b, 0, none⟩)] W fun e w' => e = .returned (.agg #[.string (numS ii), .string (denS ii)]) ∧ W.grownBy w' (some b) := by
  have TP := Lib.hid (fun W' ga h0 h1 h2 h3 h4 h5 ge => fy_parts r qk qn v w0 qe ii qq k n e b g C W' hq0 hq1 hw1 hq2 hw2 hq3 hq4 hq5 hw5 hk0 hk1 hn1 he0 he1 c0 ga hne h0 h1 h2 h3 h4 h5 ge hP)
  have HP := Lib.hid hP
  have HE0 := Lib.hid hE
  have NG := Lib.hid hne
  have HBW := Lib.hid (heap_lt ha)
  have hb : Below W.heap.size W (W.alloc (.cells #[.string { data := #[] }, .string { data := #[] }] 23)) := ((Below.refl _ _).alloc (Nat.le_refl _) _)
  have HG := Lib.hid (kept_below (b := b) hb)
  have HE := Lib.hid (hE.below hb)
  have HA := Lib.hid (show ArgsAt (W.alloc (.cells #[.string { data := #[] }, .string { data := #[] }] 23)) b (some ⟨g, 0, none⟩) 6 C 0 from keep_block ha hb)
  have HC0 := Lib.hid (NumCells.below hc0 hb)
  have HC1 := Lib.hid (NumCells.below hc1 hb)
  have HC2 := Lib.hid (NumCells.below hc2 hb)
  have HC3 := Lib.hid (NumCells.below hc3 hb)
  have HC4 := Lib.hid (NumCells.below hc4 hb)
  have HC5 := Lib.hid (NumCells.below hc5 hb)
  have H2 : Hid ((W.alloc (.cells #[.string { data := #[] }, .string { data := #[] }] 23)).heap[W.heap.size]? = some (.cells #[.string { data := #[] }, .string { data := #[] }] 23 (0, 0))) := Lib.hid (by
    have h := heap_alloc_new W (.cells #[.string { data := #[] }, .string { data := #[] }] 23)
    exact h)
  have NE2 : Hid (W.heap.size ≠ b) := Lib.hid (by have := HBW.out; omega)
  obtain ⟨W0, hW0⟩ : ∃ Z, (W.alloc (.cells #[.string { data := #[] }, .string { data := #[] }] 23)) = Z := ⟨_, rfl⟩
  rw [hW0] at HG HE HA HC0 HC1 HC2 HC3 HC4 HC5 H2
  have EW0 := Lib.hid hW0
  clear hW0 hb ha hE hP hne hc0 hc1 hc2 hc3 hc4 hc5  hq0 hq1 hw1 hq2 hw2 hq3 hq4 hq5 hw5 hk0 hk1 hn1 he0 he1 c0
  go_enter Tryz.func96, Tryz.ntmps96
  go_wp2_with fail
  rw [EW0.out]
  refine (TP.out _ HA.out HC0.out HC1.out HC2.out HC3.out HC4.out HC5.out HE.out).mono ?_
  rintro e w1 ⟨rfl, hg⟩
  clear HA
  replace H2 := Lib.hid (kept_block H2.out hg NE2.out)
  replace HC0 := Lib.hid (HC0.out.kept hg NG.out)
  replace HC1 := Lib.hid (HC1.out.kept hg NG.out)
  replace HC2 := Lib.hid (HC2.out.kept hg NG.out)
  replace HC3 := Lib.hid (HC3.out.kept hg NG.out)
  replace HC4 := Lib.hid (HC4.out.kept hg NG.out)
  replace HC5 := Lib.hid (HC5.out.kept hg NG.out)
  replace HE := Lib.hid (HE.out.kept hg HP.out)
  replace HG := Lib.hid (kept_trans HG.out hg)
  clear hg
  have lt_2 := heap_lt H2.out
  have geW := HG.out.size
  have L3_2 : Hid (W.heap.size < w1.heap.size) := Lib.hid (by omega)
  have G3 : Hid (W.heap.size ≤ w1.heap.size) := Lib.hid (by omega)
  have NE3 : Hid (w1.heap.size ≠ b) := Lib.hid (by have := HBW.out; omega)
  have hb : Below w1.heap.size w1 (w1.alloc (.cells #[.string (numS ii), .string (denS ii)] 23)) := (Below.refl _ _).alloc (Nat.le_refl _) _
  replace H2 := Lib.hid (keep_block H2.out hb)
  replace HC0 := Lib.hid (NumCells.below HC0.out hb)
  replace HC1 := Lib.hid (NumCells.below HC1.out hb)
  replace HC2 := Lib.hid (NumCells.below HC2.out hb)
  replace HC3 := Lib.hid (NumCells.below HC3.out hb)
  replace HC4 := Lib.hid (NumCells.below HC4.out hb)
  replace HC5 := Lib.hid (NumCells.below HC5.out hb)
  replace HE := Lib.hid (HE.out.below hb)
  replace HG := Lib.hid (kept_trans HG.out (kept_below hb))
  have H3 := Lib.hid (heap_alloc_new w1 (.cells #[.string (numS ii), .string (denS ii)] 23))
  clear hb
  have L4_2 : Hid (W.heap.size < w1.heap.size + 1) := Lib.hid (by omega)
  have L4_3 : Hid (w1.heap.size < w1.heap.size + 1) := Lib.hid (by omega)
  have G4 : Hid (W.heap.size ≤ w1.heap.size + 1) := Lib.hid (by omega)
  have NE4 : Hid (w1.heap.size + 1 ≠ b) := Lib.hid (by have := HBW.out; omega)
  have hb : Below (w1.alloc (.cells #[.string (numS ii), .string (denS ii)] 23)).heap.size (w1.alloc (.cells #[.string (numS ii), .string (denS ii)] 23)) ((w1.alloc (.cells #[.string (numS ii), .string (denS ii)] 23)).alloc (.cells #[.string (numS qq), .string (denS qq)] 23)) := (Below.refl _ _).alloc (Nat.le_refl _) _
  replace H2 := Lib.hid (keep_block H2.out hb)
  replace H3 := Lib.hid (keep_block H3.out hb)
  replace HC0 := Lib.hid (NumCells.below HC0.out hb)
  replace HC1 := Lib.hid (NumCells.below HC1.out hb)
  replace HC2 := Lib.hid (NumCells.below HC2.out hb)
  replace HC3 := Lib.hid (NumCells.below HC3.out hb)
  replace HC4 := Lib.hid (NumCells.below HC4.out hb)
  replace HC5 := Lib.hid (NumCells.below HC5.out hb)
  replace HE := Lib.hid (HE.out.below hb)
  replace HG := Lib.hid (kept_trans HG.out (kept_below hb))
  have H4 : Hid (((w1.alloc (.cells #[.string (numS ii), .string (denS ii)] 23)).alloc (.cells #[.string (numS qq), .string (denS qq)] 23)).heap[w1.heap.size + 1]? = some (.cells #[.string (numS qq), .string (denS qq)] 23 (0, 0))) := Lib.hid (by
    have h := heap_alloc_new (w1.alloc (.cells #[.string (numS ii), .string (denS ii)] 23)) (.cells #[.string (numS qq), .string (denS qq)] 23)
    simp only [World.size_alloc] at h
    exact h)
  clear hb
  clear geW lt_2
  obtain ⟨⟨x3_0, x3_1⟩, x3_f0, x3_f1⟩ := two_at H3.out
  obtain ⟨⟨x2_0, x2_1⟩, x2_f0, x2_f1⟩ := two_at H2.out
  have n2 := set2_at H2.out (.string (numS ii)) (.string (denS ii))
  have hgl : W.grownBy ((((w1.alloc (.cells #[.string (numS ii), .string (denS ii)] 23)).alloc (.cells #[.string (numS qq), .string (denS qq)] 23)).setCell ⟨W.heap.size, 0, none⟩ (.string (numS ii))).setCell ⟨W.heap.size, 1, none⟩ (.string (denS ii))) (some b) := below_only HG.out (put2_below (show W.heap.size ≤ W.heap.size from (by omega)) ((w1.alloc (.cells #[.string (numS ii), .string (denS ii)] 23)).alloc (.cells #[.string (numS qq), .string (denS qq)] 23)) (.string (numS ii)) (.string (denS ii)))
  clear HG
  have HG := Lib.hid hgl
  clear hgl
  obtain ⟨⟨r2_0, r2_1⟩, _⟩ := two_at n2
  go_wp2
  refine bodyPost_ret (v := .agg #[.string (numS ii), .string (denS ii)]) (by simp [results, Tryz.results96, go_sem, r2_0, r2_1]) rfl ⟨rfl, HG.out⟩

set_option linter.unusedSimpArgs false in
set_option linter.unusedVariables false in
set_option maxHeartbeats 4000000 in
set_option maxRecDepth 100000 in
theorem fy_PPMT (r qk qn v w0 qe ii qq : Rat) (k n e : Int) (b g C : Nat) (W : World) (hq0 : fits r = true)
    (hq1 : fits qk = true)
    (hw1 : qk.floor = k)
    (hq2 : fits qn = true)
    (hw2 : qn.floor = n)
    (hq3 : fits v = true)
    (hq4 : fits w0 = true)
    (hq5 : fits qe = true)
    (hw5 : qe.floor = e)
    (hk0 : 1 ≤ k)
    (hk1 : k ≤ n)
    (hn1 : n ≤ 1000)
    (he0 : 0 ≤ e)
    (he1 : e ≤ 1)
    (c0 : Fun6 213 (.agg #[.string (numS r), .string (denS r)]) (.int .i64 k) (.int .i64 n) (.agg #[.string (numS v), .string (denS v)]) (.agg #[.string (numS w0), .string (denS w0)]) (.int .i64 e) (.tuple #[.agg #[.string (numS ii), .string (denS ii)], .agg #[.string (numS qq), .string (denS qq)]])) (ha : ArgsAt W b (some ⟨g, 0, none⟩) 6 C 0) (hne : g ≠ b) (hc0 : NumCells W g (0 + 0 * 9) r) (hc1 : NumCells W g (0 + 1 * 9) qk) (hc2 : NumCells W g (0 + 2 * 9) qn) (hc3 : NumCells W g (0 + 3 * 9) v) (hc4 : NumCells W g (0 + 4 * 9) w0) (hc5 : NumCells W g (0 + 5 * 9) qe) (hE : EnvY W) (hP : Past b) :
    Calls Tryz.prog 98 #[.pointer (some ⟨b, 0, none⟩)] W fun e w' => e = .returned (.agg #[.string (numS qq), .string (denS qq)]) ∧ W.grownBy w' (some b) := by
  have TP := Lib.hid (fun W' ga h0 h1 h2 h3 h4 h5 ge => fy_parts r qk qn v w0 qe ii qq k n e b g C W' hq0 hq1 hw1 hq2 hw2 hq3 hq4 hq5 hw5 hk0 hk1 hn1 he0 he1 c0 ga hne h0 h1 h2 h3 h4 h5 ge hP)
  have HP := Lib.hid hP
  have HE0 := Lib.hid hE
  have NG := Lib.hid hne
  have HBW := Lib.hid (heap_lt ha)
  have hb : Below W.heap.size W (W.alloc (.cells #[.string { data := #[] }, .string { data := #[] }] 23)) := ((Below.refl _ _).alloc (Nat.le_refl _) _)
  have HG := Lib.hid (kept_below (b := b) hb)
  have HE := Lib.hid (hE.below hb)
  have HA := Lib.hid (show ArgsAt (W.alloc (.cells #[.string { data := #[] }, .string { data := #[] }] 23)) b (some ⟨g, 0, none⟩) 6 C 0 from keep_block ha hb)
  have HC0 := Lib.hid (NumCells.below hc0 hb)
  have HC1 := Lib.hid (NumCells.below hc1 hb)
  have HC2 := Lib.hid (NumCells.below hc2 hb)
  have HC3 := Lib.hid (NumCells.below hc3 hb)
  have HC4 := Lib.hid (NumCells.below hc4 hb)
  have HC5 := Lib.hid (NumCells.below hc5 hb)
  have H2 : Hid ((W.alloc (.cells #[.string { data := #[] }, .string { data := #[] }] 23)).heap[W.heap.size]? = some (.cells #[.string { data := #[] }, .string { data := #[] }] 23 (0, 0))) := Lib.hid (by
    have h := heap_alloc_new W (.cells #[.string { data := #[] }, .string { data := #[] }] 23)
    exact h)
  have NE2 : Hid (W.heap.size ≠ b) := Lib.hid (by have := HBW.out; omega)
  obtain ⟨W0, hW0⟩ : ∃ Z, (W.alloc (.cells #[.string { data := #[] }, .string { data := #[] }] 23)) = Z := ⟨_, rfl⟩
  rw [hW0] at HG HE HA HC0 HC1 HC2 HC3 HC4 HC5 H2
  have EW0 := Lib.hid hW0
  clear hW0 hb ha hE hP hne hc0 hc1 hc2 hc3 hc4 hc5  hq0 hq1 hw1 hq2 hw2 hq3 hq4 hq5 hw5 hk0 hk1 hn1 he0 he1 c0
  go_enter Tryz.func98, Tryz.ntmps98
  go_wp2_with fail
  rw [EW0.out]
  refine (TP.out _ HA.out HC0.out HC1.out HC2.out HC3.out HC4.out HC5.out HE.out).mono ?_
  rintro e w1 ⟨rfl, hg⟩
  clear HA
  replace H2 := Lib.hid (kept_block H2.out hg NE2.out)
  replace HC0 := Lib.hid (HC0.out.kept hg NG.out)
  replace HC1 := Lib.hid (HC1.out.kept hg NG.out)
  replace HC2 := Lib.hid (HC2.out.kept hg NG.out)
  replace HC3 := Lib.hid (HC3.out.kept hg NG.out)
  replace HC4 := Lib.hid (HC4.out.kept hg NG.out)
  replace HC5 := Lib.hid (HC5.out.kept hg NG.out)
  replace HE := Lib.hid (HE.out.kept hg HP.out)
  replace HG := Lib.hid (kept_trans HG.out hg)
  clear hg
  have lt_2 := heap_lt H2.out
  have geW := HG.out.size
  have L3_2 : Hid (W.heap.size < w1.heap.size) := Lib.hid (by omega)
  have G3 : Hid (W.heap.size ≤ w1.heap.size) := Lib.hid (by omega)
  have NE3 : Hid (w1.heap.size ≠ b) := Lib.hid (by have := HBW.out; omega)
  have hb : Below w1.heap.size w1 (w1.alloc (.cells #[.string (numS ii), .string (denS ii)] 23)) := (Below.refl _ _).alloc (Nat.le_refl _) _
  replace H2 := Lib.hid (keep_block H2.out hb)
  replace HC0 := Lib.hid (NumCells.below HC0.out hb)
  replace HC1 := Lib.hid (NumCells.below HC1.out hb)
  replace HC2 := Lib.hid (NumCells.below HC2.out hb)
  replace HC3 := Lib.hid (NumCells.below HC3.out hb)
  replace HC4 := Lib.hid (NumCells.below HC4.out hb)
  replace HC5 := Lib.hid (NumCells.below HC5.out hb)
  replace HE := Lib.hid (HE.out.below hb)
  replace HG := Lib.hid (kept_trans HG.out (kept_below hb))
  have H3 := Lib.hid (heap_alloc_new w1 (.cells #[.string (numS ii), .string (denS ii)] 23))
  clear hb
  have L4_2 : Hid (W.heap.size < w1.heap.size + 1) := Lib.hid (by omega)
  have L4_3 : Hid (w1.heap.size < w1.heap.size + 1) := Lib.hid (by omega)
  have G4 : Hid (W.heap.size ≤ w1.heap.size + 1) := Lib.hid (by omega)
  have NE4 : Hid (w1.heap.size + 1 ≠ b) := Lib.hid (by have := HBW.out; omega)
  have hb : Below (w1.alloc (.cells #[.string (numS ii), .string (denS ii)] 23)).heap.size (w1.alloc (.cells #[.string (numS ii), .string (denS ii)] 23)) ((w1.alloc (.cells #[.string (numS ii), .string (denS ii)] 23)).alloc (.cells #[.string (numS qq), .string (denS qq)] 23)) := (Below.refl _ _).alloc (Nat.le_refl _) _
  replace H2 := Lib.hid (keep_block H2.out hb)
  replace H3 := Lib.hid (keep_block H3.out hb)
  replace HC0 := Lib.hid (NumCells.below HC0.out hb)
  replace HC1 := Lib.hid (NumCells.below HC1.out hb)
  replace HC2 := Lib.hid (NumCells.below HC2.out hb)
  replace HC3 := Lib.hid (NumCells.below HC3.out hb)
  replace HC4 := Lib.hid (NumCells.below HC4.out hb)
  replace HC5 := Lib.hid (NumCells.below HC5.out hb)
  replace HE := Lib.hid (HE.out.below hb)
  replace HG := Lib.hid (kept_trans HG.out (kept_below hb))
  have H4 : Hid (((w1.alloc (.cells #[.string (numS ii), .string (denS ii)] 23)).alloc (.cells #[.string (numS qq), .string (denS qq)] 23)).heap[w1.heap.size + 1]? = some (.cells #[.string (numS qq), .string (denS qq)] 23 (0, 0))) := Lib.hid (by
    have h := heap_alloc_new (w1.alloc (.cells #[.string (numS ii), .string (denS ii)] 23)) (.cells #[.string (numS qq), .string (denS qq)] 23)
    simp only [World.size_alloc] at h
    exact h)
  clear hb
  clear geW lt_2
  obtain ⟨⟨x4_0, x4_1⟩, x4_f0, x4_f1⟩ := two_at H4.out
  obtain ⟨⟨x2_0, x2_1⟩, x2_f0, x2_f1⟩ := two_at H2.out
  have n2 := set2_at H2.out (.string (numS qq)) (.string (denS qq))
  have hgl : W.grownBy ((((w1.alloc (.cells #[.string (numS ii), .string (denS ii)] 23)).alloc (.cells #[.string (numS qq), .string (denS qq)] 23)).setCell ⟨W.heap.size, 0, none⟩ (.string (numS qq))).setCell ⟨W.heap.size, 1, none⟩ (.string (denS qq))) (some b) := below_only HG.out (put2_below (show W.heap.size ≤ W.heap.size from (by omega)) ((w1.alloc (.cells #[.string (numS ii), .string (denS ii)] 23)).alloc (.cells #[.string (numS qq), .string (denS qq)] 23)) (.string (numS qq)) (.string (denS qq)))
  clear HG
  have HG := Lib.hid hgl
  clear hgl
  obtain ⟨⟨r2_0, r2_1⟩, _⟩ := two_at n2
  go_wp2
  refine bodyPost_ret (v := .agg #[.string (numS qq), .string (denS qq)]) (by simp [results, Tryz.results98, go_sem, r2_0, r2_1]) rfl ⟨rfl, HG.out⟩

end Go.Proofs.YtphfefmlappidaaGreatDoor.Num.Fy
