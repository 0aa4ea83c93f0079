/- Numbers as texts of digits, fractions, values and the functions of fmath: contracts of the program's functions, joined from smaller texts. Conditions stand at each theorem. -/
import Derived.Test.YtphfefmlappidaaGreatDoorFdcB
import Derived.Test.YtphfefmlappidaaGreatDoorNumG
import Derived.Test.YtphfefmlappidaaGreatDoorFdcA
import Derived.Test.YtphfefmlappidaaGreatDoorFdcC

/- package fdate: the seconds of the part of a day. Conditions: nothing is too long; the tables lie as they are laid. -/
namespace Go.Proofs.YtphfefmlappidaaGreatDoor.Num
open Go.RowKit Go.Lib

set_option linter.unusedVariables false in
/-- what the operations of region 4 yield -/
def ScnKs4 (W W1 W2 : World) (q0 f y zz te : Rat) (N : Int) : List RK :=
  [.pure (.agg #[.string (numS y), .string (denS y)]),
   .pure (.agg #[.string (numS te), .string (denS te)]),
   .pure (.tuple #[.agg #[.string (numS zz), .string (denS zz)], .int .i64 0]),
   .pure (.agg #[.string (numS zz), .string (denS zz)]),
   .pure (.int .i64 0),
   .pure (.agg #[.string (numS zz), .string (denS zz)]),
   .pure (.tuple #[.agg #[.string (numS zz), .string (denS zz)], .int .i64 0]),
   .pure (.tuple #[.agg #[.string (numS zz), .string (denS zz)], .int .i64 0]),
   .pure (.agg #[.string (numS zz), .string (denS zz)]),
   .pure (.int .i64 0),
   .put 11,
   .box (some (W1.heap.size)) #[.string (numS y), .string (denS y)] #[.string (numS zz), .string (denS zz)] 23 10,
   .box (some (W2.heap.size)) #[.string (numS f), .string (denS f)] #[.string (numS f), .string (denS f)] 23 13]
set_option linter.unusedSimpArgs false in
set_option linter.unusedVariables false in
set_option maxHeartbeats 4000000 in
set_option maxRecDepth 100000 in
theorem fd_seconds (q0 f y : Rat) (N c : Int) (b g C : Nat) (W : World) (hq0 : fits q0 = true) (hf0 : fits ((q0.floor : Int) : Rat) = true) (hqf : ((q0.floor : Int) : Rat) = f) (hy : q0 - f = y) (hyf : fits y = true) (hz : y * ((86400 : Int) : Rat) = (N : Rat)) (hN0 : 0 ≤ N) (hN1 : N ≤ 86400) (hcc : (c == 45) = false) (hix : ∀ W : World, (Instr.index 9 (.string (numS f)) (.int .i64 0)).run Tryz.prog W = .ok (.int .u8 c) W) (ha : ArgsAt W b (some ⟨g, 0, none⟩) 1 C 0) (hne : g ≠ b) (hc0 : NumCells W g (0 + 0 * 9) q0) (hE : Env W) (hP : Past b) :
    Calls Tryz.prog 162 #[.pointer (some ⟨b, 0, none⟩)] W fun e w' => e = .returned (.int .i64 N) ∧ W.grownBy w' (some b) := by
  have TN0 := Lib.hid (fun W' ga gc ge => argNum_any b g 0 1 C 0 q0 W' ga (by decide) (by decide) hne gc hq0 ge hP)
  have TF0 := Lib.hid (fun W g => floor_any q0 W hq0 g)
  rw [wroteV_ok hf0, hqf] at TF0
  rw [hqf] at hf0
  have TS := Lib.hid (fun W g => sub_any q0 f W hq0 hf0 g)
  rw [hy, wroteV_ok hyf] at TS
  have TM := Lib.hid (fun W => must_ok y W)
  have TO := Lib.hid (fun W g => of_any 86400 W (by decide) (by decide) g)
  have TMu := Lib.hid (fun W g => mul_any y ((86400 : Int) : Rat) W hyf (fits_int 86400 (by decide)) g)
  rw [hz, wroteV_ok (fits_int N (by omega))] at TMu
  have TM2 := Lib.hid (fun W => must_ok (N : Rat) W)
  have TF1 := Lib.hid (fun W g => floor_any (N : Rat) W (fits_int N (by omega)) g)
  rw [Rat.floor_intCast, wroteV_ok (fits_int N (by omega))] at TF1
  have TI := Lib.hid (fun W => int_ok N W (by omega))
  obtain ⟨zz, hzz⟩ : ∃ u : Rat, (N : Rat) = u := ⟨_, rfl⟩
  rw [hzz] at TMu TM2 TF1 TI
  obtain ⟨te, hte⟩ : ∃ u : Rat, ((86400 : Int) : Rat) = u := ⟨_, rfl⟩
  rw [hte] at TO TMu
  rw [fracV_is q0] at TN0 TF0 TS
  rw [fracV_is f] at TF0 TS
  rw [fracV_is y] at TS TM TMu
  rw [fracV_is te] at TO TMu
  rw [fracV_is zz] at TMu TM2 TF1 TI
  have HIX := Lib.hid hix
  have HP := Lib.hid hP
  have HE0 := Lib.hid hE
  have NG := Lib.hid hne
  have HBW := Lib.hid (heap_lt ha)
  have HA := Lib.hid ha
  have HC0 := Lib.hid hc0
  have HE := Lib.hid hE
  have HG := Lib.hid (only_refl W (some b))
  clear ha hE hP hne hc0 hzz hte hq0 hf0 hqf hy hyf hz hix
  go_enter Tryz.func162, Tryz.ntmps162
  go_wp2_with fail
  refine (TN0.out _ HA.out HC0.out HE.out).mono ?_
  rintro e W1 ⟨rfl, ha, hg⟩
  replace HA := Lib.hid ha
  replace HC0 := Lib.hid (HC0.out.kept hg NG.out)
  replace HE := Lib.hid (HE.out.kept hg HP.out)
  replace HG := Lib.hid (kept_trans HG.out hg)
  clear ha hg
  have G3 := Lib.hid (HG.out.size)
  have NE3 : Hid (W1.heap.size ≠ b) := Lib.hid (Nat.ne_of_gt (Nat.lt_of_lt_of_le HBW.out G3.out))
  have hb : Below W1.heap.size W1 (W1.alloc (.cells #[.string (numS q0), .string (denS q0)] 23)) := (Below.refl _ _).alloc (Nat.le_refl _) _
  replace HC0 := Lib.hid (NumCells.below HC0.out hb)
  replace HA := Lib.hid (keep_block HA.out hb)
  replace HE := Lib.hid (HE.out.below hb)
  replace HG := Lib.hid (kept_trans HG.out (kept_below hb))
  have H3 := Lib.hid (heap_alloc_new W1 (.cells #[.string (numS q0), .string (denS q0)] 23))
  clear hb
  obtain ⟨⟨x3_0, x3_1⟩, x3_f0, x3_f1⟩ := two_at H3.out
  go_wp2_with fail
  refine (TF0.out _ (Env.tab HE.out)).mono ?_
  clear x3_0 x3_1 x3_f0 x3_f1
  rintro e W2 ⟨rfl, hb⟩
  replace H3 := Lib.hid (keep_block H3.out hb)
  replace HC0 := Lib.hid (NumCells.below HC0.out hb)
  replace HA := Lib.hid (keep_block HA.out hb)
  replace HE := Lib.hid (HE.out.below hb)
  replace HG := Lib.hid (kept_trans HG.out (kept_below hb))
  clear hb
  have L4_3 := Lib.hid (heap_lt H3.out)
  have G4 := Lib.hid (HG.out.size)
  have NE4 : Hid (W2.heap.size ≠ b) := Lib.hid (Nat.ne_of_gt (Nat.lt_of_lt_of_le HBW.out G4.out))
  have hb : Below W2.heap.size W2 (W2.alloc (.cells #[.string (numS f), .string (denS f)] 23)) := (Below.refl _ _).alloc (Nat.le_refl _) _
  replace H3 := Lib.hid (keep_block H3.out hb)
  replace HC0 := Lib.hid (NumCells.below HC0.out hb)
  replace HA := Lib.hid (keep_block HA.out hb)
  replace HE := Lib.hid (HE.out.below hb)
  replace HG := Lib.hid (kept_trans HG.out (kept_below hb))
  have H4 := Lib.hid (heap_alloc_new W2 (.cells #[.string (numS f), .string (denS f)] 23))
  clear hb
  obtain ⟨⟨x3_0, x3_1⟩, x3_f0, x3_f1⟩ := two_at H3.out
  obtain ⟨⟨x4_0, x4_1⟩, x4_f0, x4_f1⟩ := two_at H4.out
  go_wp2_with fail
  refine (TS.out _ (Env.tab HE.out)).mono ?_
  clear x3_0 x3_1 x3_f0 x3_f1
  clear x4_0 x4_1 x4_f0 x4_f1
  rintro e W3 ⟨rfl, hb⟩
  replace H3 := Lib.hid (keep_block H3.out hb)
  replace H4 := Lib.hid (keep_block H4.out hb)
  replace HC0 := Lib.hid (NumCells.below HC0.out hb)
  replace HA := Lib.hid (keep_block HA.out hb)
  replace HE := Lib.hid (HE.out.below hb)
  replace HG := Lib.hid (kept_trans HG.out (kept_below hb))
  clear hb
  go_wp2_with fail
  refine (TM.out _).mono ?_
  rintro e W4 ⟨rfl, hb⟩
  replace H3 := Lib.hid (keep_block H3.out hb)
  replace H4 := Lib.hid (keep_block H4.out hb)
  replace HC0 := Lib.hid (NumCells.below HC0.out hb)
  replace HA := Lib.hid (keep_block HA.out hb)
  replace HE := Lib.hid (HE.out.below hb)
  replace HG := Lib.hid (kept_trans HG.out (kept_below hb))
  clear hb
  obtain ⟨⟨x3_0, x3_1⟩, x3_f0, x3_f1⟩ := two_at H3.out
  obtain ⟨⟨z4_0, z4_1⟩, z4_2, z4_3⟩ := two_at H4.out
  have k4 : ((W4.setCell ⟨W1.heap.size, 0, none⟩ (.string (numS y))).setCell ⟨W1.heap.size, 1, none⟩ (.string (denS y))).heap[W2.heap.size]? = some (.cells #[.string (numS f), .string (denS f)] 23 (0, 0)) := (set2_other W4 (W1.heap.size) (.string (numS y)) (.string (denS y)) (by have := L4_3.out; omega)).trans H4.out
  have knew := set2_at H3.out (.string (numS y)) (.string (denS y))
  have kgr : W.grownBy ((W4.setCell ⟨W1.heap.size, 0, none⟩ (.string (numS y))).setCell ⟨W1.heap.size, 1, none⟩ (.string (denS y))) (some b) := below_only HG.out (put2_below G3.out W4 (.string (numS y)) (.string (denS y)))
  have kenv := HE0.out.kept kgr HP.out
  obtain ⟨WS1, hW⟩ : ∃ Z, ((W4.setCell ⟨W1.heap.size, 0, none⟩ (.string (numS y))).setCell ⟨W1.heap.size, 1, none⟩ (.string (denS y))) = Z := ⟨_, rfl⟩
  rw [hW] at knew kgr kenv k4
  have EWS1 := Lib.hid hW
  replace H3 := Lib.hid knew
  replace HG := Lib.hid kgr
  replace HE := Lib.hid kenv
  replace H4 := Lib.hid k4
  clear hW knew kgr kenv k4
  go_wp2_with fail
  rw [EWS1.out]
  clear x3_0 x3_1 x3_f0 x3_f1
  have := L4_3.out
  have := HG.out.size
  have := G3.out
  have := G4.out
  have hok : okB 11 (ScnKs4 W W1 W2 q0 f y zz te N) = true := by kernel_rfl
  have hna := noAny_of (ks := (ScnKs4 W W1 W2 q0 f y zz te N)) (by kernel_rfl)
  have hla := lasts_of hna
  refine wp_region_facts (row := (some b)) (w := W) 11 (ScnKs4 W W1 W2 q0 f y zz te N) [some 23, some 24, some 25, some 26, some 27, some 28, some 29, some 22, some 30, some 31, none] (by kernel_rfl) (by kernel_rfl) rfl [undef, undef, undef, undef, undef, undef, undef, undef, undef, undef, undef, .pointer (some ⟨W1.heap.size, 0, none⟩), .pointer (some ⟨W2.heap.size, 0, none⟩)] ?h00 (Fs.start_olds hla rfl HG.out ⟨⟨_, rfl, fun _ h => Option.some.inj h, by omega, H3.out⟩, fun _ => ⟨fun _ => far_of (by omega), trivial⟩, ⟨⟨_, rfl, fun _ h => Option.some.inj h, by omega, H4.out⟩, fun _ => trivial, trivial⟩⟩) ?hs ?hd
  case h00 => simp only [putO, layT_some, layT_none, layT_nil, List.setIfInBounds_toArray, List.set_cons_zero, List.set_cons_succ]
  case hs =>
    rintro listed vs Wr hF i hi hun hpre
    obtain ⟨s0, s1, s2, s3, s4, s5, s6, s7, s8, s9, s10, o0, o1, hvs⟩ := exl_of 13 vs (fun l => vs = l) hF.len rfl
    subst hvs
    obtain ⟨_, eG0, hg0, gG0, hO0⟩ : ∃ G, o0 = .pointer (some ⟨G, 0, none⟩) ∧ (∀ k, some (W1.heap.size) = some k → G = k) ∧ W.heap.size ≤ G ∧ Wr.heap[G]? = some (.cells (if listed.getD 10 false = true then #[.string (numS zz), .string (denS zz)] else #[.string (numS y), .string (denS y)]) 23 (0, 0)) := hF.get 11 _ rfl (.inl (by decide))
    have hg0 := hg0 _ rfl
    subst hg0
    subst eG0
    obtain ⟨_, eG1, hg1, gG1, hO1⟩ : ∃ G, o1 = .pointer (some ⟨G, 0, none⟩) ∧ (∀ k, some (W2.heap.size) = some k → G = k) ∧ W.heap.size ≤ G ∧ Wr.heap[G]? = some (.cells (if listed.getD 13 false = true then #[.string (numS f), .string (denS f)] else #[.string (numS f), .string (denS f)]) 23 (0, 0)) := hF.get 12 _ rfl (.inl (by decide))
    have hg1 := hg1 _ rfl
    subst hg1
    subst eG1
    have hge := Nat.zero_le i
    simp only [putO, layT_some, layT_none, layT_nil, List.setIfInBounds_toArray, List.set_cons_zero, List.set_cons_succ]
    rcases Nat.lt_or_ge i 5 with hlt | hgt
    · replace hi := hlt
      clear hlt
      rcases Nat.lt_or_ge i 2 with hlt | hgt
      · replace hi := hlt
        clear hlt
        rcases Nat.lt_or_ge i 1 with hlt | hgt
        · replace hi := hlt
          clear hlt
          have he : i = 0 := Nat.le_antisymm (Nat.le_of_lt_succ hi) hge
          subst he
          rw [if_neg (fun h => bit_off hun (hF.back 10 0 h (by kernel_rfl)))] at hO0
          have hcc := (two_at (hO0)).1
          have cH30 := hcc.1
          have cH31 := hcc.2
          clear hcc
          refine step_of ⟨some 23, _, _, _, _, _⟩ rfl (fun K' hK => ?_)
          go_simp
          refine hK.out _ _ ⟨_, hF.pure hok hla hpre rfl (Below.refl _ _), ?fr⟩
          case fr => simp only [putO, layT_some, layT_none, layT_nil, List.setIfInBounds_toArray, List.set_cons_zero, List.set_cons_succ]
        · replace hge : 1 ≤ i := hgt
          clear hgt
          have he : i = 1 := Nat.le_antisymm (Nat.le_of_lt_succ hi) hge
          subst he
          refine step_of ⟨some 24, _, _, _, _, _⟩ rfl (fun K' hK => ?_)
          go_simp
          go_at_call 49
          (with_reducible refine (TO.out _ (Env.tab (HE0.out.kept hF.low HP.out))).mono ?_)
          rintro e Wq ⟨rfl, hq⟩
          refine hK.out _ _ ⟨_, hF.pure hok hla hpre rfl hq, ?fr⟩
          case fr => simp only [putO, layT_some, layT_none, layT_nil, List.setIfInBounds_toArray, List.set_cons_zero, List.set_cons_succ]
      · replace hge : 2 ≤ i := hgt
        clear hgt
        rcases Nat.lt_or_ge i 3 with hlt | hgt
        · replace hi := hlt
          clear hlt
          have he : i = 2 := Nat.le_antisymm (Nat.le_of_lt_succ hi) hge
          subst he
          have p0 := hpre 0 (by kernel_rfl)
          have e0 : s0 = .agg #[.string (numS y), .string (denS y)] := hF.get 0 _ rfl (.inr p0)
          subst e0
          have p1 := hpre 1 (by kernel_rfl)
          have e1 : s1 = .agg #[.string (numS te), .string (denS te)] := hF.get 1 _ rfl (.inr p1)
          subst e1
          refine step_of ⟨some 25, _, _, _, _, _⟩ rfl (fun K' hK => ?_)
          go_simp
          go_at_call 212
          (with_reducible refine (TMu.out _ (Env.tab (HE0.out.kept hF.low HP.out))).mono ?_)
          rintro e Wq ⟨rfl, hq⟩
          refine hK.out _ _ ⟨_, hF.pure hok hla hpre rfl hq, ?fr⟩
          case fr => simp only [putO, layT_some, layT_none, layT_nil, List.setIfInBounds_toArray, List.set_cons_zero, List.set_cons_succ]
        · replace hge : 3 ≤ i := hgt
          clear hgt
          rcases Nat.lt_or_ge i 4 with hlt | hgt
          · replace hi := hlt
            clear hlt
            have he : i = 3 := Nat.le_antisymm (Nat.le_of_lt_succ hi) hge
            subst he
            have p2 := hpre 2 (by kernel_rfl)
            have e2 : s2 = .tuple #[.agg #[.string (numS zz), .string (denS zz)], .int .i64 0] := hF.get 2 _ rfl (.inr p2)
            subst e2
            refine step_of ⟨some 26, _, _, _, _, _⟩ rfl (fun K' hK => ?_)
            go_simp
            refine hK.out _ _ ⟨_, hF.pure hok hla hpre rfl (Below.refl _ _), ?fr⟩
            case fr => simp only [putO, layT_some, layT_none, layT_nil, List.setIfInBounds_toArray, List.set_cons_zero, List.set_cons_succ]
          · replace hge : 4 ≤ i := hgt
            clear hgt
            have he : i = 4 := Nat.le_antisymm (Nat.le_of_lt_succ hi) hge
            subst he
            have p2 := hpre 2 (by kernel_rfl)
            have e2 : s2 = .tuple #[.agg #[.string (numS zz), .string (denS zz)], .int .i64 0] := hF.get 2 _ rfl (.inr p2)
            subst e2
            refine step_of ⟨some 27, _, _, _, _, _⟩ rfl (fun K' hK => ?_)
            go_simp
            refine hK.out _ _ ⟨_, hF.pure hok hla hpre rfl (Below.refl _ _), ?fr⟩
            case fr => simp only [putO, layT_some, layT_none, layT_nil, List.setIfInBounds_toArray, List.set_cons_zero, List.set_cons_succ]
    · replace hge : 5 ≤ i := hgt
      clear hgt
      rcases Nat.lt_or_ge i 8 with hlt | hgt
      · replace hi := hlt
        clear hlt
        rcases Nat.lt_or_ge i 6 with hlt | hgt
        · replace hi := hlt
          clear hlt
          have he : i = 5 := Nat.le_antisymm (Nat.le_of_lt_succ hi) hge
          subst he
          have p3 := hpre 3 (by kernel_rfl)
          have e3 : s3 = .agg #[.string (numS zz), .string (denS zz)] := hF.get 3 _ rfl (.inr p3)
          subst e3
          have p4 := hpre 4 (by kernel_rfl)
          have e4 : s4 = .int .i64 0 := hF.get 4 _ rfl (.inr p4)
          subst e4
          refine step_of ⟨some 28, _, _, _, _, _⟩ rfl (fun K' hK => ?_)
          go_simp
          go_at_call 209
          (with_reducible refine (TM2.out _).mono ?_)
          rintro e Wq ⟨rfl, hq⟩
          refine hK.out _ _ ⟨_, hF.pure hok hla hpre rfl hq, ?fr⟩
          case fr => simp only [putO, layT_some, layT_none, layT_nil, List.setIfInBounds_toArray, List.set_cons_zero, List.set_cons_succ]
        · replace hge : 6 ≤ i := hgt
          clear hgt
          rcases Nat.lt_or_ge i 7 with hlt | hgt
          · replace hi := hlt
            clear hlt
            have he : i = 6 := Nat.le_antisymm (Nat.le_of_lt_succ hi) hge
            subst he
            have p5 := hpre 5 (by kernel_rfl)
            have e5 : s5 = .agg #[.string (numS zz), .string (denS zz)] := hF.get 5 _ rfl (.inr p5)
            subst e5
            refine step_of ⟨some 29, _, _, _, _, _⟩ rfl (fun K' hK => ?_)
            go_simp
            go_at_call 219
            (with_reducible refine (TF1.out _ (Env.tab (HE0.out.kept hF.low HP.out))).mono ?_)
            rintro e Wq ⟨rfl, hq⟩
            refine hK.out _ _ ⟨_, hF.pure hok hla hpre rfl hq, ?fr⟩
            case fr => simp only [putO, layT_some, layT_none, layT_nil, List.setIfInBounds_toArray, List.set_cons_zero, List.set_cons_succ]
          · replace hge : 7 ≤ i := hgt
            clear hgt
            have he : i = 7 := Nat.le_antisymm (Nat.le_of_lt_succ hi) hge
            subst he
            have p6 := hpre 6 (by kernel_rfl)
            have e6 : s6 = .tuple #[.agg #[.string (numS zz), .string (denS zz)], .int .i64 0] := hF.get 6 _ rfl (.inr p6)
            subst e6
            refine step_of ⟨some 22, _, _, _, _, _⟩ rfl (fun K' hK => ?_)
            go_simp
            refine hK.out _ _ ⟨_, hF.pure hok hla hpre rfl (Below.refl _ _), ?fr⟩
            case fr => simp only [putO, layT_some, layT_none, layT_nil, List.setIfInBounds_toArray, List.set_cons_zero, List.set_cons_succ]
      · replace hge : 8 ≤ i := hgt
        clear hgt
        rcases Nat.lt_or_ge i 9 with hlt | hgt
        · replace hi := hlt
          clear hlt
          have he : i = 8 := Nat.le_antisymm (Nat.le_of_lt_succ hi) hge
          subst he
          have p7 := hpre 7 (by kernel_rfl)
          have e7 : s7 = .tuple #[.agg #[.string (numS zz), .string (denS zz)], .int .i64 0] := hF.get 7 _ rfl (.inr p7)
          subst e7
          refine step_of ⟨some 30, _, _, _, _, _⟩ rfl (fun K' hK => ?_)
          go_simp
          refine hK.out _ _ ⟨_, hF.pure hok hla hpre rfl (Below.refl _ _), ?fr⟩
          case fr => simp only [putO, layT_some, layT_none, layT_nil, List.setIfInBounds_toArray, List.set_cons_zero, List.set_cons_succ]
        · replace hge : 9 ≤ i := hgt
          clear hgt
          rcases Nat.lt_or_ge i 10 with hlt | hgt
          · replace hi := hlt
            clear hlt
            have he : i = 9 := Nat.le_antisymm (Nat.le_of_lt_succ hi) hge
            subst he
            have p7 := hpre 7 (by kernel_rfl)
            have e7 : s7 = .tuple #[.agg #[.string (numS zz), .string (denS zz)], .int .i64 0] := hF.get 7 _ rfl (.inr p7)
            subst e7
            refine step_of ⟨some 31, _, _, _, _, _⟩ rfl (fun K' hK => ?_)
            go_simp
            refine hK.out _ _ ⟨_, hF.pure hok hla hpre rfl (Below.refl _ _), ?fr⟩
            case fr => simp only [putO, layT_some, layT_none, layT_nil, List.setIfInBounds_toArray, List.set_cons_zero, List.set_cons_succ]
          · replace hge : 10 ≤ i := hgt
            clear hgt
            have he : i = 10 := Nat.le_antisymm (Nat.le_of_lt_succ hi) hge
            subst he
            have p8 := hpre 8 (by kernel_rfl)
            have e8 : s8 = .agg #[.string (numS zz), .string (denS zz)] := hF.get 8 _ rfl (.inr p8)
            subst e8
            rw [if_neg (bit_off hun)] at hO0
            have HGB := Lib.hid hO0
            obtain ⟨⟨y0, y1⟩, g0, g1⟩ := two_at HGB.out
            refine step_of ⟨none, _, _, _, _, _⟩ rfl (fun K' hK => ?_)
            go_simp
            refine hK.out _ _ ⟨undef, hF.put hok hna hpre hun rfl undef rfl (.inl (by decide)) rfl (set2_at HGB.out (.string (numS zz)) (.string (denS zz))) (fun k hk => set2_other _ _ (.string (numS zz)) (.string (denS zz)) hk) (put2_below gG0 _ (.string (numS zz)) (.string (denS zz))), ?fr⟩
            case fr => simp only [putO, layT_some, layT_none, layT_nil, List.setIfInBounds_toArray, List.set_cons_zero, List.set_cons_succ]
  case hd =>
    rintro listed vs WA hF hall
    obtain ⟨s0, s1, s2, s3, s4, s5, s6, s7, s8, s9, s10, o0, o1, hvs⟩ := exl_of 13 vs (fun l => vs = l) hF.len rfl
    subst hvs
    obtain ⟨_, eG0, hg0, gG0, hO0⟩ : ∃ G, o0 = .pointer (some ⟨G, 0, none⟩) ∧ (∀ k, some (W1.heap.size) = some k → G = k) ∧ W.heap.size ≤ G ∧ WA.heap[G]? = some (.cells (if listed.getD 10 false = true then #[.string (numS zz), .string (denS zz)] else #[.string (numS y), .string (denS y)]) 23 (0, 0)) := hF.get 11 _ rfl (.inl (by decide))
    have hg0 := hg0 _ rfl
    subst hg0
    subst eG0
    obtain ⟨_, eG1, hg1, gG1, hO1⟩ : ∃ G, o1 = .pointer (some ⟨G, 0, none⟩) ∧ (∀ k, some (W2.heap.size) = some k → G = k) ∧ W.heap.size ≤ G ∧ WA.heap[G]? = some (.cells (if listed.getD 13 false = true then #[.string (numS f), .string (denS f)] else #[.string (numS f), .string (denS f)]) 23 (0, 0)) := hF.get 12 _ rfl (.inl (by decide))
    have hg1 := hg1 _ rfl
    subst hg1
    subst eG1
    rw [if_pos (hall 10 (by decide))] at hO0
    replace H3 := Lib.hid hO0
    clear hO0
    rw [if_neg (hF.unst (by decide))] at hO1
    replace H4 := Lib.hid hO1
    clear hO1
    have HQ := Lib.hid hF.low
    clear hF hall hok hna hla
    simp only [putO, layT_some, layT_none, layT_nil, List.setIfInBounds_toArray, List.set_cons_zero, List.set_cons_succ]
    clear HA HC0
    replace HG := HQ
    clear HQ
    replace HE := Lib.hid (HE0.out.kept HG.out HP.out)
    have hix := HIX.out
    obtain ⟨⟨x4_0, x4_1⟩, x4_f0, x4_f1⟩ := two_at H4.out
    go_wp2_with fail
    refine (wrong_no _).mono ?_
    clear x4_0 x4_1 x4_f0 x4_f1
    rintro e W5 ⟨rfl, rfl⟩
    obtain ⟨⟨x3_0, x3_1⟩, x3_f0, x3_f1⟩ := two_at H3.out
    go_wp2_with fail
    refine (TI.out _).mono ?_
    clear x3_0 x3_1 x3_f0 x3_f1
    rintro e W6 ⟨rfl, hb⟩
    replace H3 := Lib.hid (keep_block H3.out hb)
    replace H4 := Lib.hid (keep_block H4.out hb)
    replace HE := Lib.hid (HE.out.below hb)
    replace HG := Lib.hid (kept_trans HG.out (kept_below hb))
    clear hb
    go_wp2
    go_ret
    exact ⟨rfl, HG.out⟩

end Go.Proofs.YtphfefmlappidaaGreatDoor.Num

/- package fdate: HOUR, MINUTE, SECOND over their argument. Conditions: nothing is too long; the tables lie as they are laid. -/
namespace Go.Proofs.YtphfefmlappidaaGreatDoor.Num
open Go.RowKit Go.Lib

set_option linter.unusedSimpArgs false in
set_option linter.unusedVariables false in
set_option maxHeartbeats 2000000 in
set_option maxRecDepth 100000 in
theorem fd_HOUR (q0 f y : Rat) (N c : Int) (b g C : Nat) (W : World) (hq0 : fits q0 = true) (hf0 : fits ((q0.floor : Int) : Rat) = true) (hqf : ((q0.floor : Int) : Rat) = f) (hy : q0 - f = y) (hyf : fits y = true) (hz : y * ((86400 : Int) : Rat) = (N : Rat)) (hN0 : 0 ≤ N) (hN1 : N ≤ 86400) (hcc : (c == 45) = false) (hix : ∀ W : World, (Instr.index 9 (.string (numS f)) (.int .i64 0)).run Tryz.prog W = .ok (.int .u8 c) W) (ha : ArgsAt W b (some ⟨g, 0, none⟩) 1 C 0) (hne : g ≠ b) (hc0 : NumCells W g (0 + 0 * 9) q0) (hE : Env W) (hP : Past b) :
    Calls Tryz.prog 161 #[.pointer (some ⟨b, 0, none⟩)] W fun e w' => e = .returned (.int .i64 (N / 3600)) ∧ W.grownBy w' (some b) := by
  have TS := Lib.hid (fd_seconds q0 f y N c b g C W hq0 hf0 hqf hy hyf hz hN0 hN1 hcc hix ha hne hc0 hE hP)
  clear hq0 hf0 hqf hy hyf hz hcc hix ha hne hc0 hE hP
  go_enter Tryz.func161, Tryz.ntmps161
  go_wp2_with fail
  refine TS.out.mono ?_
  rintro e W1 ⟨rfl, hg⟩
  go_wp2
  go_ret
  exact ⟨by first | rfl | (congr 2; omega), hg⟩

set_option linter.unusedSimpArgs false in
set_option linter.unusedVariables false in
set_option maxHeartbeats 2000000 in
set_option maxRecDepth 100000 in
theorem fd_MINUTE (q0 f y : Rat) (N c : Int) (b g C : Nat) (W : World) (hq0 : fits q0 = true) (hf0 : fits ((q0.floor : Int) : Rat) = true) (hqf : ((q0.floor : Int) : Rat) = f) (hy : q0 - f = y) (hyf : fits y = true) (hz : y * ((86400 : Int) : Rat) = (N : Rat)) (hN0 : 0 ≤ N) (hN1 : N ≤ 86400) (hcc : (c == 45) = false) (hix : ∀ W : World, (Instr.index 9 (.string (numS f)) (.int .i64 0)).run Tryz.prog W = .ok (.int .u8 c) W) (ha : ArgsAt W b (some ⟨g, 0, none⟩) 1 C 0) (hne : g ≠ b) (hc0 : NumCells W g (0 + 0 * 9) q0) (hE : Env W) (hP : Past b) :
    Calls Tryz.prog 163 #[.pointer (some ⟨b, 0, none⟩)] W fun e w' => e = .returned (.int .i64 (N / 60 % 60)) ∧ W.grownBy w' (some b) := by
  have TS := Lib.hid (fd_seconds q0 f y N c b g C W hq0 hf0 hqf hy hyf hz hN0 hN1 hcc hix ha hne hc0 hE hP)
  clear hq0 hf0 hqf hy hyf hz hcc hix ha hne hc0 hE hP
  go_enter Tryz.func163, Tryz.ntmps163
  go_wp2_with fail
  refine TS.out.mono ?_
  rintro e W1 ⟨rfl, hg⟩
  go_wp2
  go_ret
  exact ⟨by first | rfl | (congr 2; omega), hg⟩

set_option linter.unusedSimpArgs false in
set_option linter.unusedVariables false in
set_option maxHeartbeats 2000000 in
set_option maxRecDepth 100000 in
theorem fd_SECOND (q0 f y : Rat) (N c : Int) (b g C : Nat) (W : World) (hq0 : fits q0 = true) (hf0 : fits ((q0.floor : Int) : Rat) = true) (hqf : ((q0.floor : Int) : Rat) = f) (hy : q0 - f = y) (hyf : fits y = true) (hz : y * ((86400 : Int) : Rat) = (N : Rat)) (hN0 : 0 ≤ N) (hN1 : N ≤ 86400) (hcc : (c == 45) = false) (hix : ∀ W : World, (Instr.index 9 (.string (numS f)) (.int .i64 0)).run Tryz.prog W = .ok (.int .u8 c) W) (ha : ArgsAt W b (some ⟨g, 0, none⟩) 1 C 0) (hne : g ≠ b) (hc0 : NumCells W g (0 + 0 * 9) q0) (hE : Env W) (hP : Past b) :
    Calls Tryz.prog 164 #[.pointer (some ⟨b, 0, none⟩)] W fun e w' => e = .returned (.int .i64 (N % 60)) ∧ W.grownBy w' (some b) := by
  have TS := Lib.hid (fd_seconds q0 f y N c b g C W hq0 hf0 hqf hy hyf hz hN0 hN1 hcc hix ha hne hc0 hE hP)
  clear hq0 hf0 hqf hy hyf hz hcc hix ha hne hc0 hE hP
  go_enter Tryz.func164, Tryz.ntmps164
  go_wp2_with fail
  refine TS.out.mono ?_
  rintro e W1 ⟨rfl, hg⟩
  go_wp2
  go_ret
  exact ⟨by first | rfl | (congr 2; omega), hg⟩

end Go.Proofs.YtphfefmlappidaaGreatDoor.Num

/- the law's date at TIME, DAYS, HOUR, MINUTE, SECOND. Conditions: the tables lie as they are laid. -/
namespace Go.Proofs.YtphfefmlappidaaGreatDoor.Num.Fd
open Go.RowKit Go.Lib Go.MapKept Num

theorem d_TIME (ab ao C : Nat) (w : World) (q0 q1 q2 : Rat) (h m z : Int) (h0 : 0 ≤ h) (h1 : h ≤ 23) (m0 : 0 ≤ m) (m1 : m ≤ 59) (z0 : 0 ≤ z) (z1 : z ≤ 59) (hr : fits ((((3600 * h + 60 * m + z) % 86400 : Int) : Rat) / ((86400 : Int) : Rat)) = true) (hq0 : fits q0 = true) (hN0 : q0.floor = h) (hq1 : fits q1 = true) (hN1 : q1.floor = m) (hq2 : fits q2 = true) (hN2 : q2.floor = z) (hv : ValsAt w ab ao (numVals [q0, q1, q2])) (hE : Env w) :
    Calls Tryz.prog 20 #[.string { data := #[84, 73, 77, 69] }, .slice (some ⟨ab, ao, none⟩) 3 C] w fun e w' => e = .returned (numVal ((((3600 * h + 60 * m + z) % 86400 : Int) : Rat) / ((86400 : Int) : Rat))) ∧ Below w.heap.size w w' :=
  call_n 7 ⟨{ data := #[84, 73, 77, 69] }, 3, 3, { data := #[115] }, false, 166⟩ (by decide) rfl rfl (fr_of 7 (by decide) (by kernel_rfl)) rfl (enters_of Tryz.func166 (by kernel_rfl) rfl) [q0, q1, q2] ab ao C ((((3600 * h + 60 * m + z) % 86400 : Int) : Rat) / ((86400 : Int) : Rat)) w (show 0 < 3 from by decide) (show 3 ≤ 300 from by decide) (show (3 : Int) ≤ 3 from by decide) (show (3 : Int) ≤ 3 from by decide) hv hE (by intro x hx; simp only [List.mem_cons, List.not_mem_nil, or_false] at hx; rcases hx with rfl | rfl | rfl; exact hq0; exact hq1; exact hq2) hr
    (fun W b g cap hE' hP hlt hgl ha hn hne => fd_TIME q0 q1 q2 h m z b g cap W hq0 hN0 hq1 hN1 hq2 hN2 h0 h1 m0 m1 z0 z1 hr ha hne (hn 0 (show 0 < 3 from by decide)) (hn 1 (show 1 < 3 from by decide)) (hn 2 (show 2 < 3 from by decide)) hE' hP)

theorem d_DAYS (ab ao C : Nat) (w : World) (q0 q1 : Rat)  (hf0 : fits ((q0.floor : Int) : Rat) = true) (hf1 : fits ((q1.floor : Int) : Rat) = true) (hr : fits (((q0.floor : Int) : Rat) - ((q1.floor : Int) : Rat)) = true) (hq0 : fits q0 = true) (hq1 : fits q1 = true) (hv : ValsAt w ab ao (numVals [q0, q1])) (hE : Env w) :
    Calls Tryz.prog 20 #[.string { data := #[68, 65, 89, 83] }, .slice (some ⟨ab, ao, none⟩) 2 C] w fun e w' => e = .returned (numVal (((q0.floor : Int) : Rat) - ((q1.floor : Int) : Rat))) ∧ Below w.heap.size w w' :=
  call_n 10 ⟨{ data := #[68, 65, 89, 83] }, 2, 2, { data := #[115] }, false, 170⟩ (by decide) rfl rfl (fr_of 10 (by decide) (by kernel_rfl)) rfl (enters_of Tryz.func170 (by kernel_rfl) rfl) [q0, q1] ab ao C (((q0.floor : Int) : Rat) - ((q1.floor : Int) : Rat)) w (show 0 < 2 from by decide) (show 2 ≤ 300 from by decide) (show (2 : Int) ≤ 2 from by decide) (show (2 : Int) ≤ 2 from by decide) hv hE (by intro x hx; simp only [List.mem_cons, List.not_mem_nil, or_false] at hx; rcases hx with rfl | rfl; exact hq0; exact hq1) hr
    (fun W b g cap hE' hP hlt hgl ha hn hne => fd_DAYS q0 q1 b g cap W hq0 hq1 hf0 hf1 hr ha hne (hn 0 (show 0 < 2 from by decide)) (hn 1 (show 1 < 2 from by decide)) hE' hP)

theorem d_HOUR (ab ao C : Nat) (w : World) (q0 : Rat) (f y : Rat) (N c : Int) (hf0 : fits ((q0.floor : Int) : Rat) = true) (hqf : ((q0.floor : Int) : Rat) = f) (hy : q0 - f = y) (hyf : fits y = true) (hz : y * ((86400 : Int) : Rat) = (N : Rat)) (hN0 : 0 ≤ N) (hN1 : N ≤ 86400) (hcc : (c == 45) = false) (hix : ∀ W : World, (Instr.index 9 (.string (numS f)) (.int .i64 0)).run Tryz.prog W = .ok (.int .u8 c) W) (hq0 : fits q0 = true) (hv : ValsAt w ab ao (numVals [q0])) (hE : Env w) :
    Calls Tryz.prog 20 #[.string { data := #[72, 79, 85, 82] }, .slice (some ⟨ab, ao, none⟩) 1 C] w fun e w' => e = .returned (numVal ((N / 3600 : Int) : Rat)) ∧ Below w.heap.size w w' :=
  call_w 4 ⟨{ data := #[72, 79, 85, 82] }, 1, 1, { data := #[115] }, true, 161⟩ (by decide) rfl rfl (fr_of 4 (by decide) (by kernel_rfl)) rfl (enters_of Tryz.func161 (by kernel_rfl) rfl) [q0] ab ao C (N / 3600) w (show 0 < 1 from by decide) (show 1 ≤ 300 from by decide) (show (1 : Int) ≤ 1 from by decide) (show (1 : Int) ≤ 1 from by decide) hv hE (by intro x hx; simp only [List.mem_cons, List.not_mem_nil, or_false] at hx; subst hx; exact hq0) (by omega)
    (fun W b g cap hE' hP hlt hgl ha hn hne => fd_HOUR q0 f y N c b g cap W hq0 hf0 hqf hy hyf hz hN0 hN1 hcc hix ha hne (hn 0 (show 0 < 1 from by decide)) hE' hP)

theorem d_MINUTE (ab ao C : Nat) (w : World) (q0 : Rat) (f y : Rat) (N c : Int) (hf0 : fits ((q0.floor : Int) : Rat) = true) (hqf : ((q0.floor : Int) : Rat) = f) (hy : q0 - f = y) (hyf : fits y = true) (hz : y * ((86400 : Int) : Rat) = (N : Rat)) (hN0 : 0 ≤ N) (hN1 : N ≤ 86400) (hcc : (c == 45) = false) (hix : ∀ W : World, (Instr.index 9 (.string (numS f)) (.int .i64 0)).run Tryz.prog W = .ok (.int .u8 c) W) (hq0 : fits q0 = true) (hv : ValsAt w ab ao (numVals [q0])) (hE : Env w) :
    Calls Tryz.prog 20 #[.string { data := #[77, 73, 78, 85, 84, 69] }, .slice (some ⟨ab, ao, none⟩) 1 C] w fun e w' => e = .returned (numVal ((N / 60 % 60 : Int) : Rat)) ∧ Below w.heap.size w w' :=
  call_w 5 ⟨{ data := #[77, 73, 78, 85, 84, 69] }, 1, 1, { data := #[115] }, true, 163⟩ (by decide) rfl rfl (fr_of 5 (by decide) (by kernel_rfl)) rfl (enters_of Tryz.func163 (by kernel_rfl) rfl) [q0] ab ao C (N / 60 % 60) w (show 0 < 1 from by decide) (show 1 ≤ 300 from by decide) (show (1 : Int) ≤ 1 from by decide) (show (1 : Int) ≤ 1 from by decide) hv hE (by intro x hx; simp only [List.mem_cons, List.not_mem_nil, or_false] at hx; subst hx; exact hq0) (by omega)
    (fun W b g cap hE' hP hlt hgl ha hn hne => fd_MINUTE q0 f y N c b g cap W hq0 hf0 hqf hy hyf hz hN0 hN1 hcc hix ha hne (hn 0 (show 0 < 1 from by decide)) hE' hP)

theorem d_SECOND (ab ao C : Nat) (w : World) (q0 : Rat) (f y : Rat) (N c : Int) (hf0 : fits ((q0.floor : Int) : Rat) = true) (hqf : ((q0.floor : Int) : Rat) = f) (hy : q0 - f = y) (hyf : fits y = true) (hz : y * ((86400 : Int) : Rat) = (N : Rat)) (hN0 : 0 ≤ N) (hN1 : N ≤ 86400) (hcc : (c == 45) = false) (hix : ∀ W : World, (Instr.index 9 (.string (numS f)) (.int .i64 0)).run Tryz.prog W = .ok (.int .u8 c) W) (hq0 : fits q0 = true) (hv : ValsAt w ab ao (numVals [q0])) (hE : Env w) :
    Calls Tryz.prog 20 #[.string { data := #[83, 69, 67, 79, 78, 68] }, .slice (some ⟨ab, ao, none⟩) 1 C] w fun e w' => e = .returned (numVal ((N % 60 : Int) : Rat)) ∧ Below w.heap.size w w' :=
  call_w 6 ⟨{ data := #[83, 69, 67, 79, 78, 68] }, 1, 1, { data := #[115] }, true, 164⟩ (by decide) rfl rfl (fr_of 6 (by decide) (by kernel_rfl)) rfl (enters_of Tryz.func164 (by kernel_rfl) rfl) [q0] ab ao C (N % 60) w (show 0 < 1 from by decide) (show 1 ≤ 300 from by decide) (show (1 : Int) ≤ 1 from by decide) (show (1 : Int) ≤ 1 from by decide) hv hE (by intro x hx; simp only [List.mem_cons, List.not_mem_nil, or_false] at hx; subst hx; exact hq0) (by omega)
    (fun W b g cap hE' hP hlt hgl ha hn hne => fd_SECOND q0 f y N c b g cap W hq0 hf0 hqf hy hyf hz hN0 hN1 hcc hix ha hne (hn 0 (show 0 < 1 from by decide)) hE' hP)
end Go.Proofs.YtphfefmlappidaaGreatDoor.Num.Fd

/- The law's date at a row of values. No conditions. -/
namespace Go.Proofs.YtphfefmlappidaaGreatDoor.Num.Fd
open Go.RowKit Go.Lib Num

/-- what date gives at a row of values -/
def DateRow (nm : ByteArray) (cs : Array Value) (n : Nat) (v : Value) : Prop := ∀ (W : World) (G : Nat), W.heap[G]? = some (.cells cs 30 (0, 0)) → Env W → Calls Tryz.prog 20 #[.string nm, .slice (some ⟨G, 0, none⟩) n n] W fun e w' => e = .returned v ∧ Below W.heap.size W w'
theorem at_row {nm : ByteArray} {cs : Array Value} {n : Nat} {v : Value} (T : DateRow nm cs n v) (W : World) (g : Env W) :
    Calls Tryz.prog 20 #[.string nm, .slice (some ⟨W.heap.size, 0, none⟩) n n] (W.alloc (.cells cs 30)) fun e w' => e = .returned v ∧ Below W.heap.size W w' := by
  have hb : Below W.heap.size W (W.alloc (.cells cs 30)) := (Below.refl _ _).alloc (Nat.le_refl _) _
  refine (T _ _ (heap_alloc_new W _) (g.below hb)).mono ?_
  rintro e w' ⟨rfl, h⟩
  exact ⟨rfl, hb.trans (h.mono hb.size)⟩
def Fun1 (f : FuncId) (a v : Value) : Prop := ∀ W, Env W → Calls Tryz.prog f #[a] W fun e w' => e = .returned v ∧ Below W.heap.size W w'
def Fun2 (f : FuncId) (a b v : Value) : Prop := ∀ W, Env W → Calls Tryz.prog f #[a, b] W fun e w' => e = .returned v ∧ Below W.heap.size W w'
/-- what date gives at values that lie in a block -/
def RowV (nm : ByteArray) (vs : List Val) (v : Value) : Prop := ∀ (W : World) (G : Nat), ValsAt W G 0 vs → Env W → Calls Tryz.prog 20 #[.string nm, .slice (some ⟨G, 0, none⟩) vs.length vs.length] W fun e w' => e = .returned v ∧ Below W.heap.size W w'
theorem RowV.row {nm : ByteArray} {vs : List Val} {v : Value} (h : RowV nm vs v) : DateRow nm (flat vs).toArray vs.length v := fun W G hb g => h W G (vals_of_block hb (by simp)) g
end Go.Proofs.YtphfefmlappidaaGreatDoor.Num.Fd
