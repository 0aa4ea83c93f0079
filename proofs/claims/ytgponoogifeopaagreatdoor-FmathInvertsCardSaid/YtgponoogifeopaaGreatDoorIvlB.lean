/- Numbers as texts of digits, fractions, values and the functions of fmath: contracts of the program's functions, joined from smaller texts. Conditions stand at each theorem. -/
import Derived.Test.YtgponoogifeopaaGreatDoorIvlA

/- The law FmathInverts: its own walk where the determinant is 0. Conditions: what its calls give; the tables lie as they are laid. -/
namespace Go.Proofs.YtgponoogifeopaaGreatDoor.Num.Mt
open Go.RowKit Go.Lib Num
attribute [local irreducible] wpOp
set_option linter.unusedVariables false in
/-- what the operations of region 11 yield -/
def invertsZKs11 (n NN B4 lg lc : Nat) (d : Rat) : List RK :=
  [.pure (.agg #[.int .i64 5, .string { data := #[] }, .string { data := #[] }, .string { data := #[] }, .bool false, .int .i64 0, .int .i64 (n : Int), .int .i64 (n : Int), .slice (some ⟨lg, 0, none⟩) NN lc]),
   .row #[.int .i64 5, .string { data := #[] }, .string { data := #[] }, .string { data := #[] }, .bool false, .int .i64 0, .int .i64 (n : Int), .int .i64 (n : Int), .slice (some ⟨lg, 0, none⟩) NN lc] 27 1,
   .pure (.agg #[.int .i64 1, .string (numS d), .string (denS d), .string { data := #[] }, .bool false, .int .i64 0, .int .i64 0, .int .i64 0, .slice none 0 0]),
   .pure (.agg #[.int .i64 5, .string { data := #[] }, .string { data := #[] }, .string { data := #[] }, .bool false, .int .i64 0, .int .i64 (n : Int), .int .i64 (n : Int), .slice (some ⟨lg, 0, none⟩) NN lc]),
   .row #[.int .i64 5, .string { data := #[] }, .string { data := #[] }, .string { data := #[] }, .bool false, .int .i64 0, .int .i64 (n : Int), .int .i64 (n : Int), .slice (some ⟨lg, 0, none⟩) NN lc] 27 1,
   .pure (.agg #[.int .i64 4, .string { data := #[] }, .string { data := #[] }, .string { data := #[] }, .bool false, .int .i64 5, .int .i64 0, .int .i64 0, .slice none 0 0]),
   .box none #[.int .i64 0, .string { data := #[] }, .string { data := #[] }, .string { data := #[] }, .bool false, .int .i64 0, .int .i64 0, .int .i64 0, .slice none 0 0] #[.int .i64 0, .string { data := #[] }, .string { data := #[] }, .string { data := #[] }, .bool false, .int .i64 0, .int .i64 0, .int .i64 0, .slice none 0 0] 27 11,
   .box none #[.int .i64 0, .string { data := #[] }, .string { data := #[] }, .string { data := #[] }, .bool false, .int .i64 0, .int .i64 0, .int .i64 0, .slice none 0 0] #[.int .i64 0, .string { data := #[] }, .string { data := #[] }, .string { data := #[] }, .bool false, .int .i64 0, .int .i64 0, .int .i64 0, .slice none 0 0] 27 11,
   .put 0,
   .put 0]
set_option linter.unusedSimpArgs false in
set_option linter.unusedVariables false in
set_option maxHeartbeats 4000000 in
set_option maxRecDepth 100000 in
theorem inverts_zero (A : Option Addr) (L C : Nat) (zs : List Int) (n NN : Nat) (qs : List Rat) (d : Rat) (w : World) (hE : Env w)
    (hi : IntsIn w A L C zs)
    (hn : n = 1 + L % 4)
    (hNN : n * n = NN)
    (hql : qs.length = NN)
    (hqx : ∀ i (h : i < qs.length), qs[i] = ((xInt zs i : Int) : Rat))
    (cDet : ∀ (W : World) (lg lc ab : Nat), ValsAt W lg 0 (numVals qs) → ValsAt W ab 0 [arrVal' (n : Int) (n : Int) lg NN lc] → Env W → Calls Tryz.prog 7 #[.string { data := #[77, 68, 69, 84, 69, 82, 77] }, .slice (some ⟨ab, 0, none⟩) 1 1] W fun e w' => e = .returned (numVal d) ∧ Below W.heap.size W w')
    (hd0 : d = 0)
    (cInv : ∀ (W : World) (lg lc ab : Nat), ValsAt W lg 0 (numVals qs) → ValsAt W ab 0 [arrVal' (n : Int) (n : Int) lg NN lc] → Env W → Calls Tryz.prog 7 #[.string { data := #[77, 73, 78, 86, 69, 82, 83, 69] }, .slice (some ⟨ab, 0, none⟩) 1 1] W fun e w' => e = .returned (faultVal 5) ∧ Below W.heap.size W w') :
    Calls Tryz.prog 3 #[.slice A L C] w fun e w' => e = .returned (.bool true) ∧ Below w.heap.size w w' := by
  have HI := Lib.hid hi
  have HQL := Lib.hid hql
  have HQX := Lib.hid hqx
  have HEW := Lib.hid hE
  have QcDet := Lib.hid cDet
  have QcInv := Lib.hid cInv
  have HD0 := Lib.hid hd0
  have HLZ := Lib.hid hi.len
  have hlm := hi.max
  obtain ⟨r, hr⟩ : ∃ r, L % 4 = r := ⟨_, rfl⟩
  have hr4 : r < 4 := by omega
  rw [hr] at hn
  have HNR := Lib.hid hn
  have h1n : 1 ≤ n := by omega
  have h4n : n ≤ 4 := by omega
  have hem : (L : Int) % 4 = (r : Int) := by omega
  have htm : (L : Int).tmod 4 = (r : Int) := by rw [Int.tmod_eq_emod_of_nonneg (by omega)]; exact hem
  have hw1 : IntKind.i64.wrap (r : Int) = (r : Int) := IntWalk.i64_in _ (by omega)
  have hw2 : IntKind.i64.wrap (1 + (r : Int)) = (n : Int) := by rw [show (1 : Int) + (r : Int) = (n : Int) by omega]; exact IntWalk.i64_in _ (by omega)
  have hN16 : NN ≤ 16 := by rw [← hNN]; exact Nat.mul_le_mul h4n h4n
  have h0N : 0 < NN := by rw [← hNN]; exact Nat.mul_pos h1n h1n
  have hw3 : IntKind.i64.wrap ((n : Int) * (n : Int)) = (NN : Int) := by rw [← Int.natCast_mul, hNN]; exact IntWalk.i64_in _ (by omega)
  have HNN := Lib.hid hNN
  have hb0 : Below w.heap.size w (w.alloc (.cells #[.int .i64 5, .string { data := #[] }, .string { data := #[] }, .string { data := #[] }, .bool false, .int .i64 0, .int .i64 (n : Int), .int .i64 (n : Int), .slice none 0 0] 27)) := (Below.refl _ _).alloc (Nat.le_refl _) _
  have HI0 := Lib.hid (show VbI w n (.slice none 0 0) (.slice none 0 0) [] _ from ⟨heap_alloc_new w (.cells #[.int .i64 5, .string { data := #[] }, .string { data := #[] }, .string { data := #[] }, .bool false, .int .i64 0, .int .i64 (n : Int), .int .i64 (n : Int), .slice none 0 0] 27), hb0, World.ownsRow_nil _ _ _ _⟩)
  obtain ⟨i0, hi0', hz0, hz1, hz2⟩ := info_val
  clear hi hn hNN hql hqx hE hd0 hb0 hr cDet cInv
  go_enter Tryz.func3, Tryz.ntmps3
  go_wp2_with fail
  obtain ⟨B4, hB4⟩ : ∃ b, w.heap.size = b := ⟨_, rfl⟩
  have HB4 := Lib.hid hB4
  clear hB4 hem htm hw1 hw2 hw3
  go_loopg [5, 6, 19] NN (fun gh v5 v6 v19 wx => ∃ (i : Nat) (v : Value), v19 = .int .i64 (i : Int) ∧ i ≤ NN ∧ gh = NN - i ∧ VbI w n v v (qs.take i) wx)
  case atStart => exact ⟨0, _, rfl, Nat.zero_le _, rfl, HI0.out⟩
  case round =>
    clear HI0
    obtain ⟨i, v, rfl, hile, hgi, hI⟩ := hrel
    have HV := Lib.hid hI
    by_cases hlt : i < NN
    · skip
      have hdd : decide ((i : Int) < (NN : Int)) = true := decide_eq_true (by omega)
      have hdd2 : decide (i < NN) = true := decide_eq_true hlt
      have hi0 : (0 : Int) ≤ (i : Int) := by omega
      have hi1 : (i : Int) < (NN : Int) := by omega
      have hwk : IntKind.i64.wrap ((i : Int) + 1) = (i : Int) + 1 := IntWalk.i64_in _ (by omega)
      obtain ⟨ii, hii⟩ : ∃ x, i * i = x := ⟨_, rfl⟩
      have hii9 : ii ≤ 225 := by rw [← hii]; exact Nat.le_trans (Nat.mul_le_mul (show i ≤ 15 by omega) (show i ≤ 15 by omega)) (by decide)
      have hwi : IntKind.i64.wrap ((i : Int) * (i : Int)) = (ii : Int) := by rw [← Int.natCast_mul, hii]; exact IntWalk.i64_in _ (by omega)
      obtain ⟨x, hx⟩ : ∃ x, xInt zs i = x := ⟨_, rfl⟩
      have HX := Lib.hid hx
      have HII := Lib.hid hii
      clear hii hx hI
      go_upto_if 28 with fail
      go_cut [6, 19] (fun v6 v19 wx => v6 = .int .i64 x ∧ v19 = .int .i64 (i : Int) ∧ wx = wr)
      case first =>
        by_cases hl : i < L
        · have hl1 : decide ((i : Int) < (L : Int)) = true := decide_eq_true (by omega)
          have hl2 : decide (i < L) = true := decide_eq_true hl
          have hl3 : (i : Int) < (L : Int) := by omega
          obtain ⟨A', hA, hc⟩ := HI.out.src (by omega)
          have hzl : i < zs.length := by have := HLZ.out; omega
          have hcell := cell_below (hc i hzl) HV.out.low
          obtain ⟨hb1, hb2⟩ := HI.out.rng _ (List.getElem_mem hzl)
          obtain ⟨z, hz⟩ : ∃ z, zs[i] = z := ⟨_, rfl⟩
          have hxz : x = z % 19 - 9 := by
            rw [← HX.out, ← hz]
            unfold xInt
            rw [if_pos hzl]
            simp [hzl]
          rw [hz] at hcell hb1 hb2
          subst hA
          have TM := Lib.hid (fun W => kmod_any z 19 hb1 hb2 (by decide) (by decide) W)
          have hws : IntKind.i64.wrap (z % 19 - 9) = x := by rw [← hxz]; exact IntWalk.i64_in _ (by omega)
          have hws2 : IntKind.i64.wrap (z % 19 + -9) = x := by rw [← hws]; rfl
          clear hc hb1 hb2 hz hxz hzl
          rw [hl2]
          go_wp2_with fail
          refine (TM.out _).mono ?_
          intro e W1 hW1
          obtain ⟨hW2, hW3⟩ := hW1
          rw [hW2, hW3]
          clear hW2 hW3 W1 e
          go_wp2
          go_meet
          case rel => exact ⟨rfl, rfl, rfl⟩
        · have hl1 : decide ((i : Int) < (L : Int)) = false := decide_eq_false (by omega)
          have HXI := Lib.hid (show (ii : Int) = x by
            rw [← HX.out]
            unfold xInt
            rw [if_neg (by have := HLZ.out; omega), ← HII.out, Int.natCast_mul])
          have hl2 : decide (i < L) = false := decide_eq_false hl
          rw [hl2]
          go_wp2
          go_meet
          case rel => exact ⟨by rw [HXI.out], rfl, rfl⟩
      case rest =>
        obtain ⟨rfl, rfl, rfl⟩ := hcut
        have hxb : -9 ≤ x ∧ x ≤ 225 := by
          rw [← HX.out]
          unfold xInt
          split
          · omega
          · have := HII.out
            rw [← Int.natCast_mul, HII.out]
            omega
        have hiq : i < qs.length := by have := HQL.out; omega
        obtain ⟨q, hqq⟩ : ∃ q, ((x : Int) : Rat) = q := ⟨_, rfl⟩
        have HTK := Lib.hid (show qs.take (i + 1) = qs.take i ++ [q] by rw [List.take_succ_eq_append_getElem hiq, HQX.out i hiq, HX.out, hqq])
        have HDL := Lib.hid (show (qs.take i).length = i by rw [List.length_take]; omega)
        have TN := (fun W g => kwhole_any x W (by omega) (by omega) g)
        rw [hqq, numVal_is q] at TN
        replace TN := Lib.hid TN
        have hown := HV.out.own
        rw [HDL.out] at hown
        obtain ⟨av, cv, hu⟩ := owns_form hown
        subst hu
        have hml : i + 1 ≤ maxLen := by unfold maxLen; omega
        clear hown hqq hiq hxb
        go_upto_region 9 with fail
        replace HV := Lib.hid (HV.out.step ((Below.refl wc.heap.size wc).drew))
        obtain ⟨⟨x0, x1, x2, x3, x4, x5, x6, x7, x8⟩, y0, y1, y2, y3, y4, y5, y6, y7, y8⟩ := nine_at HV.out.box
        go_region_law (first
          | (have HT3 := Lib.hid (HT2.out.step ((Below.refl W2.heap.size W2).alloc (Nat.le_refl _) (.cells #[.int .i64 1, .string (numS q), .string (denS q), .string { data := #[] }, .bool false, .int .i64 0, .int .i64 0, .int .i64 0, .slice none 0 0] 27)));
             have HOW := Lib.hid (show (W2.alloc (.cells #[.int .i64 1, .string (numS q), .string (denS q), .string { data := #[] }, .bool false, .int .i64 0, .int .i64 0, .int .i64 0, .slice none 0 0] 27)).ownsRow (w.heap.size + 1) 27 9 (.slice av i cv) i (flat (numVals (qs.take i))) from by have := HT3.out.own; rw [HDL.out] at this; exact this);
             have HNW := Lib.hid (World.news_of_block (cs := #[.int .i64 1, .string (numS q), .string (denS q), .string { data := #[] }, .bool false, .int .i64 0, .int .i64 0, .int .i64 0, .slice none 0 0]) (t := 27) (fr := (0, 0)) (heap_alloc_new W2 (.cells #[.int .i64 1, .string (numS q), .string (denS q), .string { data := #[] }, .bool false, .int .i64 0, .int .i64 0, .int .i64 0, .slice none 0 0] 27)));
             refine step_append_own rfl _ _ 25 rfl (w.heap.size + 1) 27 i0 _ 9 112 Tryz.underlying25 hi0' hz0 hz1 hz2 rfl (by decide) (.slice av i cv) i (flat (numVals (qs.take i))) (by simp [Act.eval]) HOW.out ⟨W2.heap.size, 0, none⟩ 1 1 [.int .i64 1, .string (numS q), .string (denS q), .string { data := #[] }, .bool false, .int .i64 0, .int .i64 0, .int .i64 0, .slice none 0 0] (by simp [Act.eval]) rfl HNW.out (by simp [Value.oneCell']) hml (by omega) HT3.out.size ?_;
             intro v5 w5 hown5 hgrow5;
             obtain ⟨a5, c5, hu5⟩ := owns_form hown5;
             subst hu5;
             have HT5 := Lib.hid (HT3.out.push (by rw [HDL.out]; exact hown5) hgrow5);
             rw [← HTK.out] at HT5;
             clear hown5 hgrow5 HT3 HOW HNW;
             obtain ⟨⟨x0, x1, x2, x3, x4, x5, x6, x7, x8⟩, y0, y1, y2, y3, y4, y5, y6, y7, y8⟩ := nine_at HT5.out.box)
          | (go_simp; go_at_call 6; (with_reducible refine (TN.out _ (HEW.out.below HV.out.low)).mono ?_); rintro e W2 ⟨rfl, hb⟩; have HT2 := Lib.hid (HV.out.step hb); clear hb; obtain ⟨⟨x0, x1, x2, x3, x4, x5, x6, x7, x8⟩, y0, y1, y2, y3, y4, y5, y6, y7, y8⟩ := nine_at HT2.out.box; obtain ⟨⟨_, _, _, _, _, _, _, _, z8⟩, _⟩ := nine_at (HT2.out.step ((Below.refl W2.heap.size W2).alloc (Nat.le_refl _) (.cells #[.int .i64 1, .string (numS q), .string (denS q), .string { data := #[] }, .bool false, .int .i64 0, .int .i64 0, .int .i64 0, .slice none 0 0] 27))).box))
        all_goals
          have HT6 := Lib.hid HT5.out.store
          go_wp2
          go_roundg (NN - (i + 1))
          case measure => omega
          case rel => exact ⟨i + 1, _, by go_num, by omega, by omega, HT6.out⟩
    · have hdd : decide ((i : Int) < (NN : Int)) = false := decide_eq_false (by omega)
      have hdd2 : decide (i < NN) = false := decide_eq_false hlt
      have hall : qs.take i = qs := by rw [show i = NN by omega, ← HQL.out, List.take_length]
      have hI2 := HV.out
      rw [hall] at hI2
      have hown := hI2.own
      rw [HQL.out] at hown
      obtain ⟨lg, lc, e, hlg, _, hva⟩ := vals_of_owns hown (by rw [numVals_len]; exact HQL.out) h0N
      subst e
      have HVA := Lib.hid hva
      have H4 := Lib.hid hI2.box
      have HG := Lib.hid hI2.low
      have HE := Lib.hid (HEW.out.below hI2.low)
      rw [HB4.out] at H4
      clear hlt hall hI hI2 hown hlg hva HV
      go_upto_region 11 with fail
      rw [HB4.out]
      have LT4 := Lib.hid (heap_lt H4.out)
      have LTG := Lib.hid (items_lt HVA.out (by rw [HQL.out]; exact h0N))
      go_wp2_with fail
      have hok : okB 10 (invertsZKs11 n NN B4 lg lc d) = true := by kernel_rfl
      have hna := noAny_of (ks := (invertsZKs11 n NN B4 lg lc d)) (by kernel_rfl)
      have hla := lasts_of hna
      refine wp_region_facts_abs_r (row := none) (w := wr) 10 8 2 10 [8, 9] (invertsZKs11 n NN B4 lg lc d) [some 43, some 44, some 45, some 46, some 47, some 48, some 7, some 8, none, none] [(4, .pointer (some ⟨B4, 0, none⟩))] 78 (by kernel_rfl) (by kernel_rfl) (by kernel_rfl) rfl rfl (by decide) rfl (by kernel_rfl) rfl (Nat.le_of_eq rfl) rfl ?ho [undef, undef, undef, undef, undef, undef, undef, undef, undef, undef] ?h00 (Fs.start rfl rfl) ?hs ?hd
      case ho =>
        intro k x hk
        match k, hk with
        | 0, hk => have hk := Option.some.inj hk; subst hk; rfl
        | _ + 1, hk => exact absurd hk (by simp)
      case h00 => simp only [putO, layL]
      case hs =>
        rintro A listed vs Wr hF hR i hi hun hpre
        obtain ⟨s0, s1, s2, s3, s4, s5, s6, s7, s8, s9, hvs⟩ := exl_of 10 vs (fun l => vs = l) hF.len rfl
        subst hvs
        have hge := Nat.zero_le i
        rcases Nat.lt_or_ge i 4 with hlt | hgt
        · replace hi := hlt
          clear hlt
          rcases Nat.lt_or_ge i 2 with hlt | hgt
          · replace hi := hlt
            clear hlt
            rcases Nat.lt_or_ge i 1 with hlt | hgt
            · replace hi := hlt
              clear hlt
              obtain rfl := eqi hi hge
              have ro4 : A.tmps[4]? = some (.pointer (some ⟨B4, 0, none⟩)) := hR.out 0 _ rfl
              have hcc := (nine_at (keep_block H4.out (below_none hF.low))).1
              have cH40 := hcc.1
              have cH41 := hcc.2.1
              have cH42 := hcc.2.2.1
              have cH43 := hcc.2.2.2.1
              have cH44 := hcc.2.2.2.2.1
              have cH45 := hcc.2.2.2.2.2.1
              have cH46 := hcc.2.2.2.2.2.2.1
              have cH47 := hcc.2.2.2.2.2.2.2.1
              have cH48 := hcc.2.2.2.2.2.2.2.2
              clear hcc
              refine step_of ⟨some 43, _, _, _, _, _⟩ rfl (fun K' hK => ?_)
              go_simp
              exact hK.out _ _ ⟨_, hF.pure hok hla hpre rfl (Below.refl _ _), rfl⟩
            · replace hge : 1 ≤ i := hgt
              clear hgt
              obtain rfl := eqi hi hge
              have p0 := hpre 0 (by kernel_rfl)
              have e0 : s0 = .agg #[.int .i64 5, .string { data := #[] }, .string { data := #[] }, .string { data := #[] }, .bool false, .int .i64 0, .int .i64 (n : Int), .int .i64 (n : Int), .slice (some ⟨lg, 0, none⟩) NN lc] := hF.get 0 _ rfl (.inr p0)
              subst e0
              have r0 : A.tmps[43]? = some (.agg #[.int .i64 5, .string { data := #[] }, .string { data := #[] }, .string { data := #[] }, .bool false, .int .i64 0, .int .i64 (n : Int), .int .i64 (n : Int), .slice (some ⟨lg, 0, none⟩) NN lc]) := hR.own 0 _ _ rfl rfl
              refine step_of ⟨some 44, _, _, _, _, _⟩ rfl (fun K' hK => ?_)
              go_simp
              exact hK.out _ _ ⟨_, hF.row hok hla hpre rfl, rfl⟩
          · replace hge : 2 ≤ i := hgt
            clear hgt
            rcases Nat.lt_or_ge i 3 with hlt | hgt
            · replace hi := hlt
              clear hlt
              obtain rfl := eqi hi hge
              have p1 := hpre 1 (by kernel_rfl)
              obtain ⟨G1, eG1, _, hGB1⟩ : ∃ G, s1 = .slice (some ⟨G, 0, none⟩) 1 1 ∧ _ ≤ G ∧ Wr.heap[G]? = some (.cells #[.int .i64 5, .string { data := #[] }, .string { data := #[] }, .string { data := #[] }, .bool false, .int .i64 0, .int .i64 (n : Int), .int .i64 (n : Int), .slice (some ⟨lg, 0, none⟩) NN lc] 27 (0, 0)) := hF.get 1 _ rfl (.inr p1)
              subst eG1
              have r1 : A.tmps[44]? = some (.slice (some ⟨G1, 0, none⟩) 1 1) := hR.own 1 _ _ rfl rfl
              refine step_of ⟨some 45, _, _, _, _, _⟩ rfl (fun K' hK => ?_)
              go_simp
              go_at_call 7
              (with_reducible refine (QcDet.out _ lg lc G1 (HVA.out.below (below_none hF.low)) (row_one hGB1) (HE.out.below (below_none hF.low))).mono ?_)
              rintro e Wq ⟨rfl, hq⟩
              exact hK.out _ _ ⟨_, hF.pure hok hla hpre rfl hq, rfl⟩
            · replace hge : 3 ≤ i := hgt
              clear hgt
              obtain rfl := eqi hi hge
              have ro4 : A.tmps[4]? = some (.pointer (some ⟨B4, 0, none⟩)) := hR.out 0 _ rfl
              have hcc := (nine_at (keep_block H4.out (below_none hF.low))).1
              have cH40 := hcc.1
              have cH41 := hcc.2.1
              have cH42 := hcc.2.2.1
              have cH43 := hcc.2.2.2.1
              have cH44 := hcc.2.2.2.2.1
              have cH45 := hcc.2.2.2.2.2.1
              have cH46 := hcc.2.2.2.2.2.2.1
              have cH47 := hcc.2.2.2.2.2.2.2.1
              have cH48 := hcc.2.2.2.2.2.2.2.2
              clear hcc
              refine step_of ⟨some 46, _, _, _, _, _⟩ rfl (fun K' hK => ?_)
              go_simp
              exact hK.out _ _ ⟨_, hF.pure hok hla hpre rfl (Below.refl _ _), rfl⟩
        · replace hge : 4 ≤ i := hgt
          clear hgt
          rcases Nat.lt_or_ge i 6 with hlt | hgt
          · replace hi := hlt
            clear hlt
            rcases Nat.lt_or_ge i 5 with hlt | hgt
            · replace hi := hlt
              clear hlt
              obtain rfl := eqi hi hge
              have p3 := hpre 3 (by kernel_rfl)
              have e3 : s3 = .agg #[.int .i64 5, .string { data := #[] }, .string { data := #[] }, .string { data := #[] }, .bool false, .int .i64 0, .int .i64 (n : Int), .int .i64 (n : Int), .slice (some ⟨lg, 0, none⟩) NN lc] := hF.get 3 _ rfl (.inr p3)
              subst e3
              have r3 : A.tmps[46]? = some (.agg #[.int .i64 5, .string { data := #[] }, .string { data := #[] }, .string { data := #[] }, .bool false, .int .i64 0, .int .i64 (n : Int), .int .i64 (n : Int), .slice (some ⟨lg, 0, none⟩) NN lc]) := hR.own 3 _ _ rfl rfl
              refine step_of ⟨some 47, _, _, _, _, _⟩ rfl (fun K' hK => ?_)
              go_simp
              exact hK.out _ _ ⟨_, hF.row hok hla hpre rfl, rfl⟩
            · replace hge : 5 ≤ i := hgt
              clear hgt
              obtain rfl := eqi hi hge
              have p4 := hpre 4 (by kernel_rfl)
              obtain ⟨G4, eG4, _, hGB4⟩ : ∃ G, s4 = .slice (some ⟨G, 0, none⟩) 1 1 ∧ _ ≤ G ∧ Wr.heap[G]? = some (.cells #[.int .i64 5, .string { data := #[] }, .string { data := #[] }, .string { data := #[] }, .bool false, .int .i64 0, .int .i64 (n : Int), .int .i64 (n : Int), .slice (some ⟨lg, 0, none⟩) NN lc] 27 (0, 0)) := hF.get 4 _ rfl (.inr p4)
              subst eG4
              have r4 : A.tmps[47]? = some (.slice (some ⟨G4, 0, none⟩) 1 1) := hR.own 4 _ _ rfl rfl
              refine step_of ⟨some 48, _, _, _, _, _⟩ rfl (fun K' hK => ?_)
              go_simp
              go_at_call 7
              (with_reducible refine (QcInv.out _ lg lc G4 (HVA.out.below (below_none hF.low)) (row_one hGB4) (HE.out.below (below_none hF.low))).mono ?_)
              rintro e Wq ⟨rfl, hq⟩
              exact hK.out _ _ ⟨_, hF.pure hok hla hpre rfl hq, rfl⟩
          · replace hge : 6 ≤ i := hgt
            clear hgt
            rcases Nat.lt_or_ge i 7 with hlt | hgt
            · replace hi := hlt
              clear hlt
              obtain rfl := eqi hi hge
              refine step_of ⟨some 7, _, _, _, _, _⟩ rfl (fun K' hK => ?_)
              go_simp
              exact hK.out _ _ ⟨_, hF.box hok hla hpre hun rfl, rfl⟩
            · replace hge : 7 ≤ i := hgt
              clear hgt
              obtain rfl := eqi hi hge
              refine step_of ⟨some 8, _, _, _, _, _⟩ rfl (fun K' hK => ?_)
              go_simp
              exact hK.out _ _ ⟨_, hF.box hok hla hpre hun rfl, rfl⟩
      case hd =>
        rintro listed vs WA hF hall
        obtain ⟨s0, s1, s2, s3, s4, s5, s6, s7, s8, s9, hvs⟩ := exl_of 10 vs (fun l => vs = l) hF.len rfl
        subst hvs
        have e2 : s2 = .agg #[.int .i64 1, .string (numS d), .string (denS d), .string { data := #[] }, .bool false, .int .i64 0, .int .i64 0, .int .i64 0, .slice none 0 0] := hF.get 2 _ rfl (.inr (hall 2 (by decide)))
        subst e2
        have e5 : s5 = .agg #[.int .i64 4, .string { data := #[] }, .string { data := #[] }, .string { data := #[] }, .bool false, .int .i64 5, .int .i64 0, .int .i64 0, .slice none 0 0] := hF.get 5 _ rfl (.inr (hall 5 (by decide)))
        subst e5
        obtain ⟨b7, e6, _, gq, k6⟩ : ∃ G, s6 = .pointer (some ⟨G, 0, none⟩) ∧ (∀ k, none = some k → G = k) ∧ _ ≤ G ∧ WA.heap[G]? = some (.cells (if listed.getD 11 false = true then #[.int .i64 0, .string { data := #[] }, .string { data := #[] }, .string { data := #[] }, .bool false, .int .i64 0, .int .i64 0, .int .i64 0, .slice none 0 0] else #[.int .i64 0, .string { data := #[] }, .string { data := #[] }, .string { data := #[] }, .bool false, .int .i64 0, .int .i64 0, .int .i64 0, .slice none 0 0]) 27 (0, 0)) := hF.get 6 _ rfl (.inr (hall 6 (by decide)))
        subst e6
        rw [if_neg (hF.unst (by decide))] at k6
        have H7 := Lib.hid k6
        clear k6
        have ge7 := Lib.hid gq
        clear gq
        obtain ⟨b8, e7, _, gq, k7⟩ : ∃ G, s7 = .pointer (some ⟨G, 0, none⟩) ∧ (∀ k, none = some k → G = k) ∧ _ ≤ G ∧ WA.heap[G]? = some (.cells (if listed.getD 11 false = true then #[.int .i64 0, .string { data := #[] }, .string { data := #[] }, .string { data := #[] }, .bool false, .int .i64 0, .int .i64 0, .int .i64 0, .slice none 0 0] else #[.int .i64 0, .string { data := #[] }, .string { data := #[] }, .string { data := #[] }, .bool false, .int .i64 0, .int .i64 0, .int .i64 0, .slice none 0 0]) 27 (0, 0)) := hF.get 7 _ rfl (.inr (hall 7 (by decide)))
        subst e7
        rw [if_neg (hF.unst (by decide))] at k7
        have H8 := Lib.hid k7
        clear k7
        have ge8 := Lib.hid gq
        clear gq
        have nq := hF.ne 6 7 _ _ (by decide) rfl rfl rfl rfl (.inr (hall 6 (by decide))) (.inr (hall 7 (by decide)))
        have N8_7 : Hid (b7 ≠ b8) := Lib.hid (fun h => nq (congrArg some h))
        clear nq
        have hq := below_none hF.low
        replace H4 := Lib.hid (keep_block H4.out hq)
        replace HVA := Lib.hid (HVA.out.below hq)
        replace HE := Lib.hid (HE.out.below hq)
        replace HG := Lib.hid (HG.out.trans (hq.mono HG.out.size))
        clear hq
        clear hF hall hok hla hna
        simp only [putO, layL]
        have qH7 := set9_at H7.out (.int .i64 1) (.string (numS d)) (.string (denS d)) (.string { data := #[] }) (.bool false) (.int .i64 0) (.int .i64 0) (.int .i64 0) (.slice none 0 0)
        have qH8 := (set9_other WA b7 (.int .i64 1) (.string (numS d)) (.string (denS d)) (.string { data := #[] }) (.bool false) (.int .i64 0) (.int .i64 0) (.int .i64 0) (.slice none 0 0) (show b8 ≠ b7 from fun h => N8_7.out h.symm)).trans H8.out
        have qH4 := (set9_other WA b7 (.int .i64 1) (.string (numS d)) (.string (denS d)) (.string { data := #[] }) (.bool false) (.int .i64 0) (.int .i64 0) (.int .i64 0) (.slice none 0 0) (show B4 ≠ b7 from by have := LT4.out; have := ge7.out; omega)).trans H4.out
        have qHVA := vals_other HVA.out (set9_other WA b7 (.int .i64 1) (.string (numS d)) (.string (denS d)) (.string { data := #[] }) (.bool false) (.int .i64 0) (.int .i64 0) (.int .i64 0) (.slice none 0 0) (show lg ≠ b7 from by have := LTG.out; have := ge7.out; omega))
        have qHG := HG.out.trans (put9_below (show w.heap.size ≤ b7 by have := ge7.out; have := LT4.out; have := HB4.out; omega) WA (.int .i64 1) (.string (numS d)) (.string (denS d)) (.string { data := #[] }) (.bool false) (.int .i64 0) (.int .i64 0) (.int .i64 0) (.slice none 0 0))
        obtain ⟨⟨a0, a1, a2, a3, a4, a5, a6, a7, a8⟩, f0, f1, f2, f3, f4, f5, f6, f7, f8⟩ := nine_at H7.out
        refine rest_one 8 ⟨none, _, _, _, _, _⟩ rfl (by kernel_rfl) rfl (fun K' hK => ?_)
        go_simp
        refine hK.out _ _ ?_
        clear a0 a1 a2 a3 a4 a5 a6 a7 a8 f0 f1 f2 f3 f4 f5 f6 f7 f8
        obtain ⟨WB, hW⟩ : ∃ Z, (((((((((WA.setCell ⟨b7, 0, none⟩ (.int .i64 1)).setCell ⟨b7, 1, none⟩ (.string (numS d))).setCell ⟨b7, 2, none⟩ (.string (denS d))).setCell ⟨b7, 3, none⟩ (.string { data := #[] })).setCell ⟨b7, 4, none⟩ (.bool false)).setCell ⟨b7, 5, none⟩ (.int .i64 0)).setCell ⟨b7, 6, none⟩ (.int .i64 0)).setCell ⟨b7, 7, none⟩ (.int .i64 0)).setCell ⟨b7, 8, none⟩ (.slice none 0 0)) = Z := ⟨_, rfl⟩
        rw [hW] at qH7 qH8 qH4 qHVA qHG ⊢
        clear hW
        replace H7 := Lib.hid qH7
        replace H8 := Lib.hid qH8
        replace H4 := Lib.hid qH4
        replace HVA := Lib.hid qHVA
        replace HG := Lib.hid qHG
        replace HE := Lib.hid (HEW.out.below HG.out)
        clear qH7 qH8 qH4 qHVA qHG
        have qH8 := set9_at H8.out (.int .i64 4) (.string { data := #[] }) (.string { data := #[] }) (.string { data := #[] }) (.bool false) (.int .i64 5) (.int .i64 0) (.int .i64 0) (.slice none 0 0)
        have qH7 := (set9_other WB b8 (.int .i64 4) (.string { data := #[] }) (.string { data := #[] }) (.string { data := #[] }) (.bool false) (.int .i64 5) (.int .i64 0) (.int .i64 0) (.slice none 0 0) (show b7 ≠ b8 from N8_7.out)).trans H7.out
        have qH4 := (set9_other WB b8 (.int .i64 4) (.string { data := #[] }) (.string { data := #[] }) (.string { data := #[] }) (.bool false) (.int .i64 5) (.int .i64 0) (.int .i64 0) (.slice none 0 0) (show B4 ≠ b8 from by have := LT4.out; have := ge8.out; omega)).trans H4.out
        have qHVA := vals_other HVA.out (set9_other WB b8 (.int .i64 4) (.string { data := #[] }) (.string { data := #[] }) (.string { data := #[] }) (.bool false) (.int .i64 5) (.int .i64 0) (.int .i64 0) (.slice none 0 0) (show lg ≠ b8 from by have := LTG.out; have := ge8.out; omega))
        have qHG := HG.out.trans (put9_below (show w.heap.size ≤ b8 by have := ge8.out; have := LT4.out; have := HB4.out; omega) WB (.int .i64 4) (.string { data := #[] }) (.string { data := #[] }) (.string { data := #[] }) (.bool false) (.int .i64 5) (.int .i64 0) (.int .i64 0) (.slice none 0 0))
        obtain ⟨⟨a0, a1, a2, a3, a4, a5, a6, a7, a8⟩, f0, f1, f2, f3, f4, f5, f6, f7, f8⟩ := nine_at H8.out
        refine rest_one 9 ⟨none, _, _, _, _, _⟩ rfl (by kernel_rfl) rfl (fun K' hK => ?_)
        go_simp
        refine hK.out _ _ ?_
        clear a0 a1 a2 a3 a4 a5 a6 a7 a8 f0 f1 f2 f3 f4 f5 f6 f7 f8
        obtain ⟨WC, hW⟩ : ∃ Z, (((((((((WB.setCell ⟨b8, 0, none⟩ (.int .i64 4)).setCell ⟨b8, 1, none⟩ (.string { data := #[] })).setCell ⟨b8, 2, none⟩ (.string { data := #[] })).setCell ⟨b8, 3, none⟩ (.string { data := #[] })).setCell ⟨b8, 4, none⟩ (.bool false)).setCell ⟨b8, 5, none⟩ (.int .i64 5)).setCell ⟨b8, 6, none⟩ (.int .i64 0)).setCell ⟨b8, 7, none⟩ (.int .i64 0)).setCell ⟨b8, 8, none⟩ (.slice none 0 0)) = Z := ⟨_, rfl⟩
        rw [hW] at qH8 qH7 qH4 qHVA qHG ⊢
        clear hW
        replace H8 := Lib.hid qH8
        replace H7 := Lib.hid qH7
        replace H4 := Lib.hid qH4
        replace HVA := Lib.hid qHVA
        replace HG := Lib.hid qHG
        replace HE := Lib.hid (HEW.out.below HG.out)
        clear qH8 qH7 qH4 qHVA qHG
        refine rest_end ?_
        obtain ⟨⟨a0, a1, a2, a3, a4, a5, a6, a7, a8⟩, _⟩ := nine_at H7.out
        obtain ⟨⟨e0, e1, e2, e3, e4, e5, e6, e7, e8⟩, _⟩ := nine_at H8.out
        have hz := HD0.out
        have hns : numS d = { data := #[48] } := by rw [hz]; decide +kernel
        have hnt : ({ data := #[48] } : ByteArray).toList = [48] := by rw [Lib.toList_data]
        clear hz
        rw [hns] at a1
        go_wp2
        refine bodyPost_ret (v := .bool true) (by simp [results, Tryz.results3, go_sem]) rfl ⟨rfl, HG.out⟩
end Go.Proofs.YtgponoogifeopaaGreatDoor.Num.Mt

/- The law FmathInverts at any ints. Conditions: the tables lie as they are laid. -/
namespace Go.Proofs.YtgponoogifeopaaGreatDoor.Num.Mt
open Go.RowKit Go.Lib Num

/-- elimination, column by column: where it stops the determinant is 0 -/
theorem elim_plain {n : Nat} (M : Mx) (h1 : 1 ≤ n) (h4 : n ≤ 4) : ∀ i, i ≤ n → (∃ m out s d, ElSt true n i M m out s d) ∨ detM n M = 0
  | 0, _ => .inl ⟨M, unitM, 1, 1, ElSt.start true M h1 h4⟩
  | i + 1, hi => by
    rcases elim_plain M h1 h4 i (by omega) with ⟨m, out, s, d, h⟩ | h
    · by_cases hz : ∀ r, i ≤ r → r < n → m r i = 0
      · exact .inr (h.none h4 (by omega) hz)
      · have : ∃ k, i ≤ k ∧ k < n ∧ m k i ≠ 0 := by
          apply Classical.byContradiction
          intro hn
          exact hz fun r h0 h1 => Classical.byContradiction fun h2 => hn ⟨r, h0, h1, h2⟩
        obtain ⟨k, hik, hk, hkz⟩ := this
        by_cases e : k = i
        · subst e
          exact .inl ⟨_, _, _, _, h.next h4 (by omega) hkz⟩
        · have h2 := h.swap h4 (show i < k by omega) hk
          refine .inl ⟨_, _, _, _, h2.next h4 (by omega) ?_⟩
          rw [show swapM m i k i = m k from if_pos rfl]
          exact hkz
    · exact .inr h
theorem det_congr {n : Nat} {m m' : Mx} (h1 : 1 ≤ n) (h4 : n ≤ 4) (h : ∀ r c, r < n → c < n → m r c = m' r c) : detM n m = detM n m' := by
  obtain rfl | rfl | rfl | rfl : n = 1 ∨ n = 2 ∨ n = 3 ∨ n = 4 := by omega
  · exact h 0 0 (by decide) (by decide)
  · simp (disch := decide) only [det2, d2, h]
  · simp (disch := decide) only [det3, d3, d2, h]
  · simp (disch := decide) only [det4, d3, d2, h]
theorem mul_congr {n : Nat} {a a' b b' : Mx} {r c : Nat} (h1 : ∀ k, k < n → a r k = a' r k) (h2 : ∀ k, k < n → b k c = b' k c) : mulM n a b r c = mulM n a' b' r c := by
  unfold mulM
  exact sumN_congr fun k hk => by rw [h1 k hk, h2 k hk]
/-- the cofactors over the determinant are the inverse -/
theorem inv_plain {n : Nat} {M : Mx} (h1 : 1 ≤ n) (h4 : n ≤ 4) (hd : detM n M ≠ 0) : (∀ r c, r < n → c < n → mulM n M (invM n M) r c = unitM r c) ∧ detM n M * detM n (invM n M) = 1 := by
  rcases elim_plain M h1 h4 n (Nat.le_refl _) with ⟨m, out, s, d, h⟩ | h
  · obtain ⟨h2, h3⟩ := h.inverse h4
    have e : ∀ r c, r < n → c < n → out r c / m r r = invM n M r c := fun r c hr hc => inv_is (out := fun r c => out r c / m r r) h4 hd h2 hr hc
    refine ⟨fun r c hr hc => ?_, ?_⟩
    · rw [← h2 r c hr hc]
      exact mul_congr (fun k _ => rfl) (fun k hk => (e k c hk hc).symm)
    · rw [← h3]
      congr 1
      exact det_congr h1 h4 fun r c hr hc => (e r c hr hc).symm
  · exact absurd h hd
/-- the bounds of a sum of products -/
def sumB (A B : Nat) : Nat → Nat × Nat
  | 0 => (0, 1)
  | k + 1 => ((sumB A B k).1 * B + A * (sumB A B k).2, (sumB A B k).2 * B)
theorem sum_sm {f : Nat → Rat} {A B : Nat} : ∀ k, (∀ t, t < k → Sm (f t) A B) → Sm (sumN f k) (sumB A B k).1 (sumB A B k).2
  | 0, _ => (show Sm (0 : Rat) 0 1 from Sm.int 0 (by decide))
  | k + 1, h => (sum_sm k fun t ht => h t (by omega)).add (h k (by omega))
theorem sumB_lt : ∀ k, k < 5 → (sumB (225 * 68343750) 61509375000 k).1 < 10 ^ 300 ∧ (sumB (225 * 68343750) 61509375000 k).2 < 10 ^ 300 := by decide +kernel
/-- the law's numbers, as fractions -/
def xRats (zs : List Int) (NN : Nat) : List Rat := (List.range NN).map fun i => ((xInt zs i : Int) : Rat)
theorem x_sm (zs : List Int) {NN : Nat} (h : NN ≤ 16) (n r c : Nat) : Sm (matL (xRats zs NN) n r c) 225 1 := by
  unfold matL xRats
  by_cases e : r * n + c < NN
  · rw [List.getD_eq_getElem?_getD, List.getElem?_eq_getElem (by simpa using e), Option.getD_some]
    simp only [List.getElem_map, List.getElem_range]
    refine Sm.int _ ?_
    unfold xInt
    split
    · omega
    · have : (r * n + c) * (r * n + c) ≤ 15 * 15 := Nat.mul_le_mul (by omega) (by omega)
      rw [← Int.natCast_mul, Int.natAbs_natCast]
      omega
  · rw [List.getD_eq_getElem?_getD, List.getElem?_eq_none (by simpa using e)]
    exact Sm.int 0 (by decide)
theorem bd_of {n : Nat} {D : Rat} {A : Nat} {m : Mx} (h : ∀ r c, r < n → c < n → Sm (D * m r c) A 1) : BdM n D A 1 m := h
theorem inverts_any (A : Option Addr) (L C : Nat) (zs : List Int) (w : World) (hi : IntsIn w A L C zs) (hE : Env w) :
    Calls Tryz.prog 3 #[.slice A L C] w fun e w' => e = .returned (.bool true) ∧ Below w.heap.size w w' := by
  obtain ⟨n, hn⟩ : ∃ n, 1 + L % 4 = n := ⟨_, rfl⟩
  have h1 : 1 ≤ n := by omega
  have h4 : n ≤ 4 := by omega
  obtain ⟨NN, hNN⟩ : ∃ x, n * n = x := ⟨_, rfl⟩
  have hN : NN ≤ 16 := by rw [← hNN]; exact Nat.mul_le_mul h4 h4
  obtain ⟨qs, hqs⟩ : ∃ x, xRats zs NN = x := ⟨_, rfl⟩
  have hql : qs.length = NN := by rw [← hqs]; simp [xRats]
  have hqx : ∀ i (h : i < qs.length), qs[i] = ((xInt zs i : Int) : Rat) := by
    subst hqs
    intro i h
    simp [xRats]
  have hm : ∀ r c, Sm (matL qs n r c) 225 1 := fun r c => by rw [← hqs]; exact x_sm zs hN n r c
  have hfq : ∀ q ∈ qs, fits q = true := by
    intro q hq
    obtain ⟨i, hi, rfl⟩ := List.getElem_of_mem hq
    have e := hm 0 i
    rw [show matL qs n 0 i = qs[i] by unfold matL; rw [Nat.zero_mul, Nat.zero_add, List.getD_eq_getElem?_getD, List.getElem?_eq_getElem hi, Option.getD_some]] at e
    exact e.fits (by decide +kernel) (by decide +kernel)
  have hB1 : BdM n 1 225 1 (matL qs n) := bd_of fun r c _ _ => by rw [Rat.one_mul]; exact hm r c
  have hone : Sm (1 : Rat) 1 1 := Sm.int 1 (by decide)
  have hds := det_sm (n := n) (m := matL qs n) h4 h1 (A := 225) (by decide) (fun r c _ _ => hm r c)
  have hfd : fits (detM n (matL qs n)) = true := hds.fits (by decide +kernel) (by decide +kernel)
  by_cases hd : detM n (matL qs n) = 0
  · exact inverts_zero A L C zs n NN qs (detM n (matL qs n)) w hE hi hn.symm hNN hql hqx
      (fun W lg lc ab hv ha hE' => m_MDETERM qs n NN lg lc ab 0 1 1 225 1 W h1 h4 hNN hql ha hv hE' hfq (by decide) hone hB1 hfd bnd_det)
      hd
      (fun W lg lc ab hv ha hE' => m_MINVERSE0 qs n NN lg lc ab 0 1 1 225 1 W h1 h4 hNN hql ha hv hE' hfq (by decide) hone hB1 bnd_inv hd)
  · obtain ⟨hmi, hdi⟩ := inv_plain h1 h4 hd
    obtain ⟨its, hits⟩ : ∃ x, itemsL (invM n (matL qs n)) n NN = x := ⟨_, rfl⟩
    have hil : its.length = NN := by rw [← hits, itemsL_len]
    have has := fun r c => adj_sm (n := n) (m := matL qs n) h4 h1 (A := 225) (by decide) (fun r c _ _ => hm r c) r c
    have hvs : ∀ r c, Sm (invM n (matL qs n) r c) 68343750 61509375000 := fun r c => ((has r c).div hds hd).mono (by decide) (by decide)
    have hfi : ∀ q ∈ its, fits q = true := by
      intro q hq
      rw [← hits] at hq
      obtain ⟨t, _, rfl⟩ := List.mem_map.1 hq
      exact (hvs _ _).fits (by decide +kernel) (by decide +kernel)
    have hml : ∀ r c, r < n → c < n → matL its n r c = invM n (matL qs n) r c := fun r c hr hc => by
      rw [← hits, ← hNN]; exact matL_items _ n r c hr hc
    have hprod : ∀ r c, r < n → c < n → mulM n (matL qs n) (matL its n) r c = unitM r c := fun r c hr hc => by
      rw [← hmi r c hr hc]; exact mul_congr (fun _ _ => rfl) (fun k hk => hml k c hk hc)
    have hus : itemsL (mulM n (matL qs n) (matL its n)) n NN = itemsL unitM n NN := items_congr hNN (by omega) hprod
    have hdd : detM n (matL its n) = detM n (invM n (matL qs n)) := det_congr h1 h4 hml
    have hd2s : Sm (detM n (matL its n)) 1 61509375000 := by
      have e : detM n (matL its n) = (detM n (matL qs n))⁻¹ := by
        rw [hdd]
        have h2 := Rat.mul_inv_cancel _ hd
        grind
      rw [e]
      exact (hds.inv hd).mono (by decide) (by decide)
    have hfd2 : fits (detM n (matL its n)) = true := hd2s.fits (by decide +kernel) (by decide +kernel)
    have hB2 : BdM n (detM n (matL qs n)) 68343750 1 (matL its n) := bd_of fun r c hr hc => by
      rw [hml r c hr hc]
      have e : detM n (matL qs n) * invM n (matL qs n) r c = adjM n (matL qs n) r c := by
        unfold invM
        rw [Rat.div_def]
        have h2 := Rat.mul_inv_cancel _ hd
        grind
      rw [e]
      exact (has r c).mono (by decide) (by decide)
    have hterm : ∀ r j c, Sm (matL qs n r j * invM n (matL qs n) j c) (225 * 68343750) 61509375000 := fun r j c => ((hm r j).mul (hvs j c)).mono (by decide) (by decide)
    have hfsum : ∀ r c j, r < n → c < n → j ≤ n → fits (sumN (fun t => matL qs n r t * matL its n t c) j) = true := fun r c j _ hc hj => by
      have := sum_sm (f := fun t => matL qs n r t * matL its n t c) j (fun t ht => by
        show Sm (matL qs n r t * matL its n t c) _ _
        rw [hml t c (by omega) hc]
        exact hterm r t c)
      obtain ⟨k1, k2⟩ := sumB_lt j (by omega)
      exact this.fits k1 k2
    exact inverts_walk A L C zs n NN qs its (itemsL unitM n NN) (detM n (matL qs n)) (detM n (matL its n)) w hE hi hn.symm hNN hql hqx
      (fun W lg lc ab hv ha hE' => m_MDETERM qs n NN lg lc ab 0 1 1 225 1 W h1 h4 hNN hql ha hv hE' hfq (by decide) hone hB1 hfd bnd_det)
      hd
      (fun W lg lc ab hv ha hE' => by
        have h := m_MINVERSE qs n NN lg lc ab 0 1 1 225 1 W h1 h4 hNN hql ha hv hE' hfq (by decide) hone hB1 hfd bnd_inv hd (by rw [hits]; exact hfi)
        rw [hits] at h
        exact h)
      (fun W lg lc lg2 c2 ab hv hv2 ha hE' => by
        have h := m_MMULT qs its n NN lg lc lg2 c2 ab 0 2 W h1 (by omega) hNN hql hil ha hv hv2 hE' hfq hfi
          (fun r c _ _ => (hm r c).fits (by decide +kernel) (by decide +kernel)) (fun r c hr hc => by rw [hml r c hr hc]; exact (hvs r c).fits (by decide +kernel) (by decide +kernel))
          (fun r j c _ hj hc => by rw [hml j c hj hc]; exact (hterm r j c).fits (by decide +kernel) (by decide +kernel)) hfsum
          (by
            rw [hus]
            intro q hq
            obtain ⟨t, _, rfl⟩ := List.mem_map.1 hq
            by_cases e : t / n = t % n
            · rw [show unitM (t / n) (t % n) = ((1 : Int) : Rat) from if_pos e]; exact fits_int 1 (by decide)
            · rw [show unitM (t / n) (t % n) = ((0 : Int) : Rat) from if_neg e]; exact fits_int 0 (by decide))
        rw [hus] at h
        exact h)
      (fun W ab hv hE' => m_MUNIT n NN ab 0 1 W h1 (by omega) hNN hv hE')
      (itemsL_len _ _ _) hil
      (fun W lg lc ab hv ha hE' => m_MDETERM its n NN lg lc ab 0 1 (detM n (matL qs n)) 68343750 61509375000 W h1 h4 hNN hil ha hv hE' hfi hd (hds.mono (by decide) (by decide)) hB2 hfd2 bnd_back)
      (fun W ab hv hE' => by
        have e2 : prodL [detM n (matL qs n), detM n (matL its n)] = ((1 : Int) : Rat) := by
          show 1 * detM n (matL qs n) * detM n (matL its n) = _
          rw [Rat.one_mul, hdd, hdi]; rfl
        have e1 : prodL [detM n (matL qs n)] = detM n (matL qs n) := by
          show 1 * detM n (matL qs n) = _
          exact Rat.one_mul _
        have h := m_PRODUCT [detM n (matL qs n), detM n (matL its n)] ab 0 2 W (by simp) (by simp)
          (by intro q hq; simp only [List.mem_cons, List.not_mem_nil, or_false] at hq; rcases hq with rfl | rfl; exact hfd; exact hfd2)
          (by
            intro k hk
            match k, hk with
            | 0, _ => exact fits_int 1 (by decide)
            | 1, _ => show fits (prodL [_]) = true; rw [e1]; exact hfd
            | 2, _ => show fits (prodL [_, _]) = true; rw [e2]; exact fits_int 1 (by decide)) hv hE'
        rw [e2] at h
        exact h)
end Go.Proofs.YtgponoogifeopaaGreatDoor.Num.Mt
