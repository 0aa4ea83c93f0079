/- Numbers as texts of digits, fractions, values and the functions of fmath: contracts of the program's functions, joined from smaller texts. Conditions stand at each theorem. -/
import Derived.Test.YtkghpiaoggljjaaGreatDoorSocA
import Derived.Test.YtkghpiaoggljjaaGreatDoorNumG
set_option linter.unusedVariables false
set_option linter.unusedSimpArgs false

/- package flook: the comparisons that SORT and SORTBY make. Conditions: the numbers fit; the tables lie as they are laid. -/
namespace Go.Proofs.YtkghpiaoggljjaaGreatDoor.Num.Mt
open Go.RowKit Go.Lib Num
attribute [local irreducible] wpOp
/-- the comparison of rows i and j by column c of s, in way k -/
def cfS (qs : List Rat) (s c : Nat) (k : Int) (i j : Nat) : Int := cmpR (qs.getD (i * s + c) 0) (qs.getD (j * s + c) 0) * k
theorem place_lt {i r s c L : Nat} (hi : i < r) (hc : c < s) (hL : r * s = L) : i * s + c < L := by
 have : (i + 1) * s ≤ r * s := Nat.mul_le_mul hi (Nat.le_refl _)
 rw [Nat.add_mul, Nat.one_mul] at this
 omega
theorem uni_at {W : World} {B : Nat} {x : Value} {t : Nat} (h : W.heap[B]? = some (.cells #[x] t (0, 0))) : W.cell? ⟨B, 0, none⟩ = some x ∧ W.frozen? ⟨B, 0, none⟩ = false :=
 ⟨Lib.cell_of_heap h 0, Lib.frozen_of_heap h 0⟩
set_option linter.unusedVariables false in
/-- what the operations of region 1 yield -/
def S1Ks1 (i j r s gi L Ci BG BN BK nn a u m b v l : Nat) (p q : Rat) (k : Int) : List RK :=
 [.pure (.pointer (some ⟨BG, 2, none⟩)),
  .pure (.slice (some ⟨gi, 0, none⟩) L Ci),
  .pure (.int .i64 (i : Int)),
  .pure (.pointer (some ⟨BG, 1, none⟩)),
  .pure (.int .i64 (s : Int)),
  .pure (.int .i64 (a : Int)),
  .pure (.int .i64 (nn : Int)),
  .pure (.int .i64 (u : Int)),
  .pure (.int .i64 (m : Int)),
  .pure (.pointer (some ⟨gi, m * 9, none⟩)),
  .pure (.agg #[.int .i64 1, .string (numS p), .string (denS p), .string { data := #[] }, .bool false, .int .i64 0, .int .i64 0, .int .i64 0, .slice none 0 0]),
  .pure (.pointer (some ⟨BG, 2, none⟩)),
  .pure (.slice (some ⟨gi, 0, none⟩) L Ci),
  .pure (.int .i64 (j : Int)),
  .pure (.pointer (some ⟨BG, 1, none⟩)),
  .pure (.int .i64 (s : Int)),
  .pure (.int .i64 (b : Int)),
  .pure (.int .i64 (nn : Int)),
  .pure (.int .i64 (v : Int)),
  .pure (.int .i64 (l : Int)),
  .pure (.pointer (some ⟨gi, l * 9, none⟩)),
  .pure (.agg #[.int .i64 1, .string (numS q), .string (denS q), .string { data := #[] }, .bool false, .int .i64 0, .int .i64 0, .int .i64 0, .slice none 0 0]),
  .pure (.int .i64 k),
  .pure (.int .i64 (cmpR p q * k)),
  .pure (.int .i64 (cmpR p q * k))]
set_option maxHeartbeats 8000000 in
set_option maxRecDepth 100000 in
theorem sort1_any (r s c i j gi L Ci BG BN BK : Nat) (k : Int) (qs : List Rat) (w : World) (hk : k = 1 ∨ k = -1) (hL : r * s = L) (hq : qs.length = L) (h9 : L ≤ 1000) (hfit : ∀ q ∈ qs, fits q = true) (hi : i < r) (hj : j < r) (hc : c < s)
  (hG : w.heap[BG]? = some (.cells #[.int .i64 (r : Int), .int .i64 (s : Int), .slice (some ⟨gi, 0, none⟩) L Ci] 69 (0, 0))) (hN : w.heap[BN]? = some (.cells #[.int .i64 ((c + 1 : Nat) : Int)] 3 (0, 0))) (hK : w.heap[BK]? = some (.cells #[.int .i64 k] 3 (0, 0))) (hv : ValsAt w gi 0 (numVals qs)) (hE : Env w) :
  Calls Tryz.prog 142 #[.int .i64 (i : Int), .int .i64 (j : Int), .pointer (some ⟨BG, 0, none⟩), .pointer (some ⟨BN, 0, none⟩), .pointer (some ⟨BK, 0, none⟩)] w fun e w' => e = .returned (.int .i64 (cfS qs s c k i j)) ∧ Below w.heap.size w w' := by
  obtain ⟨nn, hnn⟩ : ∃ z, c + 1 = z := ⟨_, rfl⟩
  rw [hnn] at hN
  obtain ⟨a, hA⟩ : ∃ z, i * s = z := ⟨_, rfl⟩
  obtain ⟨m, hM⟩ : ∃ z, a + c = z := ⟨_, rfl⟩
  have hmm : m < L := by rw [← hM, ← hA]; exact place_lt hi hc hL
  obtain ⟨u, hU⟩ : ∃ z, a + nn = z := ⟨_, rfl⟩
  have ga : (i : Int) * (s : Int) = (a : Int) := by rw [← hA, Int.natCast_mul]
  have gu : (a : Int) + (nn : Int) = (u : Int) := by omega
  have gm : (u : Int) - 1 = (m : Int) := by omega
  have wa : IntKind.i64.wrap (a : Int) = (a : Int) := IntWalk.i64_in _ (by omega)
  have wu : IntKind.i64.wrap (u : Int) = (u : Int) := IntWalk.i64_in _ (by omega)
  have wm : IntKind.i64.wrap (m : Int) = (m : Int) := IntWalk.i64_in _ (by omega)
  have lm : (m : Int) < (L : Int) := by omega
  have zm : (0 : Int) ≤ (m : Int) := by omega
  have HL_m : Hid (m < qs.length) := Lib.hid (by rw [hq]; exact hmm)
  obtain ⟨p, hp⟩ : ∃ z, qs[m]'(HL_m.out) = z := ⟨_, rfl⟩
  have Hp := Lib.hid hp
  have fp : fits p = true := by rw [← hp]; exact hfit _ (List.getElem_mem _)
  have HD_p : Hid (qs.getD (i * s + c) 0 = p) := Lib.hid (by rw [hA, hM, List.getD_eq_getElem?_getD, List.getElem?_eq_getElem HL_m.out]; exact hp)
  clear hA hM hU hp
  obtain ⟨b, hA⟩ : ∃ z, j * s = z := ⟨_, rfl⟩
  obtain ⟨l, hM⟩ : ∃ z, b + c = z := ⟨_, rfl⟩
  have hml : l < L := by rw [← hM, ← hA]; exact place_lt hj hc hL
  obtain ⟨v, hU⟩ : ∃ z, b + nn = z := ⟨_, rfl⟩
  have gb : (j : Int) * (s : Int) = (b : Int) := by rw [← hA, Int.natCast_mul]
  have gv : (b : Int) + (nn : Int) = (v : Int) := by omega
  have gl : (v : Int) - 1 = (l : Int) := by omega
  have wb : IntKind.i64.wrap (b : Int) = (b : Int) := IntWalk.i64_in _ (by omega)
  have wv : IntKind.i64.wrap (v : Int) = (v : Int) := IntWalk.i64_in _ (by omega)
  have wl : IntKind.i64.wrap (l : Int) = (l : Int) := IntWalk.i64_in _ (by omega)
  have ll : (l : Int) < (L : Int) := by omega
  have zl : (0 : Int) ≤ (l : Int) := by omega
  have HL_l : Hid (l < qs.length) := Lib.hid (by rw [hq]; exact hml)
  obtain ⟨q, hq⟩ : ∃ z, qs[l]'(HL_l.out) = z := ⟨_, rfl⟩
  have Hq := Lib.hid hq
  have fq : fits q = true := by rw [← hq]; exact hfit _ (List.getElem_mem _)
  have HD_q : Hid (qs.getD (j * s + c) 0 = q) := Lib.hid (by rw [hA, hM, List.getD_eq_getElem?_getD, List.getElem?_eq_getElem HL_l.out]; exact hq)
  clear hA hM hU hq
  have HG := Lib.hid hG
  have HN := Lib.hid hN
  have HK := Lib.hid hK
  have HV := Lib.hid hv
  have HE := Lib.hid hE
  have HW := Lib.hid (Below.refl w.heap.size w)
  have EC : Hid (cfS qs s c k i j = cmpR p q * k) := Lib.hid (by unfold cfS; rw [HD_p.out, HD_q.out])
  rw [EC.out]
  clear hG hN hK hv hE hnn hi hj hc hL hq
  go_enter Tryz.func142, Tryz.ntmps142
  go_wp2_with fail
  have hok : okB 25 (S1Ks1 i j r s gi L Ci BG BN BK nn a u m b v l p q k) = true := by kernel_rfl
  have hna := noAny_of (ks := (S1Ks1 i j r s gi L Ci BG BN BK nn a u m b v l p q k)) (by kernel_rfl)
  have hla := lasts_of hna
  refine wp_region_facts_abs (row := none) (w := w) 25 0 25 [] (S1Ks1 i j r s gi L Ci BG BN BK nn a u m b v l p q k) [some 8, some 9, some 10, some 11, some 12, some 13, some 14, some 15, some 16, some 17, some 18, some 19, some 20, some 21, some 22, some 23, some 24, some 25, some 26, some 27, some 28, some 29, some 30, some 31, some 7] [(2, .pointer (some ⟨BG, 0, none⟩)), (0, .int .i64 (i : Int)), (3, .pointer (some ⟨BN, 0, none⟩)), (1, .int .i64 (j : Int)), (4, .pointer (some ⟨BK, 0, none⟩))] 32 (by kernel_rfl) (by kernel_rfl) (by kernel_rfl) rfl rfl (by decide) rfl (by kernel_rfl) rfl (Nat.le_of_eq rfl) rfl ?ho [undef, undef, undef, undef, undef, undef, undef, undef, undef, undef, undef, undef, undef, undef, undef, undef, undef, undef, undef, undef, undef, undef, undef, undef, .int .i64 0] ?h00 (Fs.start rfl rfl) ?hs ?hd
  case ho =>
   intro k x hk
   match k, hk with
   | 0, hk => have hk := Option.some.inj hk; subst hk; rfl
   | 1, hk => have hk := Option.some.inj hk; subst hk; rfl
   | 2, hk => have hk := Option.some.inj hk; subst hk; rfl
   | 3, hk => have hk := Option.some.inj hk; subst hk; rfl
   | 4, hk => have hk := Option.some.inj hk; subst hk; rfl
   | _ + 5, hk => exact absurd hk (by simp)
  case h00 => simp only [putO, layL]
  case hs =>
   rintro A listed vs Wr hF hR i hi hun hpre
   obtain ⟨s0, s1, s2, s3, s4, s5, s6, s7, s8, s9, s10, s11, s12, s13, s14, s15, s16, s17, s18, s19, s20, s21, s22, s23, s24, hvs⟩ := exl_of 25 vs (fun l => vs = l) hF.len rfl
   subst hvs
   have hge := Nat.zero_le i
   rcases Nat.lt_or_ge i 12 with hi | hge
   ·rcases Nat.lt_or_ge i 6 with hi | hge
    ·rcases Nat.lt_or_ge i 3 with hi | hge
     ·rcases Nat.lt_or_ge i 1 with hi | hge
      ·obtain rfl := eqi hi hge
       have ro2 : A.tmps[2]? = some (.pointer (some ⟨BG, 0, none⟩)) := hR.out 0 _ rfl
       refine step_of ⟨some 8, _, _, _, _, _⟩ rfl (fun K' hK => ?_)
       go_simp
       exact hK.out _ _ ⟨_, hF.pure hok hla hpre rfl (Below.refl _ _), rfl⟩
      rcases Nat.lt_or_ge i 2 with hi | hge
      ·obtain rfl := eqi hi hge
       have p0 := hpre 0 (by kernel_rfl)
       have e0 : s0 = .pointer (some ⟨BG, 2, none⟩) := hF.get 0 _ rfl (.inr p0)
       subst e0
       have r0 : A.tmps[8]? = some (.pointer (some ⟨BG, 2, none⟩)) := hR.own 0 _ _ rfl rfl
       have hcc := (three_at (keep_block HG.out (below_none hF.low))).1
       have cHG0 := hcc.1
       have cHG1 := hcc.2.1
       have cHG2 := hcc.2.2
       clear hcc
       refine step_of ⟨some 9, _, _, _, _, _⟩ rfl (fun K' hK => ?_)
       go_simp
       exact hK.out _ _ ⟨_, hF.pure hok hla hpre rfl (Below.refl _ _), rfl⟩
      obtain rfl := eqi hi hge
      have ro0 : A.tmps[0]? = some (.int .i64 (i : Int)) := hR.out 1 _ rfl
      refine step_of ⟨some 10, _, _, _, _, _⟩ rfl (fun K' hK => ?_)
      go_simp
      exact hK.out _ _ ⟨_, hF.pure hok hla hpre rfl (Below.refl _ _), rfl⟩
     rcases Nat.lt_or_ge i 4 with hi | hge
     ·obtain rfl := eqi hi hge
      have ro2 : A.tmps[2]? = some (.pointer (some ⟨BG, 0, none⟩)) := hR.out 0 _ rfl
      refine step_of ⟨some 11, _, _, _, _, _⟩ rfl (fun K' hK => ?_)
      go_simp
      exact hK.out _ _ ⟨_, hF.pure hok hla hpre rfl (Below.refl _ _), rfl⟩
     rcases Nat.lt_or_ge i 5 with hi | hge
     ·obtain rfl := eqi hi hge
      have p3 := hpre 3 (by kernel_rfl)
      have e3 : s3 = .pointer (some ⟨BG, 1, none⟩) := hF.get 3 _ rfl (.inr p3)
      subst e3
      have r3 : A.tmps[11]? = some (.pointer (some ⟨BG, 1, none⟩)) := hR.own 3 _ _ rfl rfl
      have hcc := (three_at (keep_block HG.out (below_none hF.low))).1
      have cHG0 := hcc.1
      have cHG1 := hcc.2.1
      have cHG2 := hcc.2.2
      clear hcc
      refine step_of ⟨some 12, _, _, _, _, _⟩ rfl (fun K' hK => ?_)
      go_simp
      exact hK.out _ _ ⟨_, hF.pure hok hla hpre rfl (Below.refl _ _), rfl⟩
     obtain rfl := eqi hi hge
     have p2 := hpre 2 (by kernel_rfl)
     have e2 : s2 = .int .i64 (i : Int) := hF.get 2 _ rfl (.inr p2)
     subst e2
     have r2 : A.tmps[10]? = some (.int .i64 (i : Int)) := hR.own 2 _ _ rfl rfl
     have p4 := hpre 4 (by kernel_rfl)
     have e4 : s4 = .int .i64 (s : Int) := hF.get 4 _ rfl (.inr p4)
     subst e4
     have r4 : A.tmps[12]? = some (.int .i64 (s : Int)) := hR.own 4 _ _ rfl rfl
     refine step_of ⟨some 13, _, _, _, _, _⟩ rfl (fun K' hK => ?_)
     go_simp
     exact hK.out _ _ ⟨_, hF.pure hok hla hpre rfl (Below.refl _ _), rfl⟩
    rcases Nat.lt_or_ge i 9 with hi | hge
    ·rcases Nat.lt_or_ge i 7 with hi | hge
     ·obtain rfl := eqi hi hge
      have ro3 : A.tmps[3]? = some (.pointer (some ⟨BN, 0, none⟩)) := hR.out 2 _ rfl
      have hcc := (uni_at (keep_block HN.out (below_none hF.low))).1
      have cHN0 := hcc
      clear hcc
      refine step_of ⟨some 14, _, _, _, _, _⟩ rfl (fun K' hK => ?_)
      go_simp
      exact hK.out _ _ ⟨_, hF.pure hok hla hpre rfl (Below.refl _ _), rfl⟩
     rcases Nat.lt_or_ge i 8 with hi | hge
     ·obtain rfl := eqi hi hge
      have p5 := hpre 5 (by kernel_rfl)
      have e5 : s5 = .int .i64 (a : Int) := hF.get 5 _ rfl (.inr p5)
      subst e5
      have r5 : A.tmps[13]? = some (.int .i64 (a : Int)) := hR.own 5 _ _ rfl rfl
      have p6 := hpre 6 (by kernel_rfl)
      have e6 : s6 = .int .i64 (nn : Int) := hF.get 6 _ rfl (.inr p6)
      subst e6
      have r6 : A.tmps[14]? = some (.int .i64 (nn : Int)) := hR.own 6 _ _ rfl rfl
      refine step_of ⟨some 15, _, _, _, _, _⟩ rfl (fun K' hK => ?_)
      go_simp
      exact hK.out _ _ ⟨_, hF.pure hok hla hpre rfl (Below.refl _ _), rfl⟩
     obtain rfl := eqi hi hge
     have p7 := hpre 7 (by kernel_rfl)
     have e7 : s7 = .int .i64 (u : Int) := hF.get 7 _ rfl (.inr p7)
     subst e7
     have r7 : A.tmps[15]? = some (.int .i64 (u : Int)) := hR.own 7 _ _ rfl rfl
     refine step_of ⟨some 16, _, _, _, _, _⟩ rfl (fun K' hK => ?_)
     go_simp
     exact hK.out _ _ ⟨_, hF.pure hok hla hpre rfl (Below.refl _ _), rfl⟩
    rcases Nat.lt_or_ge i 10 with hi | hge
    ·obtain rfl := eqi hi hge
     have p1 := hpre 1 (by kernel_rfl)
     have e1 : s1 = .slice (some ⟨gi, 0, none⟩) L Ci := hF.get 1 _ rfl (.inr p1)
     subst e1
     have r1 : A.tmps[9]? = some (.slice (some ⟨gi, 0, none⟩) L Ci) := hR.own 1 _ _ rfl rfl
     have p8 := hpre 8 (by kernel_rfl)
     have e8 : s8 = .int .i64 (m : Int) := hF.get 8 _ rfl (.inr p8)
     subst e8
     have r8 : A.tmps[16]? = some (.int .i64 (m : Int)) := hR.own 8 _ _ rfl rfl
     refine step_of ⟨some 17, _, _, _, _, _⟩ rfl (fun K' hK => ?_)
     go_simp
     exact hK.out _ _ ⟨_, hF.pure hok hla hpre rfl (Below.refl _ _), rfl⟩
    rcases Nat.lt_or_ge i 11 with hi | hge
    ·obtain rfl := eqi hi hge
     have p9 := hpre 9 (by kernel_rfl)
     have e9 : s9 = .pointer (some ⟨gi, m * 9, none⟩) := hF.get 9 _ rfl (.inr p9)
     subst e9
     have r9 : A.tmps[17]? = some (.pointer (some ⟨gi, m * 9, none⟩)) := hR.own 9 _ _ rfl rfl
     obtain ⟨j0, j1, j2, j3, j4, j5, j6, j7, j8⟩ := item_at (HV.out.below (below_none hF.low)) m HL_m.out p Hp.out
     refine step_of ⟨some 18, _, _, _, _, _⟩ rfl (fun K' hK => ?_)
     go_simp
     exact hK.out _ _ ⟨_, hF.pure hok hla hpre rfl (Below.refl _ _), rfl⟩
    obtain rfl := eqi hi hge
    have ro2 : A.tmps[2]? = some (.pointer (some ⟨BG, 0, none⟩)) := hR.out 0 _ rfl
    refine step_of ⟨some 19, _, _, _, _, _⟩ rfl (fun K' hK => ?_)
    go_simp
    exact hK.out _ _ ⟨_, hF.pure hok hla hpre rfl (Below.refl _ _), rfl⟩
   rcases Nat.lt_or_ge i 18 with hi | hge
   ·rcases Nat.lt_or_ge i 15 with hi | hge
    ·rcases Nat.lt_or_ge i 13 with hi | hge
     ·obtain rfl := eqi hi hge
      have p11 := hpre 11 (by kernel_rfl)
      have e11 : s11 = .pointer (some ⟨BG, 2, none⟩) := hF.get 11 _ rfl (.inr p11)
      subst e11
      have r11 : A.tmps[19]? = some (.pointer (some ⟨BG, 2, none⟩)) := hR.own 11 _ _ rfl rfl
      have hcc := (three_at (keep_block HG.out (below_none hF.low))).1
      have cHG0 := hcc.1
      have cHG1 := hcc.2.1
      have cHG2 := hcc.2.2
      clear hcc
      refine step_of ⟨some 20, _, _, _, _, _⟩ rfl (fun K' hK => ?_)
      go_simp
      exact hK.out _ _ ⟨_, hF.pure hok hla hpre rfl (Below.refl _ _), rfl⟩
     rcases Nat.lt_or_ge i 14 with hi | hge
     ·obtain rfl := eqi hi hge
      have ro1 : A.tmps[1]? = some (.int .i64 (j : Int)) := hR.out 3 _ rfl
      refine step_of ⟨some 21, _, _, _, _, _⟩ rfl (fun K' hK => ?_)
      go_simp
      exact hK.out _ _ ⟨_, hF.pure hok hla hpre rfl (Below.refl _ _), rfl⟩
     obtain rfl := eqi hi hge
     have ro2 : A.tmps[2]? = some (.pointer (some ⟨BG, 0, none⟩)) := hR.out 0 _ rfl
     refine step_of ⟨some 22, _, _, _, _, _⟩ rfl (fun K' hK => ?_)
     go_simp
     exact hK.out _ _ ⟨_, hF.pure hok hla hpre rfl (Below.refl _ _), rfl⟩
    rcases Nat.lt_or_ge i 16 with hi | hge
    ·obtain rfl := eqi hi hge
     have p14 := hpre 14 (by kernel_rfl)
     have e14 : s14 = .pointer (some ⟨BG, 1, none⟩) := hF.get 14 _ rfl (.inr p14)
     subst e14
     have r14 : A.tmps[22]? = some (.pointer (some ⟨BG, 1, none⟩)) := hR.own 14 _ _ rfl rfl
     have hcc := (three_at (keep_block HG.out (below_none hF.low))).1
     have cHG0 := hcc.1
     have cHG1 := hcc.2.1
     have cHG2 := hcc.2.2
     clear hcc
     refine step_of ⟨some 23, _, _, _, _, _⟩ rfl (fun K' hK => ?_)
     go_simp
     exact hK.out _ _ ⟨_, hF.pure hok hla hpre rfl (Below.refl _ _), rfl⟩
    rcases Nat.lt_or_ge i 17 with hi | hge
    ·obtain rfl := eqi hi hge
     have p13 := hpre 13 (by kernel_rfl)
     have e13 : s13 = .int .i64 (j : Int) := hF.get 13 _ rfl (.inr p13)
     subst e13
     have r13 : A.tmps[21]? = some (.int .i64 (j : Int)) := hR.own 13 _ _ rfl rfl
     have p15 := hpre 15 (by kernel_rfl)
     have e15 : s15 = .int .i64 (s : Int) := hF.get 15 _ rfl (.inr p15)
     subst e15
     have r15 : A.tmps[23]? = some (.int .i64 (s : Int)) := hR.own 15 _ _ rfl rfl
     refine step_of ⟨some 24, _, _, _, _, _⟩ rfl (fun K' hK => ?_)
     go_simp
     exact hK.out _ _ ⟨_, hF.pure hok hla hpre rfl (Below.refl _ _), rfl⟩
    obtain rfl := eqi hi hge
    have ro3 : A.tmps[3]? = some (.pointer (some ⟨BN, 0, none⟩)) := hR.out 2 _ rfl
    have hcc := (uni_at (keep_block HN.out (below_none hF.low))).1
    have cHN0 := hcc
    clear hcc
    refine step_of ⟨some 25, _, _, _, _, _⟩ rfl (fun K' hK => ?_)
    go_simp
    exact hK.out _ _ ⟨_, hF.pure hok hla hpre rfl (Below.refl _ _), rfl⟩
   rcases Nat.lt_or_ge i 21 with hi | hge
   ·rcases Nat.lt_or_ge i 19 with hi | hge
    ·obtain rfl := eqi hi hge
     have p16 := hpre 16 (by kernel_rfl)
     have e16 : s16 = .int .i64 (b : Int) := hF.get 16 _ rfl (.inr p16)
     subst e16
     have r16 : A.tmps[24]? = some (.int .i64 (b : Int)) := hR.own 16 _ _ rfl rfl
     have p17 := hpre 17 (by kernel_rfl)
     have e17 : s17 = .int .i64 (nn : Int) := hF.get 17 _ rfl (.inr p17)
     subst e17
     have r17 : A.tmps[25]? = some (.int .i64 (nn : Int)) := hR.own 17 _ _ rfl rfl
     refine step_of ⟨some 26, _, _, _, _, _⟩ rfl (fun K' hK => ?_)
     go_simp
     exact hK.out _ _ ⟨_, hF.pure hok hla hpre rfl (Below.refl _ _), rfl⟩
    rcases Nat.lt_or_ge i 20 with hi | hge
    ·obtain rfl := eqi hi hge
     have p18 := hpre 18 (by kernel_rfl)
     have e18 : s18 = .int .i64 (v : Int) := hF.get 18 _ rfl (.inr p18)
     subst e18
     have r18 : A.tmps[26]? = some (.int .i64 (v : Int)) := hR.own 18 _ _ rfl rfl
     refine step_of ⟨some 27, _, _, _, _, _⟩ rfl (fun K' hK => ?_)
     go_simp
     exact hK.out _ _ ⟨_, hF.pure hok hla hpre rfl (Below.refl _ _), rfl⟩
    obtain rfl := eqi hi hge
    have p12 := hpre 12 (by kernel_rfl)
    have e12 : s12 = .slice (some ⟨gi, 0, none⟩) L Ci := hF.get 12 _ rfl (.inr p12)
    subst e12
    have r12 : A.tmps[20]? = some (.slice (some ⟨gi, 0, none⟩) L Ci) := hR.own 12 _ _ rfl rfl
    have p19 := hpre 19 (by kernel_rfl)
    have e19 : s19 = .int .i64 (l : Int) := hF.get 19 _ rfl (.inr p19)
    subst e19
    have r19 : A.tmps[27]? = some (.int .i64 (l : Int)) := hR.own 19 _ _ rfl rfl
    refine step_of ⟨some 28, _, _, _, _, _⟩ rfl (fun K' hK => ?_)
    go_simp
    exact hK.out _ _ ⟨_, hF.pure hok hla hpre rfl (Below.refl _ _), rfl⟩
   rcases Nat.lt_or_ge i 23 with hi | hge
   ·rcases Nat.lt_or_ge i 22 with hi | hge
    ·obtain rfl := eqi hi hge
     have p20 := hpre 20 (by kernel_rfl)
     have e20 : s20 = .pointer (some ⟨gi, l * 9, none⟩) := hF.get 20 _ rfl (.inr p20)
     subst e20
     have r20 : A.tmps[28]? = some (.pointer (some ⟨gi, l * 9, none⟩)) := hR.own 20 _ _ rfl rfl
     obtain ⟨j0, j1, j2, j3, j4, j5, j6, j7, j8⟩ := item_at (HV.out.below (below_none hF.low)) l HL_l.out q Hq.out
     refine step_of ⟨some 29, _, _, _, _, _⟩ rfl (fun K' hK => ?_)
     go_simp
     exact hK.out _ _ ⟨_, hF.pure hok hla hpre rfl (Below.refl _ _), rfl⟩
    obtain rfl := eqi hi hge
    have ro4 : A.tmps[4]? = some (.pointer (some ⟨BK, 0, none⟩)) := hR.out 4 _ rfl
    have hcc := (uni_at (keep_block HK.out (below_none hF.low))).1
    have cHK0 := hcc
    clear hcc
    refine step_of ⟨some 30, _, _, _, _, _⟩ rfl (fun K' hK => ?_)
    go_simp
    exact hK.out _ _ ⟨_, hF.pure hok hla hpre rfl (Below.refl _ _), rfl⟩
   rcases Nat.lt_or_ge i 24 with hi | hge
   ·obtain rfl := eqi hi hge
    have p10 := hpre 10 (by kernel_rfl)
    have e10 : s10 = .agg #[.int .i64 1, .string (numS p), .string (denS p), .string { data := #[] }, .bool false, .int .i64 0, .int .i64 0, .int .i64 0, .slice none 0 0] := hF.get 10 _ rfl (.inr p10)
    subst e10
    have r10 : A.tmps[18]? = some (.agg #[.int .i64 1, .string (numS p), .string (denS p), .string { data := #[] }, .bool false, .int .i64 0, .int .i64 0, .int .i64 0, .slice none 0 0]) := hR.own 10 _ _ rfl rfl
    have p21 := hpre 21 (by kernel_rfl)
    have e21 : s21 = .agg #[.int .i64 1, .string (numS q), .string (denS q), .string { data := #[] }, .bool false, .int .i64 0, .int .i64 0, .int .i64 0, .slice none 0 0] := hF.get 21 _ rfl (.inr p21)
    subst e21
    have r21 : A.tmps[29]? = some (.agg #[.int .i64 1, .string (numS q), .string (denS q), .string { data := #[] }, .bool false, .int .i64 0, .int .i64 0, .int .i64 0, .slice none 0 0]) := hR.own 21 _ _ rfl rfl
    have p22 := hpre 22 (by kernel_rfl)
    have e22 : s22 = .int .i64 k := hF.get 22 _ rfl (.inr p22)
    subst e22
    have r22 : A.tmps[30]? = some (.int .i64 k) := hR.own 22 _ _ rfl rfl
    refine step_of ⟨some 31, _, _, _, _, _⟩ rfl (fun K' hK => ?_)
    go_simp
    go_at_call 143
    (with_reducible refine (order_flook p q k _ hk fp fq (HE.out.below (below_none hF.low))).mono ?_)
    rintro e Wq ⟨rfl, hq⟩
    exact hK.out _ _ ⟨_, hF.pure hok hla hpre rfl hq, rfl⟩
   obtain rfl := eqi hi hge
   have p23 := hpre 23 (by kernel_rfl)
   have e23 : s23 = .int .i64 (cmpR p q * k) := hF.get 23 _ rfl (.inr p23)
   subst e23
   have r23 : A.tmps[31]? = some (.int .i64 (cmpR p q * k)) := hR.own 23 _ _ rfl rfl
   refine step_of ⟨some 7, _, _, _, _, _⟩ rfl (fun K' hK => ?_)
   go_simp
   exact hK.out _ _ ⟨_, hF.pure hok hla hpre rfl (Below.refl _ _), rfl⟩
  case hd =>
   rintro listed vs W2 hF hall
   obtain ⟨s0, s1, s2, s3, s4, s5, s6, s7, s8, s9, s10, s11, s12, s13, s14, s15, s16, s17, s18, s19, s20, s21, s22, s23, s24, hvs⟩ := exl_of 25 vs (fun l => vs = l) hF.len rfl
   subst hvs
   have e24 : s24 = .int .i64 (cmpR p q * k) := hF.get 24 _ rfl (.inr (hall 24 (by decide)))
   subst e24
   have hq := below_none hF.low
   replace HW := Lib.hid (HW.out.trans (hq.mono HW.out.size))
   clear hq
   clear hF hall hok hla hna
   refine rest_end ?_
   simp only [putO, layL]
   go_wp2
   go_ret
   exact ⟨rfl, HW.out⟩
set_option linter.unusedVariables false in
/-- what the operations of region 4 yield -/
def S2Ks4 (i j r gk Ck B BW WB cW : Nat) (p q : Rat) (k : Int) : List RK :=
 [.pure (.pointer (some ⟨B, 2, none⟩)),
  .pure (.slice (some ⟨gk, 0, none⟩) r Ck),
  .pure (.int .i64 (i : Int)),
  .pure (.pointer (some ⟨gk, i * 9, none⟩)),
  .pure (.agg #[.int .i64 1, .string (numS p), .string (denS p), .string { data := #[] }, .bool false, .int .i64 0, .int .i64 0, .int .i64 0, .slice none 0 0]),
  .pure (.pointer (some ⟨B, 2, none⟩)),
  .pure (.slice (some ⟨gk, 0, none⟩) r Ck),
  .pure (.int .i64 (j : Int)),
  .pure (.pointer (some ⟨gk, j * 9, none⟩)),
  .pure (.agg #[.int .i64 1, .string (numS q), .string (denS q), .string { data := #[] }, .bool false, .int .i64 0, .int .i64 0, .int .i64 0, .slice none 0 0]),
  .pure (.slice (some ⟨WB, 0, none⟩) 1 cW),
  .pure (.int .i64 0),
  .pure (.pointer (some ⟨WB, 0, none⟩)),
  .pure (.int .i64 k),
  .pure (.int .i64 (cmpR p q * k)),
  .pure (.int .i64 (cmpR p q * k))]
set_option maxHeartbeats 8000000 in
set_option maxRecDepth 100000 in
theorem sortBy1_any (r i j gk Ck BL BW LB cL WB cW : Nat) (k : Int) (ks : List Rat) (w : World) (hk : k = 1 ∨ k = -1) (hq : ks.length = r) (h9 : r ≤ 1000) (hfit : ∀ q ∈ ks, fits q = true) (hi : i < r) (hj : j < r)
  (hL : w.heap[BL]? = some (.cells #[.slice (some ⟨LB, 0, none⟩) 1 cL] 114 (0, 0))) (hl0 : w.cell? ⟨LB, 0, none⟩ = some (.int .i64 (r : Int))) (hl1 : w.cell? ⟨LB, 1, none⟩ = some (.int .i64 1)) (hl2 : w.cell? ⟨LB, 2, none⟩ = some (.slice (some ⟨gk, 0, none⟩) r Ck))
  (hB : w.heap[BW]? = some (.cells #[.slice (some ⟨WB, 0, none⟩) 1 cW] 22 (0, 0))) (hw0 : w.cell? ⟨WB, 0, none⟩ = some (.int .i64 k)) (hv : ValsAt w gk 0 (numVals ks)) (hE : Env w) :
  Calls Tryz.prog 144 #[.int .i64 (i : Int), .int .i64 (j : Int), .pointer (some ⟨BL, 0, none⟩), .pointer (some ⟨BW, 0, none⟩)] w fun e w' => e = .returned (.int .i64 (cmpR (ks.getD i 0) (ks.getD j 0) * k)) ∧ Below w.heap.size w w' := by
  have HL_i : Hid (i < ks.length) := Lib.hid (by rw [hq]; exact hi)
  obtain ⟨p, hp⟩ : ∃ z, ks[i]'(HL_i.out) = z := ⟨_, rfl⟩
  have Hp := Lib.hid hp
  have fp : fits p = true := by rw [← hp]; exact hfit _ (List.getElem_mem _)
  have HD_p : ks.getD i 0 = p := by rw [List.getD_eq_getElem?_getD, List.getElem?_eq_getElem HL_i.out]; exact hp
  have li : (i : Int) < (r : Int) := by omega
  have zi : (0 : Int) ≤ (i : Int) := by omega
  rw [HD_p]
  clear hp HD_p
  have HL_j : Hid (j < ks.length) := Lib.hid (by rw [hq]; exact hj)
  obtain ⟨q, hq⟩ : ∃ z, ks[j]'(HL_j.out) = z := ⟨_, rfl⟩
  have Hq := Lib.hid hq
  have fq : fits q = true := by rw [← hq]; exact hfit _ (List.getElem_mem _)
  have HD_q : ks.getD j 0 = q := by rw [List.getD_eq_getElem?_getD, List.getElem?_eq_getElem HL_j.out]; exact hq
  have lj : (j : Int) < (r : Int) := by omega
  have zj : (0 : Int) ≤ (j : Int) := by omega
  rw [HD_q]
  clear hq HD_q
  have hb : Below w.heap.size w (w.alloc (.cells #[.int .i64 (r : Int), .int .i64 1, .slice (some ⟨gk, 0, none⟩) r Ck] 69)) := (Below.refl _ _).alloc (Nat.le_refl _) _
  have HC := Lib.hid (heap_alloc_new w (.cells #[.int .i64 (r : Int), .int .i64 1, .slice (some ⟨gk, 0, none⟩) r Ck] 69))
  have HB := Lib.hid (keep_block hB hb)
  have HWB := Lib.hid (cell_below hw0 hb)
  have HV := Lib.hid (hv.below hb)
  have HE := Lib.hid (hE.below hb)
  have HW := Lib.hid hb
  have xl := Lib.cell_of_heap hL 0
  obtain ⟨W1, hW1⟩ : ∃ Z, w.alloc (.cells #[.int .i64 (r : Int), .int .i64 1, .slice (some ⟨gk, 0, none⟩) r Ck] 69) = Z := ⟨_, rfl⟩
  rw [hW1] at HC HB HWB HV HE HW
  obtain ⟨B, hB1⟩ : ∃ B, w.heap.size = B := ⟨_, rfl⟩
  rw [hB1] at HC
  have EW := Lib.hid hW1
  have EB := Lib.hid hB1
  clear hb hL hB hw0 hv hE hq hi hj hW1 hB1
  go_enter Tryz.func144, Tryz.ntmps144
  go_wp2_with fail
  refine wp_loop_rounds 2 ?_
  rw [rounds_succ]
  go_upto_region 4 with fail
  rw [EW.out, EB.out]
  clear xl hl0 hl1 hl2
  go_wp2_with fail
  have hok : okB 16 (S2Ks4 i j r gk Ck B BW WB cW p q k) = true := by kernel_rfl
  have hna := noAny_of (ks := (S2Ks4 i j r gk Ck B BW WB cW p q k)) (by kernel_rfl)
  have hla := lasts_of hna
  refine wp_region_facts_abs (row := none) (w := W1) 16 0 16 [] (S2Ks4 i j r gk Ck B BW WB cW p q k) [some 17, some 18, some 19, some 20, some 21, some 22, some 23, some 24, some 25, some 26, some 27, some 28, some 29, some 30, some 31, some 9] [(8, .pointer (some ⟨B, 0, none⟩)), (0, .int .i64 (i : Int)), (1, .int .i64 (j : Int)), (3, .pointer (some ⟨BW, 0, none⟩)), (7, .int .i64 0)] 36 (by kernel_rfl) (by kernel_rfl) (by kernel_rfl) rfl rfl (by decide) rfl (by kernel_rfl) rfl (Nat.le_of_eq rfl) rfl ?ho [undef, undef, undef, undef, undef, undef, undef, undef, undef, undef, undef, undef, undef, undef, undef, undef] ?h00 (Fs.start rfl rfl) ?hs ?hd
  case ho =>
   intro k x hk
   match k, hk with
   | 0, hk => have hk := Option.some.inj hk; subst hk; rfl
   | 1, hk => have hk := Option.some.inj hk; subst hk; rfl
   | 2, hk => have hk := Option.some.inj hk; subst hk; rfl
   | 3, hk => have hk := Option.some.inj hk; subst hk; rfl
   | 4, hk => have hk := Option.some.inj hk; subst hk; rfl
   | _ + 5, hk => exact absurd hk (by simp)
  case h00 => simp only [putO, layL]
  case hs =>
   rintro A listed vs Wr hF hR i hi hun hpre
   obtain ⟨s0, s1, s2, s3, s4, s5, s6, s7, s8, s9, s10, s11, s12, s13, s14, s15, hvs⟩ := exl_of 16 vs (fun l => vs = l) hF.len rfl
   subst hvs
   have hge := Nat.zero_le i
   rcases Nat.lt_or_ge i 8 with hi | hge
   ·rcases Nat.lt_or_ge i 4 with hi | hge
    ·rcases Nat.lt_or_ge i 2 with hi | hge
     ·rcases Nat.lt_or_ge i 1 with hi | hge
      ·obtain rfl := eqi hi hge
       have ro8 : A.tmps[8]? = some (.pointer (some ⟨B, 0, none⟩)) := hR.out 0 _ rfl
       refine step_of ⟨some 17, _, _, _, _, _⟩ rfl (fun K' hK => ?_)
       go_simp
       exact hK.out _ _ ⟨_, hF.pure hok hla hpre rfl (Below.refl _ _), rfl⟩
      obtain rfl := eqi hi hge
      have p0 := hpre 0 (by kernel_rfl)
      have e0 : s0 = .pointer (some ⟨B, 2, none⟩) := hF.get 0 _ rfl (.inr p0)
      subst e0
      have r0 : A.tmps[17]? = some (.pointer (some ⟨B, 2, none⟩)) := hR.own 0 _ _ rfl rfl
      have hcc := (three_at (keep_block HC.out (below_none hF.low))).1
      have cHC0 := hcc.1
      have cHC1 := hcc.2.1
      have cHC2 := hcc.2.2
      clear hcc
      refine step_of ⟨some 18, _, _, _, _, _⟩ rfl (fun K' hK => ?_)
      go_simp
      exact hK.out _ _ ⟨_, hF.pure hok hla hpre rfl (Below.refl _ _), rfl⟩
     rcases Nat.lt_or_ge i 3 with hi | hge
     ·obtain rfl := eqi hi hge
      have ro0 : A.tmps[0]? = some (.int .i64 (i : Int)) := hR.out 1 _ rfl
      refine step_of ⟨some 19, _, _, _, _, _⟩ rfl (fun K' hK => ?_)
      go_simp
      exact hK.out _ _ ⟨_, hF.pure hok hla hpre rfl (Below.refl _ _), rfl⟩
     obtain rfl := eqi hi hge
     have p1 := hpre 1 (by kernel_rfl)
     have e1 : s1 = .slice (some ⟨gk, 0, none⟩) r Ck := hF.get 1 _ rfl (.inr p1)
     subst e1
     have r1 : A.tmps[18]? = some (.slice (some ⟨gk, 0, none⟩) r Ck) := hR.own 1 _ _ rfl rfl
     have p2 := hpre 2 (by kernel_rfl)
     have e2 : s2 = .int .i64 (i : Int) := hF.get 2 _ rfl (.inr p2)
     subst e2
     have r2 : A.tmps[19]? = some (.int .i64 (i : Int)) := hR.own 2 _ _ rfl rfl
     refine step_of ⟨some 20, _, _, _, _, _⟩ rfl (fun K' hK => ?_)
     go_simp
     exact hK.out _ _ ⟨_, hF.pure hok hla hpre rfl (Below.refl _ _), rfl⟩
    rcases Nat.lt_or_ge i 6 with hi | hge
    ·rcases Nat.lt_or_ge i 5 with hi | hge
     ·obtain rfl := eqi hi hge
      have p3 := hpre 3 (by kernel_rfl)
      have e3 : s3 = .pointer (some ⟨gk, i * 9, none⟩) := hF.get 3 _ rfl (.inr p3)
      subst e3
      have r3 : A.tmps[20]? = some (.pointer (some ⟨gk, i * 9, none⟩)) := hR.own 3 _ _ rfl rfl
      obtain ⟨j0, j1, j2, j3, j4, j5, j6, j7, j8⟩ := item_at (HV.out.below (below_none hF.low)) i HL_i.out p Hp.out
      refine step_of ⟨some 21, _, _, _, _, _⟩ rfl (fun K' hK => ?_)
      go_simp
      exact hK.out _ _ ⟨_, hF.pure hok hla hpre rfl (Below.refl _ _), rfl⟩
     obtain rfl := eqi hi hge
     have ro8 : A.tmps[8]? = some (.pointer (some ⟨B, 0, none⟩)) := hR.out 0 _ rfl
     refine step_of ⟨some 22, _, _, _, _, _⟩ rfl (fun K' hK => ?_)
     go_simp
     exact hK.out _ _ ⟨_, hF.pure hok hla hpre rfl (Below.refl _ _), rfl⟩
    rcases Nat.lt_or_ge i 7 with hi | hge
    ·obtain rfl := eqi hi hge
     have p5 := hpre 5 (by kernel_rfl)
     have e5 : s5 = .pointer (some ⟨B, 2, none⟩) := hF.get 5 _ rfl (.inr p5)
     subst e5
     have r5 : A.tmps[22]? = some (.pointer (some ⟨B, 2, none⟩)) := hR.own 5 _ _ rfl rfl
     have hcc := (three_at (keep_block HC.out (below_none hF.low))).1
     have cHC0 := hcc.1
     have cHC1 := hcc.2.1
     have cHC2 := hcc.2.2
     clear hcc
     refine step_of ⟨some 23, _, _, _, _, _⟩ rfl (fun K' hK => ?_)
     go_simp
     exact hK.out _ _ ⟨_, hF.pure hok hla hpre rfl (Below.refl _ _), rfl⟩
    obtain rfl := eqi hi hge
    have ro1 : A.tmps[1]? = some (.int .i64 (j : Int)) := hR.out 2 _ rfl
    refine step_of ⟨some 24, _, _, _, _, _⟩ rfl (fun K' hK => ?_)
    go_simp
    exact hK.out _ _ ⟨_, hF.pure hok hla hpre rfl (Below.refl _ _), rfl⟩
   rcases Nat.lt_or_ge i 12 with hi | hge
   ·rcases Nat.lt_or_ge i 10 with hi | hge
    ·rcases Nat.lt_or_ge i 9 with hi | hge
     ·obtain rfl := eqi hi hge
      have p6 := hpre 6 (by kernel_rfl)
      have e6 : s6 = .slice (some ⟨gk, 0, none⟩) r Ck := hF.get 6 _ rfl (.inr p6)
      subst e6
      have r6 : A.tmps[23]? = some (.slice (some ⟨gk, 0, none⟩) r Ck) := hR.own 6 _ _ rfl rfl
      have p7 := hpre 7 (by kernel_rfl)
      have e7 : s7 = .int .i64 (j : Int) := hF.get 7 _ rfl (.inr p7)
      subst e7
      have r7 : A.tmps[24]? = some (.int .i64 (j : Int)) := hR.own 7 _ _ rfl rfl
      refine step_of ⟨some 25, _, _, _, _, _⟩ rfl (fun K' hK => ?_)
      go_simp
      exact hK.out _ _ ⟨_, hF.pure hok hla hpre rfl (Below.refl _ _), rfl⟩
     obtain rfl := eqi hi hge
     have p8 := hpre 8 (by kernel_rfl)
     have e8 : s8 = .pointer (some ⟨gk, j * 9, none⟩) := hF.get 8 _ rfl (.inr p8)
     subst e8
     have r8 : A.tmps[25]? = some (.pointer (some ⟨gk, j * 9, none⟩)) := hR.own 8 _ _ rfl rfl
     obtain ⟨j0, j1, j2, j3, j4, j5, j6, j7, j8⟩ := item_at (HV.out.below (below_none hF.low)) j HL_j.out q Hq.out
     refine step_of ⟨some 26, _, _, _, _, _⟩ rfl (fun K' hK => ?_)
     go_simp
     exact hK.out _ _ ⟨_, hF.pure hok hla hpre rfl (Below.refl _ _), rfl⟩
    rcases Nat.lt_or_ge i 11 with hi | hge
    ·obtain rfl := eqi hi hge
     have ro3 : A.tmps[3]? = some (.pointer (some ⟨BW, 0, none⟩)) := hR.out 3 _ rfl
     have hcc := (uni_at (keep_block HB.out (below_none hF.low))).1
     have cHB0 := hcc
     clear hcc
     refine step_of ⟨some 27, _, _, _, _, _⟩ rfl (fun K' hK => ?_)
     go_simp
     exact hK.out _ _ ⟨_, hF.pure hok hla hpre rfl (Below.refl _ _), rfl⟩
    obtain rfl := eqi hi hge
    have ro7 : A.tmps[7]? = some (.int .i64 0) := hR.out 4 _ rfl
    refine step_of ⟨some 28, _, _, _, _, _⟩ rfl (fun K' hK => ?_)
    go_simp
    exact hK.out _ _ ⟨_, hF.pure hok hla hpre rfl (Below.refl _ _), rfl⟩
   rcases Nat.lt_or_ge i 14 with hi | hge
   ·rcases Nat.lt_or_ge i 13 with hi | hge
    ·obtain rfl := eqi hi hge
     have p10 := hpre 10 (by kernel_rfl)
     have e10 : s10 = .slice (some ⟨WB, 0, none⟩) 1 cW := hF.get 10 _ rfl (.inr p10)
     subst e10
     have r10 : A.tmps[27]? = some (.slice (some ⟨WB, 0, none⟩) 1 cW) := hR.own 10 _ _ rfl rfl
     have p11 := hpre 11 (by kernel_rfl)
     have e11 : s11 = .int .i64 0 := hF.get 11 _ rfl (.inr p11)
     subst e11
     have r11 : A.tmps[28]? = some (.int .i64 0) := hR.own 11 _ _ rfl rfl
     refine step_of ⟨some 29, _, _, _, _, _⟩ rfl (fun K' hK => ?_)
     go_simp
     exact hK.out _ _ ⟨_, hF.pure hok hla hpre rfl (Below.refl _ _), rfl⟩
    obtain rfl := eqi hi hge
    have p12 := hpre 12 (by kernel_rfl)
    have e12 : s12 = .pointer (some ⟨WB, 0, none⟩) := hF.get 12 _ rfl (.inr p12)
    subst e12
    have r12 : A.tmps[29]? = some (.pointer (some ⟨WB, 0, none⟩)) := hR.own 12 _ _ rfl rfl
    have hk0 := cell_below HWB.out (below_none hF.low)
    refine step_of ⟨some 30, _, _, _, _, _⟩ rfl (fun K' hK => ?_)
    go_simp
    exact hK.out _ _ ⟨_, hF.pure hok hla hpre rfl (Below.refl _ _), rfl⟩
   rcases Nat.lt_or_ge i 15 with hi | hge
   ·obtain rfl := eqi hi hge
    have p4 := hpre 4 (by kernel_rfl)
    have e4 : s4 = .agg #[.int .i64 1, .string (numS p), .string (denS p), .string { data := #[] }, .bool false, .int .i64 0, .int .i64 0, .int .i64 0, .slice none 0 0] := hF.get 4 _ rfl (.inr p4)
    subst e4
    have r4 : A.tmps[21]? = some (.agg #[.int .i64 1, .string (numS p), .string (denS p), .string { data := #[] }, .bool false, .int .i64 0, .int .i64 0, .int .i64 0, .slice none 0 0]) := hR.own 4 _ _ rfl rfl
    have p9 := hpre 9 (by kernel_rfl)
    have e9 : s9 = .agg #[.int .i64 1, .string (numS q), .string (denS q), .string { data := #[] }, .bool false, .int .i64 0, .int .i64 0, .int .i64 0, .slice none 0 0] := hF.get 9 _ rfl (.inr p9)
    subst e9
    have r9 : A.tmps[26]? = some (.agg #[.int .i64 1, .string (numS q), .string (denS q), .string { data := #[] }, .bool false, .int .i64 0, .int .i64 0, .int .i64 0, .slice none 0 0]) := hR.own 9 _ _ rfl rfl
    have p13 := hpre 13 (by kernel_rfl)
    have e13 : s13 = .int .i64 k := hF.get 13 _ rfl (.inr p13)
    subst e13
    have r13 : A.tmps[30]? = some (.int .i64 k) := hR.own 13 _ _ rfl rfl
    refine step_of ⟨some 31, _, _, _, _, _⟩ rfl (fun K' hK => ?_)
    go_simp
    go_at_call 143
    (with_reducible refine (order_flook p q k _ hk fp fq (HE.out.below (below_none hF.low))).mono ?_)
    rintro e Wq ⟨rfl, hq⟩
    exact hK.out _ _ ⟨_, hF.pure hok hla hpre rfl hq, rfl⟩
   obtain rfl := eqi hi hge
   have p14 := hpre 14 (by kernel_rfl)
   have e14 : s14 = .int .i64 (cmpR p q * k) := hF.get 14 _ rfl (.inr p14)
   subst e14
   have r14 : A.tmps[31]? = some (.int .i64 (cmpR p q * k)) := hR.own 14 _ _ rfl rfl
   refine step_of ⟨some 9, _, _, _, _, _⟩ rfl (fun K' hK => ?_)
   go_simp
   exact hK.out _ _ ⟨_, hF.pure hok hla hpre rfl (Below.refl _ _), rfl⟩
  case hd =>
   rintro listed vs W2 hF hall
   obtain ⟨s0, s1, s2, s3, s4, s5, s6, s7, s8, s9, s10, s11, s12, s13, s14, s15, hvs⟩ := exl_of 16 vs (fun l => vs = l) hF.len rfl
   subst hvs
   have e15 : s15 = .int .i64 (cmpR p q * k) := hF.get 15 _ rfl (.inr (hall 15 (by decide)))
   subst e15
   have hq := below_none hF.low
   replace HW := Lib.hid (HW.out.trans (hq.mono HW.out.size))
   clear hq
   clear hF hall hok hla hna
   refine rest_end ?_
   simp only [putO, layL]
   obtain ⟨dd, hdd⟩ : ∃ z, cmpR p q * k = z := ⟨_, rfl⟩
   rw [hdd]
   by_cases hz : dd = 0
   ·subst hz
    go_wp2
    rw [rounds_succ]
    go_wp2
    go_ret
    exact ⟨by rw [hdd]; rfl, HW.out⟩
   ·have hz1 : (dd == 0) = false := by simpa using hz
    have hz2 : decide (dd = 0) = false := decide_eq_false hz
    go_wp2
    go_ret
    exact ⟨by rw [hdd]; rfl, HW.out⟩
end Go.Proofs.YtkghpiaoggljjaaGreatDoor.Num.Mt

/- package flook's table of functions: how it lies as a map. No conditions. -/
namespace Go.Proofs.YtkghpiaoggljjaaGreatDoor.Num.Fl
open Go.RowKit Go.Lib Go.MapKept Num

attribute [local go_sem] run_store_func
/-- a function value that wraps the row's function, or is it -/
def RowFn (w : World) (v : Value) (r : Row) : Prop :=
 if r.num then ∃ e, v = .func (.func 118) #[] #[.pointer (some ⟨e, 0, none⟩)] ∧ w.cell? ⟨e, 0, none⟩ = some (.func (.func r.fn) #[] #[])
 else v = .func (.func r.fn) #[] #[]
/-- an entry of the table as it lies in the map -/
def EntryAt (w : World) (x : MapEntry) (r : Row) : Prop := x.key = .string r.name ∧ ∃ v, x.val = .agg #[.int .i64 r.least, .int .i64 r.most, .string r.kinds, v] ∧ RowFn w v r
/-- block b is a map with just these rows -/
def TableAt (w : World) (b : Nat) (l : List Row) : Prop :=
 ∃ es clock, w.heap[b]? = some (.map es clock) ∧ es.size = l.length ∧ ∀ i (h : i < l.length) (h' : i < es.size), EntryAt w es[i] l[i]

theorem RowFn.mono {w w' : World} {v : Value} {r : Row} (h : RowFn w v r) (hc : ∀ (p : Addr) (x : Value), w.cell? p = some x → w'.cell? p = some x) : RowFn w' v r := by
 unfold RowFn at h ⊢
 split
 ·rename_i hn
  rw [if_pos hn] at h
  obtain ⟨e, h1, h2⟩ := h
  exact ⟨e, h1, hc _ _ h2⟩
 ·rename_i hn
  rw [if_neg hn] at h
  exact h
theorem EntryAt.mono {w w' : World} {x : MapEntry} {r : Row} (h : EntryAt w x r) (hc : ∀ (p : Addr) (x : Value), w.cell? p = some x → w'.cell? p = some x) : EntryAt w' x r :=
 let ⟨hk, v, hv, hr⟩ := h; ⟨hk, v, hv, hr.mono hc⟩
theorem TableAt.below {w w' : World} {b : Nat} {l : List Row} (h : TableAt w b l) (hb : Below w.heap.size w w') : TableAt w' b l := by
 obtain ⟨es, clock, hm, hs, he⟩ := h
 exact ⟨es, clock, keep_block hm hb, hs, fun i hi hi' => (he i hi hi').mono fun p x hp => cell_below hp hb⟩
theorem TableAt.made (w : World) : TableAt (w.alloc (.map #[] 0)) w.heap.size [] := ⟨#[], 0, heap_alloc_new w _, rfl, fun _ hi => absurd hi (Nat.not_lt_zero _)⟩
theorem TableAt.store {w : World} {b mt kt et : Nat} {l : List Row} (h : TableAt w b l) (r : Row) (v : Value) (hr : RowFn w v r) (hf : Fresh r.name l) (hm : Tryz.prog.underlying mt = some (.map kt et)) (hk : Tryz.prog.underlying kt = some .string) :
  ∃ w', (Instr.mapUpdate mt (.map (some b)) (.string r.name) (.agg #[.int .i64 r.least, .int .i64 r.most, .string r.kinds, v])).run Tryz.prog w = .ok () w' ∧ TableAt w' b (l ++ [r]) ∧ w.grownBy w' (some b) := by
 obtain ⟨es, clock, hb, hs, he⟩ := h
 have hall : ∀ x ∈ es.toList, ∃ t, x.key = .string t ∧ (r.name == t) = false := by
  intro x hx
  obtain ⟨i, hi, rfl⟩ := List.getElem_of_mem hx
  have hi' : i < es.size := by simpa using hi
  have hil : i < l.length := by omega
  have := (he i hil hi').1
  exact ⟨l[i].name, by simpa using this, hf l[i] (List.getElem_mem hil)⟩
 have hfind := findNow_fresh r.name es.toList 0 hall
 have hc : (Instr.checkKey false 10000 kt (.string r.name)).run Tryz.prog w = .ok () w := MapKept.run_checkKey (k := .string r.name) hk (by simp [IsKey]) false 9999
 refine ⟨putMap w b (.map (es.push { key := .string r.name, val := .agg #[.int .i64 r.least, .int .i64 r.most, .string r.kinds, v], born := clock }) (clock + 1)), ?_, ?_, putMap_grown hb⟩
 ·simp [Instr.mapUpdate, run_underlying hm, MapKept.run_getObj_map hb, hc, MapKept.run_findKey hk hfind, MapKept.run_setObj_map _ hb, Result.andThen, putMap]
 ·refine ⟨_, _, (heap_set hb).1, by simp [hs], fun i hi hi' => ?_⟩
  by_cases hlt : i < es.size
  ·have hil : i < l.length := by omega
   rw [Array.getElem_push_lt hlt, List.getElem_append_left hil]
   exact (he i hil hlt).mono (putMap_cell hb)
  ·have : i = es.size := by simp at hi'; omega
   subst this
   rw [Array.getElem_push_eq]
   have hl : (l ++ [r])[es.size] = r := by simp [hs]
   rw [hl]
   exact ⟨rfl, v, rfl, hr.mono (putMap_cell hb)⟩
/-- the row at a name -/
theorem TableAt.look {w : World} {b mt kt et : Nat} {l : List Row} (h : TableAt w b l) (i : Nat) (hi : i < l.length) (hf : ∀ j (hj : j < i), (l[i].name == (l[j]'(by omega)).name) = false) (hm : Tryz.prog.underlying mt = some (.map kt et)) (hk : Tryz.prog.underlying kt = some .string) :
  ∃ v, RowFn w v l[i] ∧ (Instr.lookup mt (.map (some b)) (.string l[i].name) true).run Tryz.prog w = .ok (.tuple #[.agg #[.int .i64 l[i].least, .int .i64 l[i].most, .string l[i].kinds, v], .bool true]) w := by
 obtain ⟨es, clock, hb, hs, he⟩ := h
 have hi' : i < es.size := by omega
 obtain ⟨hkey, v, hv, hr⟩ := he i hi hi'
 refine ⟨v, hr, ?_⟩
 have hat : es.toList[i]? = some es[i] := by simp [hi']
 have hfind := findNow_at l[i].name es.toList i 0 es[i] hat hkey (fun j y hj hy => by
  have hjl : j < l.length := by omega
  have hje : j < es.size := by omega
  have hy' : es[j] = y := by simpa [hje] using hy
  exact ⟨l[j].name, by rw [← hy']; exact (he j hjl hje).1, hf j hj⟩)
 rw [Nat.zero_add, hv] at hfind
 have hc : (Instr.checkKey es.isEmpty 10000 kt (.string l[i].name)).run Tryz.prog w = .ok () w := MapKept.run_checkKey (k := .string l[i].name) hk (by simp [IsKey]) _ 9999
 simp [Instr.lookup, run_underlying hm, MapKept.run_getObj_map hb, hc, MapKept.run_findKey hk hfind, Result.andThen]

section
variable {ops : Array Oper} {rest : List Oper} {o : Oper} {a : Act} {Q : Exit → Act → World → Prop}
theorem wpList_insert_row (w : World) (hg : o.guard = none) (m x u : Operand) (t : TypeId) (hop : o.op = Op.insert t m x u ∨ o.op = Op.mapUpdate t m x u) {b kt et : Nat} {l : List Row} (hm : a.eval m = .map (some b)) (h : TableAt w b l) (r : Row) (v : Value) (hx : a.eval x = .string r.name) (hv : a.eval u = .agg #[.int .i64 r.least, .int .i64 r.most, .string r.kinds, v]) (hr : RowFn w v r) (hf : Fresh r.name l) (ht : Tryz.prog.underlying t = some (.map kt et)) (hk : Tryz.prog.underlying kt = some .string)
  (hK : ∀ w', TableAt w' b (l ++ [r]) → w.grownBy w' (some b) → wpList Tryz.prog ops Q rest (a.put o.dst undef) w') :
  wpList Tryz.prog ops Q (o :: rest) a w := by
 refine wpList_plain hg fun K' hK' => ?_
 obtain ⟨w', hrun, r1, r2⟩ := h.store r v hr hf ht hk
 unfold Oper.wp
 rcases hop with hop | hop
 ·simp [execOp, hop, hm, hx, hv, hrun, Result.andThen]
  exact hK' _ _ (hK w' r1 r2)
 ·simp [execOp, hop, hm, hx, hv, hrun, Result.andThen]
  exact hK' _ _ (hK w' r1 r2)
end

end Go.Proofs.YtkghpiaoggljjaaGreatDoor.Num.Fl

/- package value: the closure that Run hands to Lift, at flook. Conditions: the tables lie as they are laid. -/
namespace Go.Proofs.YtkghpiaoggljjaaGreatDoor.Num.Fl
open Go.RowKit Go.Lib Go.MapKept Num

set_option maxHeartbeats 4000000 in
set_option maxRecDepth 100000 in
theorem run1_value (pb f e : Nat) (sl : Value) (k : Int) (n d t : ByteArray) (on : Bool) (c : Int) (A : Option Addr) (L C : Nat) (w : World) (hs : ∃ a l c, sl = .slice a l c) (hc : w.cell? ⟨pb, 3, none⟩ = some (.func (.func 118) #[] #[.pointer (some ⟨e, 0, none⟩)])) (hE : Env w)
  (hF : ∀ W, Below w.heap.size w W → Calls Tryz.prog 118 #[sl, .pointer (some ⟨e, 0, none⟩)] W fun e w' => e = .returned (.agg #[.int .i64 k, .string n, .string d, .string t, .bool on, .int .i64 c, .int .i64 0, .int .i64 0, .slice A L C]) ∧ Below W.heap.size W w') :
  Calls Tryz.prog 32 #[sl, .pointer (some ⟨pb, 0, none⟩)] w fun e w' => e = .returned (.agg #[.int .i64 k, .string n, .string d, .string t, .bool on, .int .i64 c, .int .i64 0, .int .i64 0, .slice A L C]) ∧ Below w.heap.size w w' := by
 obtain ⟨sa, slen, sc, rfl⟩ := hs
 have hmf : ∀ (fn : Fn) (first cap : Array Value) (w : World), (Instr.makeFunc fn first cap).run Tryz.prog w = .ok (.func fn first cap) w := fun _ _ _ _ => rfl
 have hb : Below w.heap.size w (w.alloc (.cells #[.int .i64 0, .string { data := #[] }, .string { data := #[] }, .string { data := #[] }, .bool false, .int .i64 0, .int .i64 0, .int .i64 0, .slice none 0 0] 27)) := (Below.refl _ _).alloc (Nat.le_refl _) _
 have HR := Lib.hid (heap_alloc_new w (.cells #[.int .i64 0, .string { data := #[] }, .string { data := #[] }, .string { data := #[] }, .bool false, .int .i64 0, .int .i64 0, .int .i64 0, .slice none 0 0] 27))
 have HX := Lib.hid (cell_below hc hb)
 have HL := Lib.hid hb
 have HE := Lib.hid (hE.below hb)
 have TF := Lib.hid (hF _ hb)
 clear hb hc hE hF
 obtain x3 := HX.out
 go_enter_defers Tryz.func32, Tryz.ntmps32
 go_wp2_with fail
 refine TF.out.mono ?_
 rintro e w1 ⟨rfl, hb⟩
 replace HR := Lib.hid (keep_block HR.out hb)
 replace HE := Lib.hid (HE.out.below hb)
 replace HL := Lib.hid (HL.out.trans (hb.mono HL.out.size))
 clear hb
 obtain ⟨⟨r0, r1, r2, r3, r4, r5, r6, r7, r8⟩, g0, g1, g2, g3, g4, g5, g6, g7, g8⟩ := nine_at HR.out
 have HR2 := Lib.hid (set9_at HR.out (.int .i64 k) (.string n) (.string d) (.string t) (.bool on) (.int .i64 c) (.int .i64 0) (.int .i64 0) (.slice A L C))
 have HL2 := Lib.hid (nine_end (x0 := (.int .i64 k)) (x1 := (.string n)) (x2 := (.string d)) (x3 := (.string t)) (x4 := (.bool on)) (x5 := (.int .i64 c)) (x6 := (.int .i64 0)) (x7 := (.int .i64 0)) (x8 := (.slice A L C)) HR.out HL.out (Nat.le_refl _)).1
 go_wp2_with fail
 obtain ⟨W2, hW2⟩ : ∃ W2, (((((((((w1.setCell ⟨w.heap.size, 0, none⟩ (.int .i64 k)).setCell ⟨w.heap.size, 1, none⟩ (.string n)).setCell ⟨w.heap.size, 2, none⟩ (.string d)).setCell ⟨w.heap.size, 3, none⟩ (.string t)).setCell ⟨w.heap.size, 4, none⟩ (.bool on)).setCell ⟨w.heap.size, 5, none⟩ (.int .i64 c)).setCell ⟨w.heap.size, 6, none⟩ (.int .i64 0)).setCell ⟨w.heap.size, 7, none⟩ (.int .i64 0)).setCell ⟨w.heap.size, 8, none⟩ (.slice A L C)) = W2 := ⟨_, rfl⟩
 rw [hW2] at HR2 HL2 ⊢
 clear hW2 r0 r1 r2 r3 r4 r5 r6 r7 r8 g0 g1 g2 g3 g4 g5 g6 g7 g8
 obtain ⟨⟨r0, r1, r2, r3, r4, r5, r6, r7, r8⟩, g0, g1, g2, g3, g4, g5, g6, g7, g8⟩ := nine_at HR2.out
 go_quiet (fail)
 have HR3 := Lib.hid (show (W2.drewN nq).heap[w.heap.size]? = _ from HR2.out)
 obtain ⟨nb, e0, e1, e2, e3, e4, e5, e6, e7, e8⟩ := nine_end (x0 := (.int .i64 k)) (x1 := (.string n)) (x2 := (.string d)) (x3 := (.string t)) (x4 := (.bool on)) (x5 := (.int .i64 c)) (x6 := (.int .i64 0)) (x7 := (.int .i64 0)) (x8 := (.slice A L C)) HR3.out (below_drewN HL2.out nq) (Nat.le_refl _)
 go_wp2
 refine leaves_cons (f := 33) (args := #[.pointer (some ⟨w.heap.size, 0, none⟩)]) (by simp) (by simp [go_sem]) ?_
 refine (idle_any _ _).mono ?_
 rintro e u' w3 ⟨rfl, rfl, rfl⟩
 exact ⟨_, (by simp [results, Tryz.results32, go_sem, e0, e1, e2, e3, e4, e5, e6, e7, e8]), rfl, nb⟩

end Go.Proofs.YtkghpiaoggljjaaGreatDoor.Num.Fl
