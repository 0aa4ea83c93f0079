/- Numbers as texts of digits, fractions, values and the functions of fmath: contracts of the program's functions, joined from smaller texts. Conditions stand at each theorem. -/
import Derived.Test.YtkghpiaoggljjaaGreatDoorSobA

/- The library's sort of a row of numbers: merging two runs beside each other (a right run of one). Conditions: the row is the call's own; the comparison is an order. -/
namespace Go.Proofs.YtkghpiaoggljjaaGreatDoor.Num.Mt
open Go.RowKit Go.Lib Num
attribute [local irreducible] wpOp
set_option linter.unusedVariables false in
/-- what the operations of region 17 yield -/
def MRyKs17 (g : Nat) (cb : Array Value) (cf : Nat → Nat → Int) (B n cap a b m i h x y : Nat) : List RK :=
 [.pure (.func (.func g) #[] cb),
  .pure (.slice (some ⟨B, 0, none⟩) n cap),
  .pure (.int .i64 (m : Int)),
  .pure (.pointer (some ⟨B, m, none⟩)),
  .pure (.int .i64 (x : Int)),
  .pure (.slice (some ⟨B, 0, none⟩) n cap),
  .pure (.int .i64 (h : Int)),
  .pure (.pointer (some ⟨B, h, none⟩)),
  .pure (.int .i64 (y : Int)),
  .pure (.int .i64 (cf x y)),
  .pure (.bool true),
  .pure (.bool false)]
set_option linter.unusedVariables false in
/-- what the operations of region 17 yield -/
def MRnKs17 (g : Nat) (cb : Array Value) (cf : Nat → Nat → Int) (B n cap a b m i h x y : Nat) : List RK :=
 [.pure (.func (.func g) #[] cb),
  .pure (.slice (some ⟨B, 0, none⟩) n cap),
  .pure (.int .i64 (m : Int)),
  .pure (.pointer (some ⟨B, m, none⟩)),
  .pure (.int .i64 (x : Int)),
  .pure (.slice (some ⟨B, 0, none⟩) n cap),
  .pure (.int .i64 (h : Int)),
  .pure (.pointer (some ⟨B, h, none⟩)),
  .pure (.int .i64 (y : Int)),
  .pure (.int .i64 (cf x y)),
  .pure (.bool false),
  .pure (.bool true)]
set_option maxHeartbeats 8000000 in
set_option maxRecDepth 100000 in
theorem merge_right (w : World) (B n cap g : Nat) (cb : Array Value) (cf : Nat → Nat → Int) (hO : Ord cf n) (eg : ∀ args w, (callFunc g args).run Tryz.prog w = .ok (.enter g args) w) (hcmp : CmpOk g cb cf w B n) (hn : n ≤ 1000)
  (d : Nat → Nat) (t a m b : Nat) (W : World) (hI : SI w B n d W) (_ham : a < m) (hmb : m < b) (hb : b ≤ n) (hd : ∀ i, i < n → d i < n) (hR : Runs cf d t a m b) (h1 : a + 1 < m) (hm : b ≤ m + 1) :
  Calls Tryz.prog 290 #[.slice (some ⟨B, 0, none⟩) n cap, .int .i64 (a : Int), .int .i64 (m : Int), .int .i64 (b : Int), .func (.func g) #[] cb] W fun e w' => e = .returned (.tuple #[]) ∧ ∃ d', SI w B n d' w' ∧ Mv d' d n a b ∧ SortedOn cf d' a b := by
 have HI := Lib.hid hI
 have HO := Lib.hid hO
 have HD := Lib.hid hd
 have HR := Lib.hid hR
 have HCMP := Lib.hid hcmp
 have e1 : ((m : Int) - (a : Int) == 1) = false := by rw [beq_eq_false_iff_ne]; omega
 have e2 : (b : Int) - (m : Int) = 1 := by omega
 clear hI hO hd hR hcmp
 go_enter Tryz.func290, Tryz.ntmps290
 go_wp2_with fail
 go_loopg [14, 15] (m - a) (fun gh v10 v11 wx => ∃ i j : Nat, v10 = .int .i64 (i : Int) ∧ v11 = .int .i64 (j : Int) ∧ j - i ≤ gh ∧ a ≤ i ∧ i ≤ j ∧ j ≤ m ∧ SI w B n d wx ∧ (∀ p, a ≤ p → p < i → Lt cf (d p) (d m)) ∧ (∀ p, j ≤ p → p < m → Lt cf (d m) (d p)))
 case atStart => exact ⟨a, m, rfl, rfl, Nat.le_refl _, Nat.le_refl _, by omega, Nat.le_refl _, HI.out, fun p h1 h2 => by omega, fun p h1 h2 => by omega⟩
 case round =>
  obtain ⟨i, j, rfl, rfl, hg, hmi, hij, hjb, hI, hx, hy⟩ := hrel
  have HI2 := Lib.hid hI
  have HX := Lib.hid hx
  have HY := Lib.hid hy
  clear hI hx hy HI e1 e2
  by_cases hlt : i < j
  ·have hd1 : decide ((i : Int) < (j : Int)) = true := decide_eq_true (by omega)
   obtain ⟨h, hh⟩ : ∃ h, (i + j) / 2 = h := ⟨_, rfl⟩
   have hih : i ≤ h := by omega
   have hhj : h < j := by omega
   have hw2 : IntKind.u64.wrap ((i : Int) + (j : Int)) = ((i : Int) + (j : Int)) := IntWalk.u64_in _ (by omega)
   have hw3 : ((i : Int) + (j : Int)) / 2 = (h : Int) := by omega
   have hw4 : IntKind.u64.wrap (h : Int) = (h : Int) := IntWalk.u64_in _ (by omega)
   have hwp : IntKind.i64.wrap (h : Int) = (h : Int) := IntWalk.i64_in _ (by omega)
   clear hh
   obtain ⟨x, ex⟩ : ∃ x, d m = x := ⟨_, rfl⟩
   obtain ⟨y, ey⟩ : ∃ y, d h = y := ⟨_, rfl⟩
   have ex_ := Lib.hid ex
   have ey_ := Lib.hid ey
   have hx_ : Hid (m < n) := Lib.hid (by omega)
   have hy_ : Hid (h < n) := Lib.hid (by omega)
   have bx_ : Hid (x < n) := Lib.hid (by rw [← ex]; exact HD.out m (by omega))
   have by_ : Hid (y < n) := Lib.hid (by rw [← ey]; exact HD.out h (by omega))
   have hyx : Hid (y < x) := Lib.hid (by rw [← ex, ← ey]; exact Nat.lt_of_lt_of_le (HR.out.lo h (by omega) (by omega)) (HR.out.hi m (by omega) (by omega)))
   have hxb := bx_.out
   have hyb := by_.out
   have hi0 : (0 : Int) ≤ (h : Int) := by omega
   have hi1 : (0 : Int) ≤ (m : Int) := by omega
   have hi2 : (h : Int) < (n : Int) := by omega
   have hi3 : (m : Int) < (n : Int) := by omega
   clear ex ey
   by_cases hc : cf x y < 0
   ·skip
    have hcd : decide (cf x y < 0) = true := decide_eq_true hc
    go_wp2_with fail
    have hok : okB 12 (MRyKs17 g cb cf B n cap a b m i h x y) = true := by kernel_rfl
    have hna := noAny_of (ks := (MRyKs17 g cb cf B n cap a b m i h x y)) (by kernel_rfl)
    have hla := lasts_of hna
    refine wp_region_facts_abs (row := none) (w := wr) 12 0 12 [] (MRyKs17 g cb cf B n cap a b m i h x y) [some 92, some 93, some 94, some 95, some 96, some 97, some 98, some 99, some 100, some 101, some 102, some 103] [(4, .func (.func g) #[] cb), (0, .slice (some ⟨B, 0, none⟩) n cap), (2, .int .i64 (m : Int)), (16, .int .i64 (h : Int))] 220 (by kernel_rfl) (by kernel_rfl) (by kernel_rfl) rfl rfl (by decide) rfl (by kernel_rfl) rfl (Nat.le_of_eq rfl) rfl ?ho [u92, u93, u94, u95, u96, u97, u98, u99, u100, u101, u102, u103] ?h00 (Fs.start rfl rfl) ?hs ?hd
    case ho =>
     intro k x hk
     match k, hk with
     | 0, hk => have hk := Option.some.inj hk; subst hk; rfl
     | 1, hk => have hk := Option.some.inj hk; subst hk; rfl
     | 2, hk => have hk := Option.some.inj hk; subst hk; rfl
     | 3, hk => have hk := Option.some.inj hk; subst hk; rfl
     | _ + 4, hk => exact absurd hk (by simp)
    case h00 => simp only [putO, layL]
    case hs =>
     rintro A listed vs Wr hF hR i hi hun hpre
     obtain ⟨s0, s1, s2, s3, s4, s5, s6, s7, s8, s9, s10, s11, hvs⟩ := exl_of 12 vs (fun l => vs = l) hF.len rfl
     subst hvs
     have hge := Nat.zero_le i
     rcases Nat.lt_or_ge i 6 with hi | hge
     ·rcases Nat.lt_or_ge i 3 with hi | hge
      ·rcases Nat.lt_or_ge i 1 with hi | hge
       ·obtain rfl := eqi hi hge
        have ro4 : A.tmps[4]? = some (.func (.func g) #[] cb) := hR.out 0 _ rfl
        refine step_of ⟨some 92, _, _, _, _, _⟩ rfl (fun K' hK => ?_)
        go_simp
        exact hK.out _ _ ⟨_, hF.pure hok hla hpre rfl (Below.refl _ _), rfl⟩
       rcases Nat.lt_or_ge i 2 with hi | hge
       ·obtain rfl := eqi hi hge
        have ro0 : A.tmps[0]? = some (.slice (some ⟨B, 0, none⟩) n cap) := hR.out 1 _ rfl
        refine step_of ⟨some 93, _, _, _, _, _⟩ rfl (fun K' hK => ?_)
        go_simp
        exact hK.out _ _ ⟨_, hF.pure hok hla hpre rfl (Below.refl _ _), rfl⟩
       obtain rfl := eqi hi hge
       have ro2 : A.tmps[2]? = some (.int .i64 (m : Int)) := hR.out 2 _ rfl
       refine step_of ⟨some 94, _, _, _, _, _⟩ rfl (fun K' hK => ?_)
       go_simp
       exact hK.out _ _ ⟨_, hF.pure hok hla hpre rfl (Below.refl _ _), rfl⟩
      rcases Nat.lt_or_ge i 4 with hi | hge
      ·obtain rfl := eqi hi hge
       have p1 := hpre 1 (by kernel_rfl)
       have e1 : s1 = .slice (some ⟨B, 0, none⟩) n cap := hF.get 1 _ rfl (.inr p1)
       subst e1
       have r1 : A.tmps[93]? = some (.slice (some ⟨B, 0, none⟩) n cap) := hR.own 1 _ _ rfl rfl
       have p2 := hpre 2 (by kernel_rfl)
       have e2 : s2 = .int .i64 (m : Int) := hF.get 2 _ rfl (.inr p2)
       subst e2
       have r2 : A.tmps[94]? = some (.int .i64 (m : Int)) := hR.own 2 _ _ rfl rfl
       refine step_of ⟨some 95, _, _, _, _, _⟩ rfl (fun K' hK => ?_)
       go_simp
       exact hK.out _ _ ⟨_, hF.pure hok hla hpre rfl (Below.refl _ _), rfl⟩
      rcases Nat.lt_or_ge i 5 with hi | hge
      ·obtain rfl := eqi hi hge
       have p3 := hpre 3 (by kernel_rfl)
       have e3 : s3 = .pointer (some ⟨B, m, none⟩) := hF.get 3 _ rfl (.inr p3)
       subst e3
       have r3 : A.tmps[95]? = some (.pointer (some ⟨B, m, none⟩)) := hR.own 3 _ _ rfl rfl
       have c0 := HI2.out.cell (below_none hF.low) hx_.out ex_.out
       refine step_of ⟨some 96, _, _, _, _, _⟩ rfl (fun K' hK => ?_)
       go_simp
       exact hK.out _ _ ⟨_, hF.pure hok hla hpre rfl (Below.refl _ _), rfl⟩
      obtain rfl := eqi hi hge
      have ro0 : A.tmps[0]? = some (.slice (some ⟨B, 0, none⟩) n cap) := hR.out 1 _ rfl
      refine step_of ⟨some 97, _, _, _, _, _⟩ rfl (fun K' hK => ?_)
      go_simp
      exact hK.out _ _ ⟨_, hF.pure hok hla hpre rfl (Below.refl _ _), rfl⟩
     rcases Nat.lt_or_ge i 9 with hi | hge
     ·rcases Nat.lt_or_ge i 7 with hi | hge
      ·obtain rfl := eqi hi hge
       have ro16 : A.tmps[16]? = some (.int .i64 (h : Int)) := hR.out 3 _ rfl
       refine step_of ⟨some 98, _, _, _, _, _⟩ rfl (fun K' hK => ?_)
       go_simp
       exact hK.out _ _ ⟨_, hF.pure hok hla hpre rfl (Below.refl _ _), rfl⟩
      rcases Nat.lt_or_ge i 8 with hi | hge
      ·obtain rfl := eqi hi hge
       have p5 := hpre 5 (by kernel_rfl)
       have e5 : s5 = .slice (some ⟨B, 0, none⟩) n cap := hF.get 5 _ rfl (.inr p5)
       subst e5
       have r5 : A.tmps[97]? = some (.slice (some ⟨B, 0, none⟩) n cap) := hR.own 5 _ _ rfl rfl
       have p6 := hpre 6 (by kernel_rfl)
       have e6 : s6 = .int .i64 (h : Int) := hF.get 6 _ rfl (.inr p6)
       subst e6
       have r6 : A.tmps[98]? = some (.int .i64 (h : Int)) := hR.own 6 _ _ rfl rfl
       refine step_of ⟨some 99, _, _, _, _, _⟩ rfl (fun K' hK => ?_)
       go_simp
       exact hK.out _ _ ⟨_, hF.pure hok hla hpre rfl (Below.refl _ _), rfl⟩
      obtain rfl := eqi hi hge
      have p7 := hpre 7 (by kernel_rfl)
      have e7 : s7 = .pointer (some ⟨B, h, none⟩) := hF.get 7 _ rfl (.inr p7)
      subst e7
      have r7 : A.tmps[99]? = some (.pointer (some ⟨B, h, none⟩)) := hR.own 7 _ _ rfl rfl
      have c0 := HI2.out.cell (below_none hF.low) hy_.out ey_.out
      refine step_of ⟨some 100, _, _, _, _, _⟩ rfl (fun K' hK => ?_)
      go_simp
      exact hK.out _ _ ⟨_, hF.pure hok hla hpre rfl (Below.refl _ _), rfl⟩
     rcases Nat.lt_or_ge i 10 with hi | hge
     ·obtain rfl := eqi hi hge
      have p0 := hpre 0 (by kernel_rfl)
      have e0 : s0 = .func (.func g) #[] cb := hF.get 0 _ rfl (.inr p0)
      subst e0
      have r0 : A.tmps[92]? = some (.func (.func g) #[] cb) := hR.own 0 _ _ rfl rfl
      have p4 := hpre 4 (by kernel_rfl)
      have e4 : s4 = .int .i64 (x : Int) := hF.get 4 _ rfl (.inr p4)
      subst e4
      have r4 : A.tmps[96]? = some (.int .i64 (x : Int)) := hR.own 4 _ _ rfl rfl
      have p8 := hpre 8 (by kernel_rfl)
      have e8 : s8 = .int .i64 (y : Int) := hF.get 8 _ rfl (.inr p8)
      subst e8
      have r8 : A.tmps[100]? = some (.int .i64 (y : Int)) := hR.own 8 _ _ rfl rfl
      refine step_of ⟨some 101, _, _, _, _, _⟩ rfl (fun K' hK => ?_)
      go_simp
      (with_reducible refine (HCMP.out.on _ (kept_trans HI2.out.low (kept_below (below_none hF.low))) x y bx_.out by_.out).mono ?_)
      rintro e Wq ⟨rfl, hq⟩
      exact hK.out _ _ ⟨_, hF.pure hok hla hpre rfl hq, rfl⟩
     rcases Nat.lt_or_ge i 11 with hi | hge
     ·obtain rfl := eqi hi hge
      have p9 := hpre 9 (by kernel_rfl)
      have e9 : s9 = .int .i64 (cf x y) := hF.get 9 _ rfl (.inr p9)
      subst e9
      have r9 : A.tmps[101]? = some (.int .i64 (cf x y)) := hR.own 9 _ _ rfl rfl
      refine step_of ⟨some 102, _, _, _, _, _⟩ rfl (fun K' hK => ?_)
      go_simp
      exact hK.out _ _ ⟨_, hF.pure hok hla hpre rfl (Below.refl _ _), rfl⟩
     obtain rfl := eqi hi hge
     have p10 := hpre 10 (by kernel_rfl)
     have e10 : s10 = .bool true := hF.get 10 _ rfl (.inr p10)
     subst e10
     have r10 : A.tmps[102]? = some (.bool true) := hR.own 10 _ _ rfl rfl
     refine step_of ⟨some 103, _, _, _, _, _⟩ rfl (fun K' hK => ?_)
     go_simp
     exact hK.out _ _ ⟨_, hF.pure hok hla hpre rfl (Below.refl _ _), rfl⟩
    case hd =>
     rintro listed vs V hF hall
     obtain ⟨s0, s1, s2, s3, s4, s5, s6, s7, s8, s9, s10, s11, hvs⟩ := exl_of 12 vs (fun l => vs = l) hF.len rfl
     subst hvs
     have e11 : s11 = .bool false := hF.get 11 _ rfl (.inr (hall 11 (by decide)))
     subst e11
     have hq := below_none hF.low
     replace HI2 := Lib.hid (HI2.out.step hq)
     clear hq
     clear hF hall hok hla hna
     refine rest_end ?_
     simp only [putO, layL]
     have HYN := Lib.hid (show ∀ p, h ≤ p → p < m → Lt cf (d m) (d p) from fun p h1 h2 => sorted_ge HO.out HR.out.left (fun k _ hk => HD.out k (by omega)) (by rw [ex_.out]; exact bx_.out) (show a ≤ h by omega) h1 h2 (by rw [ex_.out, ey_.out]; exact less_yes hc))
     clear hc hcd
     go_wp2
     go_roundg (gk - 1)
     case measure => omega
     case rel => exact ⟨i, h, rfl, rfl, by omega, by omega, by omega, by omega, HI2.out, HX.out, HYN.out⟩
   ·skip
    have hcd : decide (cf x y < 0) = false := decide_eq_false hc
    go_wp2_with fail
    have hok : okB 12 (MRnKs17 g cb cf B n cap a b m i h x y) = true := by kernel_rfl
    have hna := noAny_of (ks := (MRnKs17 g cb cf B n cap a b m i h x y)) (by kernel_rfl)
    have hla := lasts_of hna
    refine wp_region_facts_abs (row := none) (w := wr) 12 0 12 [] (MRnKs17 g cb cf B n cap a b m i h x y) [some 92, some 93, some 94, some 95, some 96, some 97, some 98, some 99, some 100, some 101, some 102, some 103] [(4, .func (.func g) #[] cb), (0, .slice (some ⟨B, 0, none⟩) n cap), (2, .int .i64 (m : Int)), (16, .int .i64 (h : Int))] 220 (by kernel_rfl) (by kernel_rfl) (by kernel_rfl) rfl rfl (by decide) rfl (by kernel_rfl) rfl (Nat.le_of_eq rfl) rfl ?ho [u92, u93, u94, u95, u96, u97, u98, u99, u100, u101, u102, u103] ?h00 (Fs.start rfl rfl) ?hs ?hd
    case ho =>
     intro k x hk
     match k, hk with
     | 0, hk => have hk := Option.some.inj hk; subst hk; rfl
     | 1, hk => have hk := Option.some.inj hk; subst hk; rfl
     | 2, hk => have hk := Option.some.inj hk; subst hk; rfl
     | 3, hk => have hk := Option.some.inj hk; subst hk; rfl
     | _ + 4, hk => exact absurd hk (by simp)
    case h00 => simp only [putO, layL]
    case hs =>
     rintro A listed vs Wr hF hR i hi hun hpre
     obtain ⟨s0, s1, s2, s3, s4, s5, s6, s7, s8, s9, s10, s11, hvs⟩ := exl_of 12 vs (fun l => vs = l) hF.len rfl
     subst hvs
     have hge := Nat.zero_le i
     rcases Nat.lt_or_ge i 6 with hi | hge
     ·rcases Nat.lt_or_ge i 3 with hi | hge
      ·rcases Nat.lt_or_ge i 1 with hi | hge
       ·obtain rfl := eqi hi hge
        have ro4 : A.tmps[4]? = some (.func (.func g) #[] cb) := hR.out 0 _ rfl
        refine step_of ⟨some 92, _, _, _, _, _⟩ rfl (fun K' hK => ?_)
        go_simp
        exact hK.out _ _ ⟨_, hF.pure hok hla hpre rfl (Below.refl _ _), rfl⟩
       rcases Nat.lt_or_ge i 2 with hi | hge
       ·obtain rfl := eqi hi hge
        have ro0 : A.tmps[0]? = some (.slice (some ⟨B, 0, none⟩) n cap) := hR.out 1 _ rfl
        refine step_of ⟨some 93, _, _, _, _, _⟩ rfl (fun K' hK => ?_)
        go_simp
        exact hK.out _ _ ⟨_, hF.pure hok hla hpre rfl (Below.refl _ _), rfl⟩
       obtain rfl := eqi hi hge
       have ro2 : A.tmps[2]? = some (.int .i64 (m : Int)) := hR.out 2 _ rfl
       refine step_of ⟨some 94, _, _, _, _, _⟩ rfl (fun K' hK => ?_)
       go_simp
       exact hK.out _ _ ⟨_, hF.pure hok hla hpre rfl (Below.refl _ _), rfl⟩
      rcases Nat.lt_or_ge i 4 with hi | hge
      ·obtain rfl := eqi hi hge
       have p1 := hpre 1 (by kernel_rfl)
       have e1 : s1 = .slice (some ⟨B, 0, none⟩) n cap := hF.get 1 _ rfl (.inr p1)
       subst e1
       have r1 : A.tmps[93]? = some (.slice (some ⟨B, 0, none⟩) n cap) := hR.own 1 _ _ rfl rfl
       have p2 := hpre 2 (by kernel_rfl)
       have e2 : s2 = .int .i64 (m : Int) := hF.get 2 _ rfl (.inr p2)
       subst e2
       have r2 : A.tmps[94]? = some (.int .i64 (m : Int)) := hR.own 2 _ _ rfl rfl
       refine step_of ⟨some 95, _, _, _, _, _⟩ rfl (fun K' hK => ?_)
       go_simp
       exact hK.out _ _ ⟨_, hF.pure hok hla hpre rfl (Below.refl _ _), rfl⟩
      rcases Nat.lt_or_ge i 5 with hi | hge
      ·obtain rfl := eqi hi hge
       have p3 := hpre 3 (by kernel_rfl)
       have e3 : s3 = .pointer (some ⟨B, m, none⟩) := hF.get 3 _ rfl (.inr p3)
       subst e3
       have r3 : A.tmps[95]? = some (.pointer (some ⟨B, m, none⟩)) := hR.own 3 _ _ rfl rfl
       have c0 := HI2.out.cell (below_none hF.low) hx_.out ex_.out
       refine step_of ⟨some 96, _, _, _, _, _⟩ rfl (fun K' hK => ?_)
       go_simp
       exact hK.out _ _ ⟨_, hF.pure hok hla hpre rfl (Below.refl _ _), rfl⟩
      obtain rfl := eqi hi hge
      have ro0 : A.tmps[0]? = some (.slice (some ⟨B, 0, none⟩) n cap) := hR.out 1 _ rfl
      refine step_of ⟨some 97, _, _, _, _, _⟩ rfl (fun K' hK => ?_)
      go_simp
      exact hK.out _ _ ⟨_, hF.pure hok hla hpre rfl (Below.refl _ _), rfl⟩
     rcases Nat.lt_or_ge i 9 with hi | hge
     ·rcases Nat.lt_or_ge i 7 with hi | hge
      ·obtain rfl := eqi hi hge
       have ro16 : A.tmps[16]? = some (.int .i64 (h : Int)) := hR.out 3 _ rfl
       refine step_of ⟨some 98, _, _, _, _, _⟩ rfl (fun K' hK => ?_)
       go_simp
       exact hK.out _ _ ⟨_, hF.pure hok hla hpre rfl (Below.refl _ _), rfl⟩
      rcases Nat.lt_or_ge i 8 with hi | hge
      ·obtain rfl := eqi hi hge
       have p5 := hpre 5 (by kernel_rfl)
       have e5 : s5 = .slice (some ⟨B, 0, none⟩) n cap := hF.get 5 _ rfl (.inr p5)
       subst e5
       have r5 : A.tmps[97]? = some (.slice (some ⟨B, 0, none⟩) n cap) := hR.own 5 _ _ rfl rfl
       have p6 := hpre 6 (by kernel_rfl)
       have e6 : s6 = .int .i64 (h : Int) := hF.get 6 _ rfl (.inr p6)
       subst e6
       have r6 : A.tmps[98]? = some (.int .i64 (h : Int)) := hR.own 6 _ _ rfl rfl
       refine step_of ⟨some 99, _, _, _, _, _⟩ rfl (fun K' hK => ?_)
       go_simp
       exact hK.out _ _ ⟨_, hF.pure hok hla hpre rfl (Below.refl _ _), rfl⟩
      obtain rfl := eqi hi hge
      have p7 := hpre 7 (by kernel_rfl)
      have e7 : s7 = .pointer (some ⟨B, h, none⟩) := hF.get 7 _ rfl (.inr p7)
      subst e7
      have r7 : A.tmps[99]? = some (.pointer (some ⟨B, h, none⟩)) := hR.own 7 _ _ rfl rfl
      have c0 := HI2.out.cell (below_none hF.low) hy_.out ey_.out
      refine step_of ⟨some 100, _, _, _, _, _⟩ rfl (fun K' hK => ?_)
      go_simp
      exact hK.out _ _ ⟨_, hF.pure hok hla hpre rfl (Below.refl _ _), rfl⟩
     rcases Nat.lt_or_ge i 10 with hi | hge
     ·obtain rfl := eqi hi hge
      have p0 := hpre 0 (by kernel_rfl)
      have e0 : s0 = .func (.func g) #[] cb := hF.get 0 _ rfl (.inr p0)
      subst e0
      have r0 : A.tmps[92]? = some (.func (.func g) #[] cb) := hR.own 0 _ _ rfl rfl
      have p4 := hpre 4 (by kernel_rfl)
      have e4 : s4 = .int .i64 (x : Int) := hF.get 4 _ rfl (.inr p4)
      subst e4
      have r4 : A.tmps[96]? = some (.int .i64 (x : Int)) := hR.own 4 _ _ rfl rfl
      have p8 := hpre 8 (by kernel_rfl)
      have e8 : s8 = .int .i64 (y : Int) := hF.get 8 _ rfl (.inr p8)
      subst e8
      have r8 : A.tmps[100]? = some (.int .i64 (y : Int)) := hR.own 8 _ _ rfl rfl
      refine step_of ⟨some 101, _, _, _, _, _⟩ rfl (fun K' hK => ?_)
      go_simp
      (with_reducible refine (HCMP.out.on _ (kept_trans HI2.out.low (kept_below (below_none hF.low))) x y bx_.out by_.out).mono ?_)
      rintro e Wq ⟨rfl, hq⟩
      exact hK.out _ _ ⟨_, hF.pure hok hla hpre rfl hq, rfl⟩
     rcases Nat.lt_or_ge i 11 with hi | hge
     ·obtain rfl := eqi hi hge
      have p9 := hpre 9 (by kernel_rfl)
      have e9 : s9 = .int .i64 (cf x y) := hF.get 9 _ rfl (.inr p9)
      subst e9
      have r9 : A.tmps[101]? = some (.int .i64 (cf x y)) := hR.own 9 _ _ rfl rfl
      refine step_of ⟨some 102, _, _, _, _, _⟩ rfl (fun K' hK => ?_)
      go_simp
      exact hK.out _ _ ⟨_, hF.pure hok hla hpre rfl (Below.refl _ _), rfl⟩
     obtain rfl := eqi hi hge
     have p10 := hpre 10 (by kernel_rfl)
     have e10 : s10 = .bool false := hF.get 10 _ rfl (.inr p10)
     subst e10
     have r10 : A.tmps[102]? = some (.bool false) := hR.own 10 _ _ rfl rfl
     refine step_of ⟨some 103, _, _, _, _, _⟩ rfl (fun K' hK => ?_)
     go_simp
     exact hK.out _ _ ⟨_, hF.pure hok hla hpre rfl (Below.refl _ _), rfl⟩
    case hd =>
     rintro listed vs V hF hall
     obtain ⟨s0, s1, s2, s3, s4, s5, s6, s7, s8, s9, s10, s11, hvs⟩ := exl_of 12 vs (fun l => vs = l) hF.len rfl
     subst hvs
     have e11 : s11 = .bool true := hF.get 11 _ rfl (.inr (hall 11 (by decide)))
     subst e11
     have hq := below_none hF.low
     replace HI2 := Lib.hid (HI2.out.step hq)
     clear hq
     clear hF hall hok hla hna
     refine rest_end ?_
     simp only [putO, layL]
     have HXN := Lib.hid (show ∀ p, a ≤ p → p < h + 1 → Lt cf (d p) (d m) from fun p h1 h2 => sorted_le HO.out HR.out.left (fun k _ hk => HD.out k (by omega)) (by rw [ex_.out]; exact bx_.out) h1 (show p ≤ h by omega) (by omega) (by rw [ex_.out, ey_.out]; exact less_no HO.out bx_.out by_.out hyx.out (by omega)))
     clear hc hcd
     go_wp2
     go_roundg (gk - 1)
     case measure => omega
     case rel => exact ⟨h + 1, j, by go_num, rfl, by omega, by omega, by omega, by omega, HI2.out, HXN.out, HY.out⟩
  ·have hd1 : decide ((i : Int) < (j : Int)) = false := decide_eq_false (by omega)
   obtain rfl : i = j := by omega
   go_wp2_with fail
   go_loopg [17] (m - i) (fun gh v13 wx => ∃ q : Nat, v13 = .int .i64 (q : Int) ∧ i ≤ q ∧ q ≤ m ∧ q = i + gh ∧ SI w B n (ins d q m) wx)
   case atStart => exact ⟨m, rfl, by omega, Nat.le_refl _, by omega, by rw [ins_self]; exact HI2.out⟩
   case round =>
    obtain ⟨q, rfl, haq, hqi, hgq, hI⟩ := hrel
    have HI3 := Lib.hid hI
    have HGQ := Lib.hid hgq
    clear hI HI2 hgq
    by_cases hq : i < q
    ·obtain ⟨p, hp⟩ : ∃ p, q = p + 1 := ⟨q - 1, by omega⟩
     subst hp
     have hd2 : decide ((i : Int) < (p : Int) + 1) = true := decide_eq_true (by omega)
     have hw5 : ((p : Int) + 1 - 1) = (p : Int) := by omega
     obtain ⟨ca, fa⟩ := HI3.out.row (p + 1) (by omega)
     obtain ⟨cbb, fb⟩ := HI3.out.row p (by omega)
     have HS := Lib.hid (HI3.out.swp (i := p + 1) (j := p) (by omega) (by omega) (by omega))
     have HST := Lib.hid (ins_step d p m (by omega))
     rw [HST.out] at HS
     obtain ⟨x, hx⟩ : ∃ x, ins d (p + 1) m (p + 1) = x := ⟨_, rfl⟩
     obtain ⟨y, hy⟩ : ∃ x, ins d (p + 1) m p = x := ⟨_, rfl⟩
     rw [hx] at ca HS
     rw [hy] at cbb HS
     clear hx hy
     go_wp2_with fail
     go_region
     replace HS := Lib.hid (HS.out.drew 1)
     obtain ⟨V, hV⟩ : ∃ Z, ((wr.setCell ⟨B, p + 1, none⟩ (.int .i64 (y : Int))).setCell ⟨B, p, none⟩ (.int .i64 (x : Int))).drew = Z := ⟨_, rfl⟩
     rw [hV]
     replace HS := Lib.hid (show SI w B n (ins d p m) V from by rw [← hV]; exact HS.out)
     clear hV ca cbb fa fb
     go_wp2
     have HQ := HGQ.out
     go_roundg (gk - 1)
     case measure => omega
     case rel => exact ⟨p, rfl, by omega, by omega, by omega, HS.out⟩
    ·have hd2 : decide ((i : Int) < (q : Int)) = false := decide_eq_false (by omega)
     obtain rfl : q = i := by omega
     go_wp2
     try simp only [Exit.inBlock, Exit.then]
     refine bodyPost_ret (results_none rfl _ _ _) rfl ?_
     have hM := Mv.ins d n m (by omega) (m - q) q (by omega)
     have hS := ins_sorted (cf := cf) (d := d) (a := a) (j := q) (i := m) (by omega) (by omega) HR.out.left (fun p h1 h2 => HY.out p h1 h2) (fun p h1 h2 => HX.out p h1 h2)
     rw [show m + 1 = b by omega] at hS hM
     exact ⟨rfl, _, HI3.out, hM.wide (by omega) (Nat.le_refl _), hS⟩
end Go.Proofs.YtkghpiaoggljjaaGreatDoor.Num.Mt

/- The library's sort of a row of numbers: merging two runs beside each other (the plain part). Conditions: the row is the call's own; the comparison is an order. -/
namespace Go.Proofs.YtkghpiaoggljjaaGreatDoor.Num.Mt
open Go.RowKit Go.Lib Num
attribute [local irreducible] wpOp

theorem sorted_congr {cf : Nat → Nat → Int} {d' d : Nat → Nat} {a b : Nat} (h : ∀ i, a ≤ i → i < b → d' i = d i) (s : SortedOn cf d a b) : SortedOn cf d' a b := by
 intro i j h1 h2 h3
 rw [h i h1 (by omega), h j (by omega) h3]
 exact s i j h1 h2 h3
theorem runs_congr {cf : Nat → Nat → Int} {d' d : Nat → Nat} {t a m b : Nat} (h : ∀ i, a ≤ i → i < b → d' i = d i) (ham : a ≤ m) (hmb : m ≤ b) (s : Runs cf d t a m b) : Runs cf d' t a m b :=
 ⟨sorted_congr (fun i h1 h2 => h i h1 (by omega)) s.left, sorted_congr (fun i h1 h2 => h i (by omega) h2) s.right, fun i h1 h2 => by rw [h i h1 (by omega)]; exact s.lo i h1 h2, fun i h1 h2 => by rw [h i (by omega) h2]; exact s.hi i h1 h2⟩
end Go.Proofs.YtkghpiaoggljjaaGreatDoor.Num.Mt

/- The library's sort of a row of numbers: merging two runs beside each other (the general way, the middle in the left run). Conditions: the row is the call's own; the comparison is an order. -/
namespace Go.Proofs.YtkghpiaoggljjaaGreatDoor.Num.Mt
open Go.RowKit Go.Lib Num
attribute [local irreducible] wpOp
set_option linter.unusedVariables false in
/-- what the operations of region 35 yield -/
def HhyKs35 (g : Nat) (cb : Array Value) (cf : Nat → Nat → Int) (B n cap a b m i h p q x y : Nat) : List RK :=
 [.pure (.func (.func g) #[] cb),
  .pure (.slice (some ⟨B, 0, none⟩) n cap),
  .pure (.int .i64 (p : Int)),
  .pure (.int .i64 (h : Int)),
  .pure (.int .i64 (q : Int)),
  .pure (.pointer (some ⟨B, q, none⟩)),
  .pure (.int .i64 (x : Int)),
  .pure (.slice (some ⟨B, 0, none⟩) n cap),
  .pure (.int .i64 (h : Int)),
  .pure (.pointer (some ⟨B, h, none⟩)),
  .pure (.int .i64 (y : Int)),
  .pure (.int .i64 (cf x y)),
  .pure (.bool true),
  .pure (.bool false)]
set_option linter.unusedVariables false in
/-- what the operations of region 35 yield -/
def HhnKs35 (g : Nat) (cb : Array Value) (cf : Nat → Nat → Int) (B n cap a b m i h p q x y : Nat) : List RK :=
 [.pure (.func (.func g) #[] cb),
  .pure (.slice (some ⟨B, 0, none⟩) n cap),
  .pure (.int .i64 (p : Int)),
  .pure (.int .i64 (h : Int)),
  .pure (.int .i64 (q : Int)),
  .pure (.pointer (some ⟨B, q, none⟩)),
  .pure (.int .i64 (x : Int)),
  .pure (.slice (some ⟨B, 0, none⟩) n cap),
  .pure (.int .i64 (h : Int)),
  .pure (.pointer (some ⟨B, h, none⟩)),
  .pure (.int .i64 (y : Int)),
  .pure (.int .i64 (cf x y)),
  .pure (.bool false),
  .pure (.bool true)]
set_option maxHeartbeats 8000000 in
set_option maxRecDepth 100000 in
theorem merge_gen_left (w : World) (B n cap g : Nat) (cb : Array Value) (cf : Nat → Nat → Int) (hO : Ord cf n) (eg : ∀ args w, (callFunc g args).run Tryz.prog w = .ok (.enter g args) w) (hcmp : CmpOk g cb cf w B n) (hn : n ≤ 1000)
  (d : Nat → Nat) (t a m b : Nat) (W : World) (hI : SI w B n d W) (ham : a < m) (hmb : m < b) (hb : b ≤ n) (hd : ∀ i, i < n → d i < n) (hR : Runs cf d t a m b) (h1 : a + 1 < m) (h2 : m + 1 < b) (hq : (a + b) / 2 < m) (IH : ∀ (e : Nat → Nat) (a' m' b' : Nat) (W : World), b' - a' < b - a → SI w B n e W → a' < m' → m' < b' → b' ≤ n → (∀ i, i < n → e i < n) → Runs cf e t a' m' b' → Calls Tryz.prog 290 #[.slice (some ⟨B, 0, none⟩) n cap, .int .i64 (a' : Int), .int .i64 (m' : Int), .int .i64 (b' : Int), .func (.func g) #[] cb] W fun x w' => x = .returned (.tuple #[]) ∧ ∃ d', SI w B n d' w' ∧ Mv d' e n a' b' ∧ SortedOn cf d' a' b') :
  Calls Tryz.prog 290 #[.slice (some ⟨B, 0, none⟩) n cap, .int .i64 (a : Int), .int .i64 (m : Int), .int .i64 (b : Int), .func (.func g) #[] cb] W fun e w' => e = .returned (.tuple #[]) ∧ ∃ d', SI w B n d' w' ∧ Mv d' d n a b ∧ SortedOn cf d' a b := by
 have HI := Lib.hid hI
 have HO := Lib.hid hO
 have HD := Lib.hid hd
 have HR := Lib.hid hR
 have HCMP := Lib.hid hcmp
 have HIH := Lib.hid IH
 have TR := Lib.hid (fun d a m b W hI h1 h2 hb => rotate_any w B n cap g cb d a m b W hI h1 h2 hb hn)
 have e1 : ((m : Int) - (a : Int) == 1) = false := by rw [beq_eq_false_iff_ne]; omega
 have e2 : ((b : Int) - (m : Int) == 1) = false := by rw [beq_eq_false_iff_ne]; omega
 obtain ⟨mid, hmid⟩ : ∃ z, (a + b) / 2 = z := ⟨_, rfl⟩
 have hw2 : IntKind.u64.wrap ((a : Int) + (b : Int)) = ((a : Int) + (b : Int)) := IntWalk.u64_in _ (by omega)
 have hw3 : ((a : Int) + (b : Int)) / 2 = (mid : Int) := by omega
 have hw4 : IntKind.u64.wrap (mid : Int) = (mid : Int) := IntWalk.u64_in _ (by omega)
 have hw5 : IntKind.i64.wrap (mid : Int) = (mid : Int) := IntWalk.i64_in _ (by omega)
 have HMID := Lib.hid hmid
 have am1 : a < mid := by omega
 have am2 : mid < b := by omega
 obtain ⟨p, hp⟩ : ∃ z, mid + m - 1 = z := ⟨_, rfl⟩
 have hpi : (mid : Int) + (m : Int) - 1 = (p : Int) := by omega
 have HP := Lib.hid hp
 obtain ⟨sz, hs0⟩ : ∃ z, mid + m - b = z := ⟨_, rfl⟩
 obtain ⟨rz, hr0⟩ : ∃ z, mid = z := ⟨_, rfl⟩
 have HS0 := Lib.hid hs0
 have HR0 := Lib.hid hr0
 have hd0 : decide ((mid : Int) < (m : Int)) = true := decide_eq_true (by omega)
 have hsi : (mid : Int) + (m : Int) - (b : Int) = (sz : Int) := by omega
 have hd0n : decide (mid < m) = true := decide_eq_true (by omega)
 have HCS : Hid ((m ≤ mid ∧ sz = a ∧ rz = m) ∨ (mid < m ∧ sz = mid + m - b ∧ rz = mid)) := Lib.hid (by omega)
 have as0 : a ≤ sz := by omega
 have rm0 : rz ≤ m := by omega
 have rd0 : rz ≤ mid := by omega
 have sr0 : sz ≤ rz := by omega
 have HPX : Hid (∀ x, x < rz → m ≤ p - x) := Lib.hid (fun x hx => by omega)
 have HPS : Hid (p - sz < b) := Lib.hid (by omega)
 have HPE : Hid (∀ s, sz ≤ s → s ≤ rz → ∃ e, mid + m - s = e ∧ m ≤ e ∧ mid ≤ e ∧ e ≤ b ∧ (mid : Int) + (m : Int) - (s : Int) = (e : Int)) := Lib.hid (fun s _ _ => ⟨_, rfl, by omega, by omega, by omega, by omega⟩)
 have HPL : Hid (rz ≤ p) := Lib.hid (by omega)
 have HPB : Hid (p ≤ 2000) := Lib.hid (by omega)
 have HVF : Hid (mid < m) := Lib.hid (by omega)
 clear hI hO hd hR hcmp hmid hp hs0 hr0 IH
 go_enter Tryz.func290, Tryz.ntmps290
 go_wp2_with fail
 try rw [hd0n]
 go_loopg [20, 21] (rz - sz) (fun gh v10 v11 wx => ∃ i j : Nat, v10 = .int .i64 (i : Int) ∧ v11 = .int .i64 (j : Int) ∧ j - i ≤ gh ∧ sz ≤ i ∧ i ≤ j ∧ j ≤ rz ∧ SI w B n d wx ∧ Sym cf d p sz rz i j)
 case atStart => exact ⟨sz, rz, rfl, by rw [HR0.out], Nat.le_refl _, Nat.le_refl _, sr0, Nat.le_refl _, HI.out, ⟨fun c h1 h2 => by omega, fun c h1 h2 => by omega⟩⟩
 case round =>
  obtain ⟨i, j, rfl, rfl, hg, hmi, hij, hjb, hI, hx⟩ := hrel
  have HI2 := Lib.hid hI
  have HX := Lib.hid hx
  clear hI hx HI e1 e2 hw2 hw3 hw4 hw5
  by_cases hlt : i < j
  ·have hd1 : decide ((i : Int) < (j : Int)) = true := decide_eq_true (by omega)
   obtain ⟨h, hh⟩ : ∃ h, (i + j) / 2 = h := ⟨_, rfl⟩
   have hih : i ≤ h := by omega
   have hhj : h < j := by omega
   have hw2 : IntKind.u64.wrap ((i : Int) + (j : Int)) = ((i : Int) + (j : Int)) := IntWalk.u64_in _ (by omega)
   have hw3 : ((i : Int) + (j : Int)) / 2 = (h : Int) := by omega
   have hw4 : IntKind.u64.wrap (h : Int) = (h : Int) := IntWalk.u64_in _ (by omega)
   have hwp : IntKind.i64.wrap (h : Int) = (h : Int) := IntWalk.i64_in _ (by omega)
   clear hh
   have hqx := HPX.out h (by omega)
   have hqs := HPS.out
   have hpl := HPL.out
   have hpb := HPB.out
   obtain ⟨q, hq⟩ : ∃ q, p - h = q := ⟨_, rfl⟩
   have hqi : (p : Int) - (h : Int) = (q : Int) := by omega
   have HQ := Lib.hid hq
   rw [hq] at hqx
   have hqb : q < b := by omega
   clear hq hqs
   have hwq : IntKind.i64.wrap (q : Int) = (q : Int) := IntWalk.i64_in _ (by omega)
   obtain ⟨x, ex⟩ : ∃ x, d q = x := ⟨_, rfl⟩
   obtain ⟨y, ey⟩ : ∃ y, d h = y := ⟨_, rfl⟩
   have ex_ := Lib.hid ex
   have ey_ := Lib.hid ey
   have hx_ : Hid (q < n) := Lib.hid (by omega)
   have hy_ : Hid (h < n) := Lib.hid (by omega)
   have bx_ : Hid (x < n) := Lib.hid (by rw [← ex]; exact HD.out q (by omega))
   have by_ : Hid (y < n) := Lib.hid (by rw [← ey]; exact HD.out h (by omega))
   have hyx : Hid (y < x) := Lib.hid (by rw [← ex, ← ey]; exact Nat.lt_of_lt_of_le (HR.out.lo h (by omega) (by omega)) (HR.out.hi q (by omega) (by omega)))
   have hxb := bx_.out
   have hyb := by_.out
   have hi0 : (0 : Int) ≤ (h : Int) := by omega
   have hi1 : (0 : Int) ≤ (q : Int) := by omega
   have hi2 : (h : Int) < (n : Int) := by omega
   have hi3 : (q : Int) < (n : Int) := by omega
   clear ex ey
   by_cases hc : cf x y < 0
   ·skip
    have hcd : decide (cf x y < 0) = true := decide_eq_true hc
    go_wp2_with fail
    have hok : okB 14 (HhyKs35 g cb cf B n cap a b m i h p q x y) = true := by kernel_rfl
    have hna := noAny_of (ks := (HhyKs35 g cb cf B n cap a b m i h p q x y)) (by kernel_rfl)
    have hla := lasts_of hna
    refine wp_region_facts_abs (row := none) (w := wr) 14 0 14 [] (HhyKs35 g cb cf B n cap a b m i h p q x y) [some 158, some 159, some 160, some 161, some 162, some 163, some 164, some 165, some 166, some 167, some 168, some 169, some 170, some 171] [(4, .func (.func g) #[] cb), (0, .slice (some ⟨B, 0, none⟩) n cap), (22, .int .i64 (p : Int)), (23, .int .i64 (h : Int))] 220 (by kernel_rfl) (by kernel_rfl) (by kernel_rfl) rfl rfl (by decide) rfl (by kernel_rfl) rfl (Nat.le_of_eq rfl) rfl ?ho [u158, u159, u160, u161, u162, u163, u164, u165, u166, u167, u168, u169, u170, u171] ?h00 (Fs.start rfl rfl) ?hs ?hd
    case ho =>
     intro k x hk
     match k, hk with
     | 0, hk => have hk := Option.some.inj hk; subst hk; rfl
     | 1, hk => have hk := Option.some.inj hk; subst hk; rfl
     | 2, hk => have hk := Option.some.inj hk; subst hk; rfl
     | 3, hk => have hk := Option.some.inj hk; subst hk; rfl
     | _ + 4, hk => exact absurd hk (by simp)
    case h00 => simp only [putO, layL]
    case hs =>
     rintro A listed vs Wr hF hR i hi hun hpre
     obtain ⟨s0, s1, s2, s3, s4, s5, s6, s7, s8, s9, s10, s11, s12, s13, hvs⟩ := exl_of 14 vs (fun l => vs = l) hF.len rfl
     subst hvs
     have hge := Nat.zero_le i
     rcases Nat.lt_or_ge i 7 with hi | hge
     ·rcases Nat.lt_or_ge i 3 with hi | hge
      ·rcases Nat.lt_or_ge i 1 with hi | hge
       ·obtain rfl := eqi hi hge
        have ro4 : A.tmps[4]? = some (.func (.func g) #[] cb) := hR.out 0 _ rfl
        refine step_of ⟨some 158, _, _, _, _, _⟩ rfl (fun K' hK => ?_)
        go_simp
        exact hK.out _ _ ⟨_, hF.pure hok hla hpre rfl (Below.refl _ _), rfl⟩
       rcases Nat.lt_or_ge i 2 with hi | hge
       ·obtain rfl := eqi hi hge
        have ro0 : A.tmps[0]? = some (.slice (some ⟨B, 0, none⟩) n cap) := hR.out 1 _ rfl
        refine step_of ⟨some 159, _, _, _, _, _⟩ rfl (fun K' hK => ?_)
        go_simp
        exact hK.out _ _ ⟨_, hF.pure hok hla hpre rfl (Below.refl _ _), rfl⟩
       obtain rfl := eqi hi hge
       have ro22 : A.tmps[22]? = some (.int .i64 (p : Int)) := hR.out 2 _ rfl
       refine step_of ⟨some 160, _, _, _, _, _⟩ rfl (fun K' hK => ?_)
       go_simp
       exact hK.out _ _ ⟨_, hF.pure hok hla hpre rfl (Below.refl _ _), rfl⟩
      rcases Nat.lt_or_ge i 5 with hi | hge
      ·rcases Nat.lt_or_ge i 4 with hi | hge
       ·obtain rfl := eqi hi hge
        have ro23 : A.tmps[23]? = some (.int .i64 (h : Int)) := hR.out 3 _ rfl
        refine step_of ⟨some 161, _, _, _, _, _⟩ rfl (fun K' hK => ?_)
        go_simp
        exact hK.out _ _ ⟨_, hF.pure hok hla hpre rfl (Below.refl _ _), rfl⟩
       obtain rfl := eqi hi hge
       have p2 := hpre 2 (by kernel_rfl)
       have e2 : s2 = .int .i64 (p : Int) := hF.get 2 _ rfl (.inr p2)
       subst e2
       have r2 : A.tmps[160]? = some (.int .i64 (p : Int)) := hR.own 2 _ _ rfl rfl
       have p3 := hpre 3 (by kernel_rfl)
       have e3 : s3 = .int .i64 (h : Int) := hF.get 3 _ rfl (.inr p3)
       subst e3
       have r3 : A.tmps[161]? = some (.int .i64 (h : Int)) := hR.own 3 _ _ rfl rfl
       refine step_of ⟨some 162, _, _, _, _, _⟩ rfl (fun K' hK => ?_)
       go_simp
       exact hK.out _ _ ⟨_, hF.pure hok hla hpre rfl (Below.refl _ _), rfl⟩
      rcases Nat.lt_or_ge i 6 with hi | hge
      ·obtain rfl := eqi hi hge
       have p1 := hpre 1 (by kernel_rfl)
       have e1 : s1 = .slice (some ⟨B, 0, none⟩) n cap := hF.get 1 _ rfl (.inr p1)
       subst e1
       have r1 : A.tmps[159]? = some (.slice (some ⟨B, 0, none⟩) n cap) := hR.own 1 _ _ rfl rfl
       have p4 := hpre 4 (by kernel_rfl)
       have e4 : s4 = .int .i64 (q : Int) := hF.get 4 _ rfl (.inr p4)
       subst e4
       have r4 : A.tmps[162]? = some (.int .i64 (q : Int)) := hR.own 4 _ _ rfl rfl
       refine step_of ⟨some 163, _, _, _, _, _⟩ rfl (fun K' hK => ?_)
       go_simp
       exact hK.out _ _ ⟨_, hF.pure hok hla hpre rfl (Below.refl _ _), rfl⟩
      obtain rfl := eqi hi hge
      have p5 := hpre 5 (by kernel_rfl)
      have e5 : s5 = .pointer (some ⟨B, q, none⟩) := hF.get 5 _ rfl (.inr p5)
      subst e5
      have r5 : A.tmps[163]? = some (.pointer (some ⟨B, q, none⟩)) := hR.own 5 _ _ rfl rfl
      have c0 := HI2.out.cell (below_none hF.low) hx_.out ex_.out
      refine step_of ⟨some 164, _, _, _, _, _⟩ rfl (fun K' hK => ?_)
      go_simp
      exact hK.out _ _ ⟨_, hF.pure hok hla hpre rfl (Below.refl _ _), rfl⟩
     rcases Nat.lt_or_ge i 10 with hi | hge
     ·rcases Nat.lt_or_ge i 8 with hi | hge
      ·obtain rfl := eqi hi hge
       have ro0 : A.tmps[0]? = some (.slice (some ⟨B, 0, none⟩) n cap) := hR.out 1 _ rfl
       refine step_of ⟨some 165, _, _, _, _, _⟩ rfl (fun K' hK => ?_)
       go_simp
       exact hK.out _ _ ⟨_, hF.pure hok hla hpre rfl (Below.refl _ _), rfl⟩
      rcases Nat.lt_or_ge i 9 with hi | hge
      ·obtain rfl := eqi hi hge
       have ro23 : A.tmps[23]? = some (.int .i64 (h : Int)) := hR.out 3 _ rfl
       refine step_of ⟨some 166, _, _, _, _, _⟩ rfl (fun K' hK => ?_)
       go_simp
       exact hK.out _ _ ⟨_, hF.pure hok hla hpre rfl (Below.refl _ _), rfl⟩
      obtain rfl := eqi hi hge
      have p7 := hpre 7 (by kernel_rfl)
      have e7 : s7 = .slice (some ⟨B, 0, none⟩) n cap := hF.get 7 _ rfl (.inr p7)
      subst e7
      have r7 : A.tmps[165]? = some (.slice (some ⟨B, 0, none⟩) n cap) := hR.own 7 _ _ rfl rfl
      have p8 := hpre 8 (by kernel_rfl)
      have e8 : s8 = .int .i64 (h : Int) := hF.get 8 _ rfl (.inr p8)
      subst e8
      have r8 : A.tmps[166]? = some (.int .i64 (h : Int)) := hR.own 8 _ _ rfl rfl
      refine step_of ⟨some 167, _, _, _, _, _⟩ rfl (fun K' hK => ?_)
      go_simp
      exact hK.out _ _ ⟨_, hF.pure hok hla hpre rfl (Below.refl _ _), rfl⟩
     rcases Nat.lt_or_ge i 12 with hi | hge
     ·rcases Nat.lt_or_ge i 11 with hi | hge
      ·obtain rfl := eqi hi hge
       have p9 := hpre 9 (by kernel_rfl)
       have e9 : s9 = .pointer (some ⟨B, h, none⟩) := hF.get 9 _ rfl (.inr p9)
       subst e9
       have r9 : A.tmps[167]? = some (.pointer (some ⟨B, h, none⟩)) := hR.own 9 _ _ rfl rfl
       have c0 := HI2.out.cell (below_none hF.low) hy_.out ey_.out
       refine step_of ⟨some 168, _, _, _, _, _⟩ rfl (fun K' hK => ?_)
       go_simp
       exact hK.out _ _ ⟨_, hF.pure hok hla hpre rfl (Below.refl _ _), rfl⟩
      obtain rfl := eqi hi hge
      have p0 := hpre 0 (by kernel_rfl)
      have e0 : s0 = .func (.func g) #[] cb := hF.get 0 _ rfl (.inr p0)
      subst e0
      have r0 : A.tmps[158]? = some (.func (.func g) #[] cb) := hR.own 0 _ _ rfl rfl
      have p6 := hpre 6 (by kernel_rfl)
      have e6 : s6 = .int .i64 (x : Int) := hF.get 6 _ rfl (.inr p6)
      subst e6
      have r6 : A.tmps[164]? = some (.int .i64 (x : Int)) := hR.own 6 _ _ rfl rfl
      have p10 := hpre 10 (by kernel_rfl)
      have e10 : s10 = .int .i64 (y : Int) := hF.get 10 _ rfl (.inr p10)
      subst e10
      have r10 : A.tmps[168]? = some (.int .i64 (y : Int)) := hR.own 10 _ _ rfl rfl
      refine step_of ⟨some 169, _, _, _, _, _⟩ rfl (fun K' hK => ?_)
      go_simp
      (with_reducible refine (HCMP.out.on _ (kept_trans HI2.out.low (kept_below (below_none hF.low))) x y bx_.out by_.out).mono ?_)
      rintro e Wq ⟨rfl, hq⟩
      exact hK.out _ _ ⟨_, hF.pure hok hla hpre rfl hq, rfl⟩
     rcases Nat.lt_or_ge i 13 with hi | hge
     ·obtain rfl := eqi hi hge
      have p11 := hpre 11 (by kernel_rfl)
      have e11 : s11 = .int .i64 (cf x y) := hF.get 11 _ rfl (.inr p11)
      subst e11
      have r11 : A.tmps[169]? = some (.int .i64 (cf x y)) := hR.own 11 _ _ rfl rfl
      refine step_of ⟨some 170, _, _, _, _, _⟩ rfl (fun K' hK => ?_)
      go_simp
      exact hK.out _ _ ⟨_, hF.pure hok hla hpre rfl (Below.refl _ _), rfl⟩
     obtain rfl := eqi hi hge
     have p12 := hpre 12 (by kernel_rfl)
     have e12 : s12 = .bool true := hF.get 12 _ rfl (.inr p12)
     subst e12
     have r12 : A.tmps[170]? = some (.bool true) := hR.own 12 _ _ rfl rfl
     refine step_of ⟨some 171, _, _, _, _, _⟩ rfl (fun K' hK => ?_)
     go_simp
     exact hK.out _ _ ⟨_, hF.pure hok hla hpre rfl (Below.refl _ _), rfl⟩
    case hd =>
     rintro listed vs V hF hall
     obtain ⟨s0, s1, s2, s3, s4, s5, s6, s7, s8, s9, s10, s11, s12, s13, hvs⟩ := exl_of 14 vs (fun l => vs = l) hF.len rfl
     subst hvs
     have e13 : s13 = .bool false := hF.get 13 _ rfl (.inr (hall 13 (by decide)))
     subst e13
     have hq := below_none hF.low
     replace HI2 := Lib.hid (HI2.out.step hq)
     clear hq
     clear hF hall hok hla hna
     refine rest_end ?_
     simp only [putO, layL]
     have HYN : Hid (Sym cf d p sz rz i h) := Lib.hid (Sym.down HO.out HD.out hb HR.out HX.out (by omega) rm0 HPX.out (by rw [HQ.out]; exact hqb) (by rw [HQ.out, ex_.out, ey_.out]; exact less_yes hc))
     clear hc hcd
     go_wp2
     go_roundg (gk - 1)
     case measure => omega
     case rel => exact ⟨i, h, rfl, rfl, by omega, by omega, by omega, by omega, HI2.out, HYN.out⟩
   ·skip
    have hcd : decide (cf x y < 0) = false := decide_eq_false hc
    go_wp2_with fail
    have hok : okB 14 (HhnKs35 g cb cf B n cap a b m i h p q x y) = true := by kernel_rfl
    have hna := noAny_of (ks := (HhnKs35 g cb cf B n cap a b m i h p q x y)) (by kernel_rfl)
    have hla := lasts_of hna
    refine wp_region_facts_abs (row := none) (w := wr) 14 0 14 [] (HhnKs35 g cb cf B n cap a b m i h p q x y) [some 158, some 159, some 160, some 161, some 162, some 163, some 164, some 165, some 166, some 167, some 168, some 169, some 170, some 171] [(4, .func (.func g) #[] cb), (0, .slice (some ⟨B, 0, none⟩) n cap), (22, .int .i64 (p : Int)), (23, .int .i64 (h : Int))] 220 (by kernel_rfl) (by kernel_rfl) (by kernel_rfl) rfl rfl (by decide) rfl (by kernel_rfl) rfl (Nat.le_of_eq rfl) rfl ?ho [u158, u159, u160, u161, u162, u163, u164, u165, u166, u167, u168, u169, u170, u171] ?h00 (Fs.start rfl rfl) ?hs ?hd
    case ho =>
     intro k x hk
     match k, hk with
     | 0, hk => have hk := Option.some.inj hk; subst hk; rfl
     | 1, hk => have hk := Option.some.inj hk; subst hk; rfl
     | 2, hk => have hk := Option.some.inj hk; subst hk; rfl
     | 3, hk => have hk := Option.some.inj hk; subst hk; rfl
     | _ + 4, hk => exact absurd hk (by simp)
    case h00 => simp only [putO, layL]
    case hs =>
     rintro A listed vs Wr hF hR i hi hun hpre
     obtain ⟨s0, s1, s2, s3, s4, s5, s6, s7, s8, s9, s10, s11, s12, s13, hvs⟩ := exl_of 14 vs (fun l => vs = l) hF.len rfl
     subst hvs
     have hge := Nat.zero_le i
     rcases Nat.lt_or_ge i 7 with hi | hge
     ·rcases Nat.lt_or_ge i 3 with hi | hge
      ·rcases Nat.lt_or_ge i 1 with hi | hge
       ·obtain rfl := eqi hi hge
        have ro4 : A.tmps[4]? = some (.func (.func g) #[] cb) := hR.out 0 _ rfl
        refine step_of ⟨some 158, _, _, _, _, _⟩ rfl (fun K' hK => ?_)
        go_simp
        exact hK.out _ _ ⟨_, hF.pure hok hla hpre rfl (Below.refl _ _), rfl⟩
       rcases Nat.lt_or_ge i 2 with hi | hge
       ·obtain rfl := eqi hi hge
        have ro0 : A.tmps[0]? = some (.slice (some ⟨B, 0, none⟩) n cap) := hR.out 1 _ rfl
        refine step_of ⟨some 159, _, _, _, _, _⟩ rfl (fun K' hK => ?_)
        go_simp
        exact hK.out _ _ ⟨_, hF.pure hok hla hpre rfl (Below.refl _ _), rfl⟩
       obtain rfl := eqi hi hge
       have ro22 : A.tmps[22]? = some (.int .i64 (p : Int)) := hR.out 2 _ rfl
       refine step_of ⟨some 160, _, _, _, _, _⟩ rfl (fun K' hK => ?_)
       go_simp
       exact hK.out _ _ ⟨_, hF.pure hok hla hpre rfl (Below.refl _ _), rfl⟩
      rcases Nat.lt_or_ge i 5 with hi | hge
      ·rcases Nat.lt_or_ge i 4 with hi | hge
       ·obtain rfl := eqi hi hge
        have ro23 : A.tmps[23]? = some (.int .i64 (h : Int)) := hR.out 3 _ rfl
        refine step_of ⟨some 161, _, _, _, _, _⟩ rfl (fun K' hK => ?_)
        go_simp
        exact hK.out _ _ ⟨_, hF.pure hok hla hpre rfl (Below.refl _ _), rfl⟩
       obtain rfl := eqi hi hge
       have p2 := hpre 2 (by kernel_rfl)
       have e2 : s2 = .int .i64 (p : Int) := hF.get 2 _ rfl (.inr p2)
       subst e2
       have r2 : A.tmps[160]? = some (.int .i64 (p : Int)) := hR.own 2 _ _ rfl rfl
       have p3 := hpre 3 (by kernel_rfl)
       have e3 : s3 = .int .i64 (h : Int) := hF.get 3 _ rfl (.inr p3)
       subst e3
       have r3 : A.tmps[161]? = some (.int .i64 (h : Int)) := hR.own 3 _ _ rfl rfl
       refine step_of ⟨some 162, _, _, _, _, _⟩ rfl (fun K' hK => ?_)
       go_simp
       exact hK.out _ _ ⟨_, hF.pure hok hla hpre rfl (Below.refl _ _), rfl⟩
      rcases Nat.lt_or_ge i 6 with hi | hge
      ·obtain rfl := eqi hi hge
       have p1 := hpre 1 (by kernel_rfl)
       have e1 : s1 = .slice (some ⟨B, 0, none⟩) n cap := hF.get 1 _ rfl (.inr p1)
       subst e1
       have r1 : A.tmps[159]? = some (.slice (some ⟨B, 0, none⟩) n cap) := hR.own 1 _ _ rfl rfl
       have p4 := hpre 4 (by kernel_rfl)
       have e4 : s4 = .int .i64 (q : Int) := hF.get 4 _ rfl (.inr p4)
       subst e4
       have r4 : A.tmps[162]? = some (.int .i64 (q : Int)) := hR.own 4 _ _ rfl rfl
       refine step_of ⟨some 163, _, _, _, _, _⟩ rfl (fun K' hK => ?_)
       go_simp
       exact hK.out _ _ ⟨_, hF.pure hok hla hpre rfl (Below.refl _ _), rfl⟩
      obtain rfl := eqi hi hge
      have p5 := hpre 5 (by kernel_rfl)
      have e5 : s5 = .pointer (some ⟨B, q, none⟩) := hF.get 5 _ rfl (.inr p5)
      subst e5
      have r5 : A.tmps[163]? = some (.pointer (some ⟨B, q, none⟩)) := hR.own 5 _ _ rfl rfl
      have c0 := HI2.out.cell (below_none hF.low) hx_.out ex_.out
      refine step_of ⟨some 164, _, _, _, _, _⟩ rfl (fun K' hK => ?_)
      go_simp
      exact hK.out _ _ ⟨_, hF.pure hok hla hpre rfl (Below.refl _ _), rfl⟩
     rcases Nat.lt_or_ge i 10 with hi | hge
     ·rcases Nat.lt_or_ge i 8 with hi | hge
      ·obtain rfl := eqi hi hge
       have ro0 : A.tmps[0]? = some (.slice (some ⟨B, 0, none⟩) n cap) := hR.out 1 _ rfl
       refine step_of ⟨some 165, _, _, _, _, _⟩ rfl (fun K' hK => ?_)
       go_simp
       exact hK.out _ _ ⟨_, hF.pure hok hla hpre rfl (Below.refl _ _), rfl⟩
      rcases Nat.lt_or_ge i 9 with hi | hge
      ·obtain rfl := eqi hi hge
       have ro23 : A.tmps[23]? = some (.int .i64 (h : Int)) := hR.out 3 _ rfl
       refine step_of ⟨some 166, _, _, _, _, _⟩ rfl (fun K' hK => ?_)
       go_simp
       exact hK.out _ _ ⟨_, hF.pure hok hla hpre rfl (Below.refl _ _), rfl⟩
      obtain rfl := eqi hi hge
      have p7 := hpre 7 (by kernel_rfl)
      have e7 : s7 = .slice (some ⟨B, 0, none⟩) n cap := hF.get 7 _ rfl (.inr p7)
      subst e7
      have r7 : A.tmps[165]? = some (.slice (some ⟨B, 0, none⟩) n cap) := hR.own 7 _ _ rfl rfl
      have p8 := hpre 8 (by kernel_rfl)
      have e8 : s8 = .int .i64 (h : Int) := hF.get 8 _ rfl (.inr p8)
      subst e8
      have r8 : A.tmps[166]? = some (.int .i64 (h : Int)) := hR.own 8 _ _ rfl rfl
      refine step_of ⟨some 167, _, _, _, _, _⟩ rfl (fun K' hK => ?_)
      go_simp
      exact hK.out _ _ ⟨_, hF.pure hok hla hpre rfl (Below.refl _ _), rfl⟩
     rcases Nat.lt_or_ge i 12 with hi | hge
     ·rcases Nat.lt_or_ge i 11 with hi | hge
      ·obtain rfl := eqi hi hge
       have p9 := hpre 9 (by kernel_rfl)
       have e9 : s9 = .pointer (some ⟨B, h, none⟩) := hF.get 9 _ rfl (.inr p9)
       subst e9
       have r9 : A.tmps[167]? = some (.pointer (some ⟨B, h, none⟩)) := hR.own 9 _ _ rfl rfl
       have c0 := HI2.out.cell (below_none hF.low) hy_.out ey_.out
       refine step_of ⟨some 168, _, _, _, _, _⟩ rfl (fun K' hK => ?_)
       go_simp
       exact hK.out _ _ ⟨_, hF.pure hok hla hpre rfl (Below.refl _ _), rfl⟩
      obtain rfl := eqi hi hge
      have p0 := hpre 0 (by kernel_rfl)
      have e0 : s0 = .func (.func g) #[] cb := hF.get 0 _ rfl (.inr p0)
      subst e0
      have r0 : A.tmps[158]? = some (.func (.func g) #[] cb) := hR.own 0 _ _ rfl rfl
      have p6 := hpre 6 (by kernel_rfl)
      have e6 : s6 = .int .i64 (x : Int) := hF.get 6 _ rfl (.inr p6)
      subst e6
      have r6 : A.tmps[164]? = some (.int .i64 (x : Int)) := hR.own 6 _ _ rfl rfl
      have p10 := hpre 10 (by kernel_rfl)
      have e10 : s10 = .int .i64 (y : Int) := hF.get 10 _ rfl (.inr p10)
      subst e10
      have r10 : A.tmps[168]? = some (.int .i64 (y : Int)) := hR.own 10 _ _ rfl rfl
      refine step_of ⟨some 169, _, _, _, _, _⟩ rfl (fun K' hK => ?_)
      go_simp
      (with_reducible refine (HCMP.out.on _ (kept_trans HI2.out.low (kept_below (below_none hF.low))) x y bx_.out by_.out).mono ?_)
      rintro e Wq ⟨rfl, hq⟩
      exact hK.out _ _ ⟨_, hF.pure hok hla hpre rfl hq, rfl⟩
     rcases Nat.lt_or_ge i 13 with hi | hge
     ·obtain rfl := eqi hi hge
      have p11 := hpre 11 (by kernel_rfl)
      have e11 : s11 = .int .i64 (cf x y) := hF.get 11 _ rfl (.inr p11)
      subst e11
      have r11 : A.tmps[169]? = some (.int .i64 (cf x y)) := hR.own 11 _ _ rfl rfl
      refine step_of ⟨some 170, _, _, _, _, _⟩ rfl (fun K' hK => ?_)
      go_simp
      exact hK.out _ _ ⟨_, hF.pure hok hla hpre rfl (Below.refl _ _), rfl⟩
     obtain rfl := eqi hi hge
     have p12 := hpre 12 (by kernel_rfl)
     have e12 : s12 = .bool false := hF.get 12 _ rfl (.inr p12)
     subst e12
     have r12 : A.tmps[170]? = some (.bool false) := hR.own 12 _ _ rfl rfl
     refine step_of ⟨some 171, _, _, _, _, _⟩ rfl (fun K' hK => ?_)
     go_simp
     exact hK.out _ _ ⟨_, hF.pure hok hla hpre rfl (Below.refl _ _), rfl⟩
    case hd =>
     rintro listed vs V hF hall
     obtain ⟨s0, s1, s2, s3, s4, s5, s6, s7, s8, s9, s10, s11, s12, s13, hvs⟩ := exl_of 14 vs (fun l => vs = l) hF.len rfl
     subst hvs
     have e13 : s13 = .bool true := hF.get 13 _ rfl (.inr (hall 13 (by decide)))
     subst e13
     have hq := below_none hF.low
     replace HI2 := Lib.hid (HI2.out.step hq)
     clear hq
     clear hF hall hok hla hna
     refine rest_end ?_
     simp only [putO, layL]
     have HYN : Hid (Sym cf d p sz rz (h + 1) j) := Lib.hid (Sym.up HO.out HD.out hb HR.out HX.out as0 (by omega) (by rw [HQ.out]; exact hqx) HPS.out (by omega) (by rw [HQ.out, ex_.out, ey_.out]; exact less_no HO.out bx_.out by_.out hyx.out (by omega)))
     clear hc hcd
     go_wp2
     go_roundg (gk - 1)
     case measure => omega
     case rel => exact ⟨h + 1, j, by go_num, rfl, by omega, by omega, by omega, by omega, HI2.out, HYN.out⟩
  ·have hd1 : decide ((i : Int) < (j : Int)) = false := decide_eq_false (by omega)
   obtain rfl : i = j := by omega
   obtain ⟨e, he, hme, hmde, heb, hei⟩ := HPE.out i hmi hjb
   have HRR := Lib.hid (rot_runs HO.out HD.out hb HR.out ham hmb HMID.out.symm HCS.out hmi hjb (by rw [HP.out]; exact HX.out))
   rw [he] at HRR
   have HEE := Lib.hid he
   clear he
   obtain ⟨E, hE⟩ : ∃ E, rot d i m e = E := ⟨_, rfl⟩
   rw [hE] at HRR
   have HE := Lib.hid hE
   clear hE
   have hvf := HVF.out
   have hee := HEE.out
   by_cases hst : i < mid
   ·have hge : m < e := by omega
    have hge2 : mid < e := by omega
    have hge3 : i < m := by omega
    clear hee
    have h1_ : decide ((i : Int) < (m : Int)) = true := decide_eq_true (by omega)
    have h2_ : decide ((m : Int) < (e : Int)) = true := decide_eq_true (by omega)
    have HV := Lib.hid (TR.out d i m e wr HI2.out (by omega) (by omega) (by omega))
    go_wp2_with fail
    refine HV.out.mono ?_
    rintro e1_ w1 ⟨rfl, hs, hm⟩
    rw [HE.out] at hs hm
    have HS1 := Lib.hid hs
    have HM1 := Lib.hid (hm.wide (show a ≤ i by omega) heb)
    clear hs hm
    by_cases hai : a < i
    ·skip
     have h3 : decide ((a : Int) < (i : Int)) = true := decide_eq_true (by omega)
     have h4 : decide ((i : Int) < (mid : Int)) = true := decide_eq_true (by omega)
     have HV := Lib.hid (HIH.out E a i mid w1 (by omega) HS1.out (by omega) (by omega) (by omega) (HM1.out.bound hb HD.out) HRR.out.1)
     go_wp2_with fail
     refine HV.out.mono ?_
     rintro e2 w2 ⟨rfl, F, hs, hm, ht⟩
     have HS2 := Lib.hid hs
     have HM2 := Lib.hid hm
     have HT2 := Lib.hid ht
     clear hs hm ht
     by_cases heB : e < b
     ·skip
      have h5 : decide ((mid : Int) < (e : Int)) = true := decide_eq_true (by omega)
      have h6 : decide ((e : Int) < (b : Int)) = true := decide_eq_true (by omega)
      have HV := Lib.hid (HIH.out F mid e b w2 (by omega) HS2.out (by omega) (by omega) hb (HM2.out.bound (by omega) (HM1.out.bound hb HD.out)) (runs_congr (d := E) (fun i h1 h2 => HM2.out.out i (by omega)) (by omega) (by omega) HRR.out.2.1))
      go_wp2_with fail
      refine HV.out.mono ?_
      rintro e3 w3 ⟨rfl, G, hs, hm, ht⟩
      have HS3 := Lib.hid hs
      have HM3 := Lib.hid hm
      have HT3 := Lib.hid ht
      clear hs hm ht
      go_wp2
      go_end0
      exact ⟨rfl, _, HS3.out, (HM3.out.wide (by omega) (by omega)).trans ((HM2.out.wide (by omega) (by omega)).trans HM1.out), halves HRR.out.2.2 HM2.out HT2.out HM3.out HT3.out⟩
     ·skip
      have h5 : decide ((mid : Int) < (e : Int)) = true := decide_eq_true (by omega)
      have h6 : decide ((e : Int) < (b : Int)) = false := decide_eq_false (by omega)
      have HT3 : Hid (SortedOn cf F mid b) := Lib.hid (sorted_congr (d := E) (fun x h1 h2 => HM2.out.out x (.inr h1)) (fun x y h1 h2 h3 => HRR.out.2.1.left x y h1 h2 (by omega)))
      have HS3 := HS2
      have HM3 := Lib.hid (Mv.refl F n mid b)
      go_wp2
      go_end0
      exact ⟨rfl, _, HS3.out, (HM3.out.wide (by omega) (by omega)).trans ((HM2.out.wide (by omega) (by omega)).trans HM1.out), halves HRR.out.2.2 HM2.out HT2.out HM3.out HT3.out⟩
    ·skip
     have h3 : decide ((a : Int) < (i : Int)) = false := decide_eq_false (by omega)
     have HT1 : Hid (SortedOn cf E a mid) := Lib.hid (fun x y h1 h2 h3 => HRR.out.1.right x y (by omega) h2 h3)
     obtain ⟨F, hF⟩ : ∃ F, E = F := ⟨_, rfl⟩
     have HS2 : Hid (SI w B n F w1) := Lib.hid (by rw [← hF]; exact HS1.out)
     have HM2 : Hid (Mv F E n a mid) := Lib.hid (by rw [← hF]; exact Mv.refl E n a mid)
     have HT2 : Hid (SortedOn cf F a mid) := Lib.hid (by rw [← hF]; exact HT1.out)
     clear hF
     by_cases heB : e < b
     ·skip
      have h5 : decide ((mid : Int) < (e : Int)) = true := decide_eq_true (by omega)
      have h6 : decide ((e : Int) < (b : Int)) = true := decide_eq_true (by omega)
      have HV := Lib.hid (HIH.out F mid e b w1 (by omega) HS2.out (by omega) (by omega) hb (HM2.out.bound (by omega) (HM1.out.bound hb HD.out)) (runs_congr (d := E) (fun i h1 h2 => HM2.out.out i (by omega)) (by omega) (by omega) HRR.out.2.1))
      go_wp2_with fail
      refine HV.out.mono ?_
      rintro e3 w3 ⟨rfl, G, hs, hm, ht⟩
      have HS3 := Lib.hid hs
      have HM3 := Lib.hid hm
      have HT3 := Lib.hid ht
      clear hs hm ht
      go_wp2
      go_end0
      exact ⟨rfl, _, HS3.out, (HM3.out.wide (by omega) (by omega)).trans ((HM2.out.wide (by omega) (by omega)).trans HM1.out), halves HRR.out.2.2 HM2.out HT2.out HM3.out HT3.out⟩
     ·skip
      have h5 : decide ((mid : Int) < (e : Int)) = true := decide_eq_true (by omega)
      have h6 : decide ((e : Int) < (b : Int)) = false := decide_eq_false (by omega)
      have HT3 : Hid (SortedOn cf F mid b) := Lib.hid (sorted_congr (d := E) (fun x h1 h2 => HM2.out.out x (.inr h1)) (fun x y h1 h2 h3 => HRR.out.2.1.left x y h1 h2 (by omega)))
      have HS3 := HS2
      have HM3 := Lib.hid (Mv.refl F n mid b)
      go_wp2
      go_end0
      exact ⟨rfl, _, HS3.out, (HM3.out.wide (by omega) (by omega)).trans ((HM2.out.wide (by omega) (by omega)).trans HM1.out), halves HRR.out.2.2 HM2.out HT2.out HM3.out HT3.out⟩
   ·have hge : e = m := by omega
    have hge2 : mid < e := by omega
    have EQD : Hid (E = d) := Lib.hid (by rw [← HE.out, hge]; exact (rot_none d i m).2)
    have hge4 : a < i := by omega
    have hge5 : e ≤ m := by omega
    have hge6 : e < b := by omega
    clear hee hge
    have h1_ : decide ((i : Int) < (m : Int)) = true := decide_eq_true (by omega)
    have h2_ : decide ((m : Int) < (e : Int)) = false := decide_eq_false (by omega)
    have HS1 : Hid (SI w B n E wr) := Lib.hid (by rw [EQD.out]; exact HI2.out)
    have HM1 : Hid (Mv E d n a b) := Lib.hid (by rw [EQD.out]; exact Mv.refl d n a b)
    have h3 : decide ((a : Int) < (i : Int)) = true := decide_eq_true (by omega)
    have h4 : decide ((i : Int) < (mid : Int)) = false := decide_eq_false (by omega)
    have HT1 : Hid (SortedOn cf E a mid) := Lib.hid (fun x y h1 h2 h3 => HRR.out.1.left x y h1 h2 (by omega))
    obtain ⟨F, hF⟩ : ∃ F, E = F := ⟨_, rfl⟩
    have HS2 : Hid (SI w B n F wr) := Lib.hid (by rw [← hF]; exact HS1.out)
    have HM2 : Hid (Mv F E n a mid) := Lib.hid (by rw [← hF]; exact Mv.refl E n a mid)
    have HT2 : Hid (SortedOn cf F a mid) := Lib.hid (by rw [← hF]; exact HT1.out)
    clear hF
    have h5 : decide ((mid : Int) < (e : Int)) = true := decide_eq_true (by omega)
    have h6 : decide ((e : Int) < (b : Int)) = true := decide_eq_true (by omega)
    have HV := Lib.hid (HIH.out F mid e b wr (by omega) HS2.out (by omega) (by omega) hb (HM2.out.bound (by omega) (HM1.out.bound hb HD.out)) (runs_congr (d := E) (fun i h1 h2 => HM2.out.out i (by omega)) (by omega) (by omega) HRR.out.2.1))
    go_wp2_with fail
    refine HV.out.mono ?_
    rintro e3 w3 ⟨rfl, G, hs, hm, ht⟩
    have HS3 := Lib.hid hs
    have HM3 := Lib.hid hm
    have HT3 := Lib.hid ht
    clear hs hm ht
    go_wp2
    go_end0
    exact ⟨rfl, _, HS3.out, (HM3.out.wide (by omega) (by omega)).trans ((HM2.out.wide (by omega) (by omega)).trans HM1.out), halves HRR.out.2.2 HM2.out HT2.out HM3.out HT3.out⟩
end Go.Proofs.YtkghpiaoggljjaaGreatDoor.Num.Mt
