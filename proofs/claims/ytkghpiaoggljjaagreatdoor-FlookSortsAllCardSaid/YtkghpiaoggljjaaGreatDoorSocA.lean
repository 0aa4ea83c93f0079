/- Numbers as texts of digits, fractions, values and the functions of fmath: contracts of the program's functions, joined from smaller texts. Conditions stand at each theorem. -/
import Derived.Test.YtkghpiaoggljjaaGreatDoorSobB
import Derived.Test.YtkghpiaoggljjaaGreatDoorSobA
import Derived.Test.YtkghpiaoggljjaaGreatDoorNumE
import Derived.Test.YtkghpiaoggljjaaGreatDoorNumG
import Derived.BigQuiet
import Derived.IntWalk
set_option linter.unusedVariables false
set_option linter.unusedSimpArgs false

/- The library's sort of a row of numbers: merging two runs beside each other (the general way, the middle in the right run). Conditions: the row is the call's own; the comparison is an order. -/
namespace Go.Proofs.YtkghpiaoggljjaaGreatDoor.Num.Mt
open Go.RowKit Go.Lib Num
attribute [local irreducible] wpOp
set_option linter.unusedVariables false in
/-- what the operations of region 35 yield -/
def GlyKs35 (g : Nat) (cb : Array Value) (cf : Nat → Nat → Int) (B n cap a b m i h p q x y : Nat) : List RK :=
 [.pure (.func (.func g) #[] cb),
  .pure (.slice (some ⟨B, 0, none⟩) n cap),
  .pure (.int .i64 (p : Int)),
  .pure (.int .i64 (h : Int)),
  .pure (.int .i64 (q : Int)),
  .pure (.pointer (some ⟨B, q, none⟩)),
  .pure (.int .i64 (x : Int)),
  .pure (.slice (some ⟨B, 0, none⟩) n cap),
  .pure (.int .i64 (h : Int)),
  .pure (.pointer (some ⟨B, h, none⟩)),
  .pure (.int .i64 (y : Int)),
  .pure (.int .i64 (cf x y)),
  .pure (.bool true),
  .pure (.bool false)]
set_option linter.unusedVariables false in
/-- what the operations of region 35 yield -/
def GlnKs35 (g : Nat) (cb : Array Value) (cf : Nat → Nat → Int) (B n cap a b m i h p q x y : Nat) : List RK :=
 [.pure (.func (.func g) #[] cb),
  .pure (.slice (some ⟨B, 0, none⟩) n cap),
  .pure (.int .i64 (p : Int)),
  .pure (.int .i64 (h : Int)),
  .pure (.int .i64 (q : Int)),
  .pure (.pointer (some ⟨B, q, none⟩)),
  .pure (.int .i64 (x : Int)),
  .pure (.slice (some ⟨B, 0, none⟩) n cap),
  .pure (.int .i64 (h : Int)),
  .pure (.pointer (some ⟨B, h, none⟩)),
  .pure (.int .i64 (y : Int)),
  .pure (.int .i64 (cf x y)),
  .pure (.bool false),
  .pure (.bool true)]
set_option maxHeartbeats 8000000 in
set_option maxRecDepth 100000 in
theorem merge_gen_right (w : World) (B n cap g : Nat) (cb : Array Value) (cf : Nat → Nat → Int) (hO : Ord cf n) (eg : ∀ args w, (callFunc g args).run Tryz.prog w = .ok (.enter g args) w) (hcmp : CmpOk g cb cf w B n) (hn : n ≤ 1000)
  (d : Nat → Nat) (t a m b : Nat) (W : World) (hI : SI w B n d W) (ham : a < m) (hmb : m < b) (hb : b ≤ n) (hd : ∀ i, i < n → d i < n) (hR : Runs cf d t a m b) (h1 : a + 1 < m) (h2 : m + 1 < b) (hq : m ≤ (a + b) / 2) (IH : ∀ (e : Nat → Nat) (a' m' b' : Nat) (W : World), b' - a' < b - a → SI w B n e W → a' < m' → m' < b' → b' ≤ n → (∀ i, i < n → e i < n) → Runs cf e t a' m' b' → Calls Tryz.prog 290 #[.slice (some ⟨B, 0, none⟩) n cap, .int .i64 (a' : Int), .int .i64 (m' : Int), .int .i64 (b' : Int), .func (.func g) #[] cb] W fun x w' => x = .returned (.tuple #[]) ∧ ∃ d', SI w B n d' w' ∧ Mv d' e n a' b' ∧ SortedOn cf d' a' b') :
  Calls Tryz.prog 290 #[.slice (some ⟨B, 0, none⟩) n cap, .int .i64 (a : Int), .int .i64 (m : Int), .int .i64 (b : Int), .func (.func g) #[] cb] W fun e w' => e = .returned (.tuple #[]) ∧ ∃ d', SI w B n d' w' ∧ Mv d' d n a b ∧ SortedOn cf d' a b := by
 have HI := Lib.hid hI
 have HO := Lib.hid hO
 have HD := Lib.hid hd
 have HR := Lib.hid hR
 have HCMP := Lib.hid hcmp
 have HIH := Lib.hid IH
 have TR := Lib.hid (fun d a m b W hI h1 h2 hb => rotate_any w B n cap g cb d a m b W hI h1 h2 hb hn)
 have e1 : ((m : Int) - (a : Int) == 1) = false := by rw [beq_eq_false_iff_ne]; omega
 have e2 : ((b : Int) - (m : Int) == 1) = false := by rw [beq_eq_false_iff_ne]; omega
 obtain ⟨mid, hmid⟩ : ∃ z, (a + b) / 2 = z := ⟨_, rfl⟩
 have hw2 : IntKind.u64.wrap ((a : Int) + (b : Int)) = ((a : Int) + (b : Int)) := IntWalk.u64_in _ (by omega)
 have hw3 : ((a : Int) + (b : Int)) / 2 = (mid : Int) := by omega
 have hw4 : IntKind.u64.wrap (mid : Int) = (mid : Int) := IntWalk.u64_in _ (by omega)
 have hw5 : IntKind.i64.wrap (mid : Int) = (mid : Int) := IntWalk.i64_in _ (by omega)
 have HMID := Lib.hid hmid
 have am1 : a < mid := by omega
 have am2 : mid < b := by omega
 obtain ⟨p, hp⟩ : ∃ z, mid + m - 1 = z := ⟨_, rfl⟩
 have hpi : (mid : Int) + (m : Int) - 1 = (p : Int) := by omega
 have HP := Lib.hid hp
 obtain ⟨sz, hs0⟩ : ∃ z, a = z := ⟨_, rfl⟩
 obtain ⟨rz, hr0⟩ : ∃ z, m = z := ⟨_, rfl⟩
 have HS0 := Lib.hid hs0
 have HR0 := Lib.hid hr0
 have hd0 : decide ((mid : Int) < (m : Int)) = false := decide_eq_false (by omega)
 have hd0n : decide (mid < m) = false := decide_eq_false (by omega)
 have HCS : Hid ((m ≤ mid ∧ sz = a ∧ rz = m) ∨ (mid < m ∧ sz = mid + m - b ∧ rz = mid)) := Lib.hid (by omega)
 have as0 : a ≤ sz := by omega
 have rm0 : rz ≤ m := by omega
 have rd0 : rz ≤ mid := by omega
 have sr0 : sz ≤ rz := by omega
 have HPX : Hid (∀ x, x < rz → m ≤ p - x) := Lib.hid (fun x hx => by omega)
 have HPS : Hid (p - sz < b) := Lib.hid (by omega)
 have HPE : Hid (∀ s, sz ≤ s → s ≤ rz → ∃ e, mid + m - s = e ∧ m ≤ e ∧ mid ≤ e ∧ e ≤ b ∧ (mid : Int) + (m : Int) - (s : Int) = (e : Int)) := Lib.hid (fun s _ _ => ⟨_, rfl, by omega, by omega, by omega, by omega⟩)
 have HPL : Hid (rz ≤ p) := Lib.hid (by omega)
 have HPB : Hid (p ≤ 2000) := Lib.hid (by omega)
 have HVF : Hid (m ≤ mid) := Lib.hid (by omega)
 clear hI hO hd hR hcmp hmid hp hs0 hr0 IH
 go_enter Tryz.func290, Tryz.ntmps290
 go_wp2_with fail
 try rw [hd0n]
 go_loopg [20, 21] (rz - sz) (fun gh v10 v11 wx => ∃ i j : Nat, v10 = .int .i64 (i : Int) ∧ v11 = .int .i64 (j : Int) ∧ j - i ≤ gh ∧ sz ≤ i ∧ i ≤ j ∧ j ≤ rz ∧ SI w B n d wx ∧ Sym cf d p sz rz i j)
 case atStart => exact ⟨sz, rz, by rw [HS0.out], by rw [HR0.out], Nat.le_refl _, Nat.le_refl _, sr0, Nat.le_refl _, HI.out, ⟨fun c h1 h2 => by omega, fun c h1 h2 => by omega⟩⟩
 case round =>
  obtain ⟨i, j, rfl, rfl, hg, hmi, hij, hjb, hI, hx⟩ := hrel
  have HI2 := Lib.hid hI
  have HX := Lib.hid hx
  clear hI hx HI e1 e2 hw2 hw3 hw4 hw5
  by_cases hlt : i < j
  ·have hd1 : decide ((i : Int) < (j : Int)) = true := decide_eq_true (by omega)
   obtain ⟨h, hh⟩ : ∃ h, (i + j) / 2 = h := ⟨_, rfl⟩
   have hih : i ≤ h := by omega
   have hhj : h < j := by omega
   have hw2 : IntKind.u64.wrap ((i : Int) + (j : Int)) = ((i : Int) + (j : Int)) := IntWalk.u64_in _ (by omega)
   have hw3 : ((i : Int) + (j : Int)) / 2 = (h : Int) := by omega
   have hw4 : IntKind.u64.wrap (h : Int) = (h : Int) := IntWalk.u64_in _ (by omega)
   have hwp : IntKind.i64.wrap (h : Int) = (h : Int) := IntWalk.i64_in _ (by omega)
   clear hh
   have hqx := HPX.out h (by omega)
   have hqs := HPS.out
   have hpl := HPL.out
   have hpb := HPB.out
   obtain ⟨q, hq⟩ : ∃ q, p - h = q := ⟨_, rfl⟩
   have hqi : (p : Int) - (h : Int) = (q : Int) := by omega
   have HQ := Lib.hid hq
   rw [hq] at hqx
   have hqb : q < b := by omega
   clear hq hqs
   have hwq : IntKind.i64.wrap (q : Int) = (q : Int) := IntWalk.i64_in _ (by omega)
   obtain ⟨x, ex⟩ : ∃ x, d q = x := ⟨_, rfl⟩
   obtain ⟨y, ey⟩ : ∃ y, d h = y := ⟨_, rfl⟩
   have ex_ := Lib.hid ex
   have ey_ := Lib.hid ey
   have hx_ : Hid (q < n) := Lib.hid (by omega)
   have hy_ : Hid (h < n) := Lib.hid (by omega)
   have bx_ : Hid (x < n) := Lib.hid (by rw [← ex]; exact HD.out q (by omega))
   have by_ : Hid (y < n) := Lib.hid (by rw [← ey]; exact HD.out h (by omega))
   have hyx : Hid (y < x) := Lib.hid (by rw [← ex, ← ey]; exact Nat.lt_of_lt_of_le (HR.out.lo h (by omega) (by omega)) (HR.out.hi q (by omega) (by omega)))
   have hxb := bx_.out
   have hyb := by_.out
   have hi0 : (0 : Int) ≤ (h : Int) := by omega
   have hi1 : (0 : Int) ≤ (q : Int) := by omega
   have hi2 : (h : Int) < (n : Int) := by omega
   have hi3 : (q : Int) < (n : Int) := by omega
   clear ex ey
   by_cases hc : cf x y < 0
   ·skip
    have hcd : decide (cf x y < 0) = true := decide_eq_true hc
    go_wp2_with fail
    have hok : okB 14 (GlyKs35 g cb cf B n cap a b m i h p q x y) = true := by kernel_rfl
    have hna := noAny_of (ks := (GlyKs35 g cb cf B n cap a b m i h p q x y)) (by kernel_rfl)
    have hla := lasts_of hna
    refine wp_region_facts_abs (row := none) (w := wr) 14 0 14 [] (GlyKs35 g cb cf B n cap a b m i h p q x y) [some 158, some 159, some 160, some 161, some 162, some 163, some 164, some 165, some 166, some 167, some 168, some 169, some 170, some 171] [(4, .func (.func g) #[] cb), (0, .slice (some ⟨B, 0, none⟩) n cap), (22, .int .i64 (p : Int)), (23, .int .i64 (h : Int))] 220 (by kernel_rfl) (by kernel_rfl) (by kernel_rfl) rfl rfl (by decide) rfl (by kernel_rfl) rfl (Nat.le_of_eq rfl) rfl ?ho [u158, u159, u160, u161, u162, u163, u164, u165, u166, u167, u168, u169, u170, u171] ?h00 (Fs.start rfl rfl) ?hs ?hd
    case ho =>
     intro k x hk
     match k, hk with
     | 0, hk => have hk := Option.some.inj hk; subst hk; rfl
     | 1, hk => have hk := Option.some.inj hk; subst hk; rfl
     | 2, hk => have hk := Option.some.inj hk; subst hk; rfl
     | 3, hk => have hk := Option.some.inj hk; subst hk; rfl
     | _ + 4, hk => exact absurd hk (by simp)
    case h00 => simp only [putO, layL]
    case hs =>
     rintro A listed vs Wr hF hR i hi hun hpre
     obtain ⟨s0, s1, s2, s3, s4, s5, s6, s7, s8, s9, s10, s11, s12, s13, hvs⟩ := exl_of 14 vs (fun l => vs = l) hF.len rfl
     subst hvs
     have hge := Nat.zero_le i
     rcases Nat.lt_or_ge i 7 with hi | hge
     ·rcases Nat.lt_or_ge i 3 with hi | hge
      ·rcases Nat.lt_or_ge i 1 with hi | hge
       ·obtain rfl := eqi hi hge
        have ro4 : A.tmps[4]? = some (.func (.func g) #[] cb) := hR.out 0 _ rfl
        refine step_of ⟨some 158, _, _, _, _, _⟩ rfl (fun K' hK => ?_)
        go_simp
        exact hK.out _ _ ⟨_, hF.pure hok hla hpre rfl (Below.refl _ _), rfl⟩
       rcases Nat.lt_or_ge i 2 with hi | hge
       ·obtain rfl := eqi hi hge
        have ro0 : A.tmps[0]? = some (.slice (some ⟨B, 0, none⟩) n cap) := hR.out 1 _ rfl
        refine step_of ⟨some 159, _, _, _, _, _⟩ rfl (fun K' hK => ?_)
        go_simp
        exact hK.out _ _ ⟨_, hF.pure hok hla hpre rfl (Below.refl _ _), rfl⟩
       obtain rfl := eqi hi hge
       have ro22 : A.tmps[22]? = some (.int .i64 (p : Int)) := hR.out 2 _ rfl
       refine step_of ⟨some 160, _, _, _, _, _⟩ rfl (fun K' hK => ?_)
       go_simp
       exact hK.out _ _ ⟨_, hF.pure hok hla hpre rfl (Below.refl _ _), rfl⟩
      rcases Nat.lt_or_ge i 5 with hi | hge
      ·rcases Nat.lt_or_ge i 4 with hi | hge
       ·obtain rfl := eqi hi hge
        have ro23 : A.tmps[23]? = some (.int .i64 (h : Int)) := hR.out 3 _ rfl
        refine step_of ⟨some 161, _, _, _, _, _⟩ rfl (fun K' hK => ?_)
        go_simp
        exact hK.out _ _ ⟨_, hF.pure hok hla hpre rfl (Below.refl _ _), rfl⟩
       obtain rfl := eqi hi hge
       have p2 := hpre 2 (by kernel_rfl)
       have e2 : s2 = .int .i64 (p : Int) := hF.get 2 _ rfl (.inr p2)
       subst e2
       have r2 : A.tmps[160]? = some (.int .i64 (p : Int)) := hR.own 2 _ _ rfl rfl
       have p3 := hpre 3 (by kernel_rfl)
       have e3 : s3 = .int .i64 (h : Int) := hF.get 3 _ rfl (.inr p3)
       subst e3
       have r3 : A.tmps[161]? = some (.int .i64 (h : Int)) := hR.own 3 _ _ rfl rfl
       refine step_of ⟨some 162, _, _, _, _, _⟩ rfl (fun K' hK => ?_)
       go_simp
       exact hK.out _ _ ⟨_, hF.pure hok hla hpre rfl (Below.refl _ _), rfl⟩
      rcases Nat.lt_or_ge i 6 with hi | hge
      ·obtain rfl := eqi hi hge
       have p1 := hpre 1 (by kernel_rfl)
       have e1 : s1 = .slice (some ⟨B, 0, none⟩) n cap := hF.get 1 _ rfl (.inr p1)
       subst e1
       have r1 : A.tmps[159]? = some (.slice (some ⟨B, 0, none⟩) n cap) := hR.own 1 _ _ rfl rfl
       have p4 := hpre 4 (by kernel_rfl)
       have e4 : s4 = .int .i64 (q : Int) := hF.get 4 _ rfl (.inr p4)
       subst e4
       have r4 : A.tmps[162]? = some (.int .i64 (q : Int)) := hR.own 4 _ _ rfl rfl
       refine step_of ⟨some 163, _, _, _, _, _⟩ rfl (fun K' hK => ?_)
       go_simp
       exact hK.out _ _ ⟨_, hF.pure hok hla hpre rfl (Below.refl _ _), rfl⟩
      obtain rfl := eqi hi hge
      have p5 := hpre 5 (by kernel_rfl)
      have e5 : s5 = .pointer (some ⟨B, q, none⟩) := hF.get 5 _ rfl (.inr p5)
      subst e5
      have r5 : A.tmps[163]? = some (.pointer (some ⟨B, q, none⟩)) := hR.own 5 _ _ rfl rfl
      have c0 := HI2.out.cell (below_none hF.low) hx_.out ex_.out
      refine step_of ⟨some 164, _, _, _, _, _⟩ rfl (fun K' hK => ?_)
      go_simp
      exact hK.out _ _ ⟨_, hF.pure hok hla hpre rfl (Below.refl _ _), rfl⟩
     rcases Nat.lt_or_ge i 10 with hi | hge
     ·rcases Nat.lt_or_ge i 8 with hi | hge
      ·obtain rfl := eqi hi hge
       have ro0 : A.tmps[0]? = some (.slice (some ⟨B, 0, none⟩) n cap) := hR.out 1 _ rfl
       refine step_of ⟨some 165, _, _, _, _, _⟩ rfl (fun K' hK => ?_)
       go_simp
       exact hK.out _ _ ⟨_, hF.pure hok hla hpre rfl (Below.refl _ _), rfl⟩
      rcases Nat.lt_or_ge i 9 with hi | hge
      ·obtain rfl := eqi hi hge
       have ro23 : A.tmps[23]? = some (.int .i64 (h : Int)) := hR.out 3 _ rfl
       refine step_of ⟨some 166, _, _, _, _, _⟩ rfl (fun K' hK => ?_)
       go_simp
       exact hK.out _ _ ⟨_, hF.pure hok hla hpre rfl (Below.refl _ _), rfl⟩
      obtain rfl := eqi hi hge
      have p7 := hpre 7 (by kernel_rfl)
      have e7 : s7 = .slice (some ⟨B, 0, none⟩) n cap := hF.get 7 _ rfl (.inr p7)
      subst e7
      have r7 : A.tmps[165]? = some (.slice (some ⟨B, 0, none⟩) n cap) := hR.own 7 _ _ rfl rfl
      have p8 := hpre 8 (by kernel_rfl)
      have e8 : s8 = .int .i64 (h : Int) := hF.get 8 _ rfl (.inr p8)
      subst e8
      have r8 : A.tmps[166]? = some (.int .i64 (h : Int)) := hR.own 8 _ _ rfl rfl
      refine step_of ⟨some 167, _, _, _, _, _⟩ rfl (fun K' hK => ?_)
      go_simp
      exact hK.out _ _ ⟨_, hF.pure hok hla hpre rfl (Below.refl _ _), rfl⟩
     rcases Nat.lt_or_ge i 12 with hi | hge
     ·rcases Nat.lt_or_ge i 11 with hi | hge
      ·obtain rfl := eqi hi hge
       have p9 := hpre 9 (by kernel_rfl)
       have e9 : s9 = .pointer (some ⟨B, h, none⟩) := hF.get 9 _ rfl (.inr p9)
       subst e9
       have r9 : A.tmps[167]? = some (.pointer (some ⟨B, h, none⟩)) := hR.own 9 _ _ rfl rfl
       have c0 := HI2.out.cell (below_none hF.low) hy_.out ey_.out
       refine step_of ⟨some 168, _, _, _, _, _⟩ rfl (fun K' hK => ?_)
       go_simp
       exact hK.out _ _ ⟨_, hF.pure hok hla hpre rfl (Below.refl _ _), rfl⟩
      obtain rfl := eqi hi hge
      have p0 := hpre 0 (by kernel_rfl)
      have e0 : s0 = .func (.func g) #[] cb := hF.get 0 _ rfl (.inr p0)
      subst e0
      have r0 : A.tmps[158]? = some (.func (.func g) #[] cb) := hR.own 0 _ _ rfl rfl
      have p6 := hpre 6 (by kernel_rfl)
      have e6 : s6 = .int .i64 (x : Int) := hF.get 6 _ rfl (.inr p6)
      subst e6
      have r6 : A.tmps[164]? = some (.int .i64 (x : Int)) := hR.own 6 _ _ rfl rfl
      have p10 := hpre 10 (by kernel_rfl)
      have e10 : s10 = .int .i64 (y : Int) := hF.get 10 _ rfl (.inr p10)
      subst e10
      have r10 : A.tmps[168]? = some (.int .i64 (y : Int)) := hR.own 10 _ _ rfl rfl
      refine step_of ⟨some 169, _, _, _, _, _⟩ rfl (fun K' hK => ?_)
      go_simp
      (with_reducible refine (HCMP.out.on _ (kept_trans HI2.out.low (kept_below (below_none hF.low))) x y bx_.out by_.out).mono ?_)
      rintro e Wq ⟨rfl, hq⟩
      exact hK.out _ _ ⟨_, hF.pure hok hla hpre rfl hq, rfl⟩
     rcases Nat.lt_or_ge i 13 with hi | hge
     ·obtain rfl := eqi hi hge
      have p11 := hpre 11 (by kernel_rfl)
      have e11 : s11 = .int .i64 (cf x y) := hF.get 11 _ rfl (.inr p11)
      subst e11
      have r11 : A.tmps[169]? = some (.int .i64 (cf x y)) := hR.own 11 _ _ rfl rfl
      refine step_of ⟨some 170, _, _, _, _, _⟩ rfl (fun K' hK => ?_)
      go_simp
      exact hK.out _ _ ⟨_, hF.pure hok hla hpre rfl (Below.refl _ _), rfl⟩
     obtain rfl := eqi hi hge
     have p12 := hpre 12 (by kernel_rfl)
     have e12 : s12 = .bool true := hF.get 12 _ rfl (.inr p12)
     subst e12
     have r12 : A.tmps[170]? = some (.bool true) := hR.own 12 _ _ rfl rfl
     refine step_of ⟨some 171, _, _, _, _, _⟩ rfl (fun K' hK => ?_)
     go_simp
     exact hK.out _ _ ⟨_, hF.pure hok hla hpre rfl (Below.refl _ _), rfl⟩
    case hd =>
     rintro listed vs V hF hall
     obtain ⟨s0, s1, s2, s3, s4, s5, s6, s7, s8, s9, s10, s11, s12, s13, hvs⟩ := exl_of 14 vs (fun l => vs = l) hF.len rfl
     subst hvs
     have e13 : s13 = .bool false := hF.get 13 _ rfl (.inr (hall 13 (by decide)))
     subst e13
     have hq := below_none hF.low
     replace HI2 := Lib.hid (HI2.out.step hq)
     clear hq
     clear hF hall hok hla hna
     refine rest_end ?_
     simp only [putO, layL]
     have HYN : Hid (Sym cf d p sz rz i h) := Lib.hid (Sym.down HO.out HD.out hb HR.out HX.out (by omega) rm0 HPX.out (by rw [HQ.out]; exact hqb) (by rw [HQ.out, ex_.out, ey_.out]; exact less_yes hc))
     clear hc hcd
     go_wp2
     go_roundg (gk - 1)
     case measure => omega
     case rel => exact ⟨i, h, rfl, rfl, by omega, by omega, by omega, by omega, HI2.out, HYN.out⟩
   ·skip
    have hcd : decide (cf x y < 0) = false := decide_eq_false hc
    go_wp2_with fail
    have hok : okB 14 (GlnKs35 g cb cf B n cap a b m i h p q x y) = true := by kernel_rfl
    have hna := noAny_of (ks := (GlnKs35 g cb cf B n cap a b m i h p q x y)) (by kernel_rfl)
    have hla := lasts_of hna
    refine wp_region_facts_abs (row := none) (w := wr) 14 0 14 [] (GlnKs35 g cb cf B n cap a b m i h p q x y) [some 158, some 159, some 160, some 161, some 162, some 163, some 164, some 165, some 166, some 167, some 168, some 169, some 170, some 171] [(4, .func (.func g) #[] cb), (0, .slice (some ⟨B, 0, none⟩) n cap), (22, .int .i64 (p : Int)), (23, .int .i64 (h : Int))] 220 (by kernel_rfl) (by kernel_rfl) (by kernel_rfl) rfl rfl (by decide) rfl (by kernel_rfl) rfl (Nat.le_of_eq rfl) rfl ?ho [u158, u159, u160, u161, u162, u163, u164, u165, u166, u167, u168, u169, u170, u171] ?h00 (Fs.start rfl rfl) ?hs ?hd
    case ho =>
     intro k x hk
     match k, hk with
     | 0, hk => have hk := Option.some.inj hk; subst hk; rfl
     | 1, hk => have hk := Option.some.inj hk; subst hk; rfl
     | 2, hk => have hk := Option.some.inj hk; subst hk; rfl
     | 3, hk => have hk := Option.some.inj hk; subst hk; rfl
     | _ + 4, hk => exact absurd hk (by simp)
    case h00 => simp only [putO, layL]
    case hs =>
     rintro A listed vs Wr hF hR i hi hun hpre
     obtain ⟨s0, s1, s2, s3, s4, s5, s6, s7, s8, s9, s10, s11, s12, s13, hvs⟩ := exl_of 14 vs (fun l => vs = l) hF.len rfl
     subst hvs
     have hge := Nat.zero_le i
     rcases Nat.lt_or_ge i 7 with hi | hge
     ·rcases Nat.lt_or_ge i 3 with hi | hge
      ·rcases Nat.lt_or_ge i 1 with hi | hge
       ·obtain rfl := eqi hi hge
        have ro4 : A.tmps[4]? = some (.func (.func g) #[] cb) := hR.out 0 _ rfl
        refine step_of ⟨some 158, _, _, _, _, _⟩ rfl (fun K' hK => ?_)
        go_simp
        exact hK.out _ _ ⟨_, hF.pure hok hla hpre rfl (Below.refl _ _), rfl⟩
       rcases Nat.lt_or_ge i 2 with hi | hge
       ·obtain rfl := eqi hi hge
        have ro0 : A.tmps[0]? = some (.slice (some ⟨B, 0, none⟩) n cap) := hR.out 1 _ rfl
        refine step_of ⟨some 159, _, _, _, _, _⟩ rfl (fun K' hK => ?_)
        go_simp
        exact hK.out _ _ ⟨_, hF.pure hok hla hpre rfl (Below.refl _ _), rfl⟩
       obtain rfl := eqi hi hge
       have ro22 : A.tmps[22]? = some (.int .i64 (p : Int)) := hR.out 2 _ rfl
       refine step_of ⟨some 160, _, _, _, _, _⟩ rfl (fun K' hK => ?_)
       go_simp
       exact hK.out _ _ ⟨_, hF.pure hok hla hpre rfl (Below.refl _ _), rfl⟩
      rcases Nat.lt_or_ge i 5 with hi | hge
      ·rcases Nat.lt_or_ge i 4 with hi | hge
       ·obtain rfl := eqi hi hge
        have ro23 : A.tmps[23]? = some (.int .i64 (h : Int)) := hR.out 3 _ rfl
        refine step_of ⟨some 161, _, _, _, _, _⟩ rfl (fun K' hK => ?_)
        go_simp
        exact hK.out _ _ ⟨_, hF.pure hok hla hpre rfl (Below.refl _ _), rfl⟩
       obtain rfl := eqi hi hge
       have p2 := hpre 2 (by kernel_rfl)
       have e2 : s2 = .int .i64 (p : Int) := hF.get 2 _ rfl (.inr p2)
       subst e2
       have r2 : A.tmps[160]? = some (.int .i64 (p : Int)) := hR.own 2 _ _ rfl rfl
       have p3 := hpre 3 (by kernel_rfl)
       have e3 : s3 = .int .i64 (h : Int) := hF.get 3 _ rfl (.inr p3)
       subst e3
       have r3 : A.tmps[161]? = some (.int .i64 (h : Int)) := hR.own 3 _ _ rfl rfl
       refine step_of ⟨some 162, _, _, _, _, _⟩ rfl (fun K' hK => ?_)
       go_simp
       exact hK.out _ _ ⟨_, hF.pure hok hla hpre rfl (Below.refl _ _), rfl⟩
      rcases Nat.lt_or_ge i 6 with hi | hge
      ·obtain rfl := eqi hi hge
       have p1 := hpre 1 (by kernel_rfl)
       have e1 : s1 = .slice (some ⟨B, 0, none⟩) n cap := hF.get 1 _ rfl (.inr p1)
       subst e1
       have r1 : A.tmps[159]? = some (.slice (some ⟨B, 0, none⟩) n cap) := hR.own 1 _ _ rfl rfl
       have p4 := hpre 4 (by kernel_rfl)
       have e4 : s4 = .int .i64 (q : Int) := hF.get 4 _ rfl (.inr p4)
       subst e4
       have r4 : A.tmps[162]? = some (.int .i64 (q : Int)) := hR.own 4 _ _ rfl rfl
       refine step_of ⟨some 163, _, _, _, _, _⟩ rfl (fun K' hK => ?_)
       go_simp
       exact hK.out _ _ ⟨_, hF.pure hok hla hpre rfl (Below.refl _ _), rfl⟩
      obtain rfl := eqi hi hge
      have p5 := hpre 5 (by kernel_rfl)
      have e5 : s5 = .pointer (some ⟨B, q, none⟩) := hF.get 5 _ rfl (.inr p5)
      subst e5
      have r5 : A.tmps[163]? = some (.pointer (some ⟨B, q, none⟩)) := hR.own 5 _ _ rfl rfl
      have c0 := HI2.out.cell (below_none hF.low) hx_.out ex_.out
      refine step_of ⟨some 164, _, _, _, _, _⟩ rfl (fun K' hK => ?_)
      go_simp
      exact hK.out _ _ ⟨_, hF.pure hok hla hpre rfl (Below.refl _ _), rfl⟩
     rcases Nat.lt_or_ge i 10 with hi | hge
     ·rcases Nat.lt_or_ge i 8 with hi | hge
      ·obtain rfl := eqi hi hge
       have ro0 : A.tmps[0]? = some (.slice (some ⟨B, 0, none⟩) n cap) := hR.out 1 _ rfl
       refine step_of ⟨some 165, _, _, _, _, _⟩ rfl (fun K' hK => ?_)
       go_simp
       exact hK.out _ _ ⟨_, hF.pure hok hla hpre rfl (Below.refl _ _), rfl⟩
      rcases Nat.lt_or_ge i 9 with hi | hge
      ·obtain rfl := eqi hi hge
       have ro23 : A.tmps[23]? = some (.int .i64 (h : Int)) := hR.out 3 _ rfl
       refine step_of ⟨some 166, _, _, _, _, _⟩ rfl (fun K' hK => ?_)
       go_simp
       exact hK.out _ _ ⟨_, hF.pure hok hla hpre rfl (Below.refl _ _), rfl⟩
      obtain rfl := eqi hi hge
      have p7 := hpre 7 (by kernel_rfl)
      have e7 : s7 = .slice (some ⟨B, 0, none⟩) n cap := hF.get 7 _ rfl (.inr p7)
      subst e7
      have r7 : A.tmps[165]? = some (.slice (some ⟨B, 0, none⟩) n cap) := hR.own 7 _ _ rfl rfl
      have p8 := hpre 8 (by kernel_rfl)
      have e8 : s8 = .int .i64 (h : Int) := hF.get 8 _ rfl (.inr p8)
      subst e8
      have r8 : A.tmps[166]? = some (.int .i64 (h : Int)) := hR.own 8 _ _ rfl rfl
      refine step_of ⟨some 167, _, _, _, _, _⟩ rfl (fun K' hK => ?_)
      go_simp
      exact hK.out _ _ ⟨_, hF.pure hok hla hpre rfl (Below.refl _ _), rfl⟩
     rcases Nat.lt_or_ge i 12 with hi | hge
     ·rcases Nat.lt_or_ge i 11 with hi | hge
      ·obtain rfl := eqi hi hge
       have p9 := hpre 9 (by kernel_rfl)
       have e9 : s9 = .pointer (some ⟨B, h, none⟩) := hF.get 9 _ rfl (.inr p9)
       subst e9
       have r9 : A.tmps[167]? = some (.pointer (some ⟨B, h, none⟩)) := hR.own 9 _ _ rfl rfl
       have c0 := HI2.out.cell (below_none hF.low) hy_.out ey_.out
       refine step_of ⟨some 168, _, _, _, _, _⟩ rfl (fun K' hK => ?_)
       go_simp
       exact hK.out _ _ ⟨_, hF.pure hok hla hpre rfl (Below.refl _ _), rfl⟩
      obtain rfl := eqi hi hge
      have p0 := hpre 0 (by kernel_rfl)
      have e0 : s0 = .func (.func g) #[] cb := hF.get 0 _ rfl (.inr p0)
      subst e0
      have r0 : A.tmps[158]? = some (.func (.func g) #[] cb) := hR.own 0 _ _ rfl rfl
      have p6 := hpre 6 (by kernel_rfl)
      have e6 : s6 = .int .i64 (x : Int) := hF.get 6 _ rfl (.inr p6)
      subst e6
      have r6 : A.tmps[164]? = some (.int .i64 (x : Int)) := hR.own 6 _ _ rfl rfl
      have p10 := hpre 10 (by kernel_rfl)
      have e10 : s10 = .int .i64 (y : Int) := hF.get 10 _ rfl (.inr p10)
      subst e10
      have r10 : A.tmps[168]? = some (.int .i64 (y : Int)) := hR.own 10 _ _ rfl rfl
      refine step_of ⟨some 169, _, _, _, _, _⟩ rfl (fun K' hK => ?_)
      go_simp
      (with_reducible refine (HCMP.out.on _ (kept_trans HI2.out.low (kept_below (below_none hF.low))) x y bx_.out by_.out).mono ?_)
      rintro e Wq ⟨rfl, hq⟩
      exact hK.out _ _ ⟨_, hF.pure hok hla hpre rfl hq, rfl⟩
     rcases Nat.lt_or_ge i 13 with hi | hge
     ·obtain rfl := eqi hi hge
      have p11 := hpre 11 (by kernel_rfl)
      have e11 : s11 = .int .i64 (cf x y) := hF.get 11 _ rfl (.inr p11)
      subst e11
      have r11 : A.tmps[169]? = some (.int .i64 (cf x y)) := hR.own 11 _ _ rfl rfl
      refine step_of ⟨some 170, _, _, _, _, _⟩ rfl (fun K' hK => ?_)
      go_simp
      exact hK.out _ _ ⟨_, hF.pure hok hla hpre rfl (Below.refl _ _), rfl⟩
     obtain rfl := eqi hi hge
     have p12 := hpre 12 (by kernel_rfl)
     have e12 : s12 = .bool false := hF.get 12 _ rfl (.inr p12)
     subst e12
     have r12 : A.tmps[170]? = some (.bool false) := hR.own 12 _ _ rfl rfl
     refine step_of ⟨some 171, _, _, _, _, _⟩ rfl (fun K' hK => ?_)
     go_simp
     exact hK.out _ _ ⟨_, hF.pure hok hla hpre rfl (Below.refl _ _), rfl⟩
    case hd =>
     rintro listed vs V hF hall
     obtain ⟨s0, s1, s2, s3, s4, s5, s6, s7, s8, s9, s10, s11, s12, s13, hvs⟩ := exl_of 14 vs (fun l => vs = l) hF.len rfl
     subst hvs
     have e13 : s13 = .bool true := hF.get 13 _ rfl (.inr (hall 13 (by decide)))
     subst e13
     have hq := below_none hF.low
     replace HI2 := Lib.hid (HI2.out.step hq)
     clear hq
     clear hF hall hok hla hna
     refine rest_end ?_
     simp only [putO, layL]
     have HYN : Hid (Sym cf d p sz rz (h + 1) j) := Lib.hid (Sym.up HO.out HD.out hb HR.out HX.out as0 (by omega) (by rw [HQ.out]; exact hqx) HPS.out (by omega) (by rw [HQ.out, ex_.out, ey_.out]; exact less_no HO.out bx_.out by_.out hyx.out (by omega)))
     clear hc hcd
     go_wp2
     go_roundg (gk - 1)
     case measure => omega
     case rel => exact ⟨h + 1, j, by go_num, rfl, by omega, by omega, by omega, by omega, HI2.out, HYN.out⟩
  ·have hd1 : decide ((i : Int) < (j : Int)) = false := decide_eq_false (by omega)
   obtain rfl : i = j := by omega
   obtain ⟨e, he, hme, hmde, heb, hei⟩ := HPE.out i hmi hjb
   have HRR := Lib.hid (rot_runs HO.out HD.out hb HR.out ham hmb HMID.out.symm HCS.out hmi hjb (by rw [HP.out]; exact HX.out))
   rw [he] at HRR
   have HEE := Lib.hid he
   clear he
   obtain ⟨E, hE⟩ : ∃ E, rot d i m e = E := ⟨_, rfl⟩
   rw [hE] at HRR
   have HE := Lib.hid hE
   clear hE
   have hvf := HVF.out
   have hee := HEE.out
   by_cases hst : i < m
   ·have hge : m < e := by omega
    have hge2 : mid < e := by omega
    have hge3 : i < mid := by omega
    clear hee
    have h1_ : decide ((i : Int) < (m : Int)) = true := decide_eq_true (by omega)
    have h2_ : decide ((m : Int) < (e : Int)) = true := decide_eq_true (by omega)
    have HV := Lib.hid (TR.out d i m e wr HI2.out (by omega) (by omega) (by omega))
    go_wp2_with fail
    refine HV.out.mono ?_
    rintro e1_ w1 ⟨rfl, hs, hm⟩
    rw [HE.out] at hs hm
    have HS1 := Lib.hid hs
    have HM1 := Lib.hid (hm.wide (show a ≤ i by omega) heb)
    clear hs hm
    by_cases hai : a < i
    ·skip
     have h3 : decide ((a : Int) < (i : Int)) = true := decide_eq_true (by omega)
     have h4 : decide ((i : Int) < (mid : Int)) = true := decide_eq_true (by omega)
     have HV := Lib.hid (HIH.out E a i mid w1 (by omega) HS1.out (by omega) (by omega) (by omega) (HM1.out.bound hb HD.out) HRR.out.1)
     go_wp2_with fail
     refine HV.out.mono ?_
     rintro e2 w2 ⟨rfl, F, hs, hm, ht⟩
     have HS2 := Lib.hid hs
     have HM2 := Lib.hid hm
     have HT2 := Lib.hid ht
     clear hs hm ht
     by_cases heB : e < b
     ·skip
      have h5 : decide ((mid : Int) < (e : Int)) = true := decide_eq_true (by omega)
      have h6 : decide ((e : Int) < (b : Int)) = true := decide_eq_true (by omega)
      have HV := Lib.hid (HIH.out F mid e b w2 (by omega) HS2.out (by omega) (by omega) hb (HM2.out.bound (by omega) (HM1.out.bound hb HD.out)) (runs_congr (d := E) (fun i h1 h2 => HM2.out.out i (by omega)) (by omega) (by omega) HRR.out.2.1))
      go_wp2_with fail
      refine HV.out.mono ?_
      rintro e3 w3 ⟨rfl, G, hs, hm, ht⟩
      have HS3 := Lib.hid hs
      have HM3 := Lib.hid hm
      have HT3 := Lib.hid ht
      clear hs hm ht
      go_wp2
      go_end0
      exact ⟨rfl, _, HS3.out, (HM3.out.wide (by omega) (by omega)).trans ((HM2.out.wide (by omega) (by omega)).trans HM1.out), halves HRR.out.2.2 HM2.out HT2.out HM3.out HT3.out⟩
     ·skip
      have h5 : decide ((mid : Int) < (e : Int)) = true := decide_eq_true (by omega)
      have h6 : decide ((e : Int) < (b : Int)) = false := decide_eq_false (by omega)
      have HT3 : Hid (SortedOn cf F mid b) := Lib.hid (sorted_congr (d := E) (fun x h1 h2 => HM2.out.out x (.inr h1)) (fun x y h1 h2 h3 => HRR.out.2.1.left x y h1 h2 (by omega)))
      have HS3 := HS2
      have HM3 := Lib.hid (Mv.refl F n mid b)
      go_wp2
      go_end0
      exact ⟨rfl, _, HS3.out, (HM3.out.wide (by omega) (by omega)).trans ((HM2.out.wide (by omega) (by omega)).trans HM1.out), halves HRR.out.2.2 HM2.out HT2.out HM3.out HT3.out⟩
    ·skip
     have h3 : decide ((a : Int) < (i : Int)) = false := decide_eq_false (by omega)
     have HT1 : Hid (SortedOn cf E a mid) := Lib.hid (fun x y h1 h2 h3 => HRR.out.1.right x y (by omega) h2 h3)
     obtain ⟨F, hF⟩ : ∃ F, E = F := ⟨_, rfl⟩
     have HS2 : Hid (SI w B n F w1) := Lib.hid (by rw [← hF]; exact HS1.out)
     have HM2 : Hid (Mv F E n a mid) := Lib.hid (by rw [← hF]; exact Mv.refl E n a mid)
     have HT2 : Hid (SortedOn cf F a mid) := Lib.hid (by rw [← hF]; exact HT1.out)
     clear hF
     by_cases heB : e < b
     ·skip
      have h5 : decide ((mid : Int) < (e : Int)) = true := decide_eq_true (by omega)
      have h6 : decide ((e : Int) < (b : Int)) = true := decide_eq_true (by omega)
      have HV := Lib.hid (HIH.out F mid e b w1 (by omega) HS2.out (by omega) (by omega) hb (HM2.out.bound (by omega) (HM1.out.bound hb HD.out)) (runs_congr (d := E) (fun i h1 h2 => HM2.out.out i (by omega)) (by omega) (by omega) HRR.out.2.1))
      go_wp2_with fail
      refine HV.out.mono ?_
      rintro e3 w3 ⟨rfl, G, hs, hm, ht⟩
      have HS3 := Lib.hid hs
      have HM3 := Lib.hid hm
      have HT3 := Lib.hid ht
      clear hs hm ht
      go_wp2
      go_end0
      exact ⟨rfl, _, HS3.out, (HM3.out.wide (by omega) (by omega)).trans ((HM2.out.wide (by omega) (by omega)).trans HM1.out), halves HRR.out.2.2 HM2.out HT2.out HM3.out HT3.out⟩
     ·skip
      have h5 : decide ((mid : Int) < (e : Int)) = true := decide_eq_true (by omega)
      have h6 : decide ((e : Int) < (b : Int)) = false := decide_eq_false (by omega)
      have HT3 : Hid (SortedOn cf F mid b) := Lib.hid (sorted_congr (d := E) (fun x h1 h2 => HM2.out.out x (.inr h1)) (fun x y h1 h2 h3 => HRR.out.2.1.left x y h1 h2 (by omega)))
      have HS3 := HS2
      have HM3 := Lib.hid (Mv.refl F n mid b)
      go_wp2
      go_end0
      exact ⟨rfl, _, HS3.out, (HM3.out.wide (by omega) (by omega)).trans ((HM2.out.wide (by omega) (by omega)).trans HM1.out), halves HRR.out.2.2 HM2.out HT2.out HM3.out HT3.out⟩
   ·have hge : i = m := by omega
    have hge2 : e ≤ mid := by omega
    have EQD : Hid (E = d) := Lib.hid (by rw [← HE.out, hge]; exact (rot_none d m e).1)
    have hge4 : a < i := by omega
    have hge5 : m ≤ i := by omega
    clear hee hge
    have h1_ : decide ((i : Int) < (m : Int)) = false := decide_eq_false (by omega)
    have HS1 : Hid (SI w B n E wr) := Lib.hid (by rw [EQD.out]; exact HI2.out)
    have HM1 : Hid (Mv E d n a b) := Lib.hid (by rw [EQD.out]; exact Mv.refl d n a b)
    by_cases hai : i < mid
    ·skip
     have h3 : decide ((a : Int) < (i : Int)) = true := decide_eq_true (by omega)
     have h4 : decide ((i : Int) < (mid : Int)) = true := decide_eq_true (by omega)
     have HV := Lib.hid (HIH.out E a i mid wr (by omega) HS1.out (by omega) (by omega) (by omega) (HM1.out.bound hb HD.out) HRR.out.1)
     go_wp2_with fail
     refine HV.out.mono ?_
     rintro e2 w2 ⟨rfl, F, hs, hm, ht⟩
     have HS2 := Lib.hid hs
     have HM2 := Lib.hid hm
     have HT2 := Lib.hid ht
     clear hs hm ht
     have h5 : decide ((mid : Int) < (e : Int)) = false := decide_eq_false (by omega)
     have HT3 : Hid (SortedOn cf F mid b) := Lib.hid (sorted_congr (d := E) (fun x h1 h2 => HM2.out.out x (.inr h1)) (fun x y h1 h2 h3 => HRR.out.2.1.right x y (by omega) h2 h3))
     have HS3 := HS2
     have HM3 := Lib.hid (Mv.refl F n mid b)
     go_wp2
     go_end0
     exact ⟨rfl, _, HS3.out, (HM3.out.wide (by omega) (by omega)).trans ((HM2.out.wide (by omega) (by omega)).trans HM1.out), halves HRR.out.2.2 HM2.out HT2.out HM3.out HT3.out⟩
    ·skip
     have h3 : decide ((a : Int) < (i : Int)) = true := decide_eq_true (by omega)
     have h4 : decide ((i : Int) < (mid : Int)) = false := decide_eq_false (by omega)
     have HT1 : Hid (SortedOn cf E a mid) := Lib.hid (fun x y h1 h2 h3 => HRR.out.1.left x y h1 h2 (by omega))
     obtain ⟨F, hF⟩ : ∃ F, E = F := ⟨_, rfl⟩
     have HS2 : Hid (SI w B n F wr) := Lib.hid (by rw [← hF]; exact HS1.out)
     have HM2 : Hid (Mv F E n a mid) := Lib.hid (by rw [← hF]; exact Mv.refl E n a mid)
     have HT2 : Hid (SortedOn cf F a mid) := Lib.hid (by rw [← hF]; exact HT1.out)
     clear hF
     have h5 : decide ((mid : Int) < (e : Int)) = false := decide_eq_false (by omega)
     have HT3 : Hid (SortedOn cf F mid b) := Lib.hid (sorted_congr (d := E) (fun x h1 h2 => HM2.out.out x (.inr h1)) (fun x y h1 h2 h3 => HRR.out.2.1.right x y (by omega) h2 h3))
     have HS3 := HS2
     have HM3 := Lib.hid (Mv.refl F n mid b)
     go_wp2
     go_end0
     exact ⟨rfl, _, HS3.out, (HM3.out.wide (by omega) (by omega)).trans ((HM2.out.wide (by omega) (by omega)).trans HM1.out), halves HRR.out.2.2 HM2.out HT2.out HM3.out HT3.out⟩
end Go.Proofs.YtkghpiaoggljjaaGreatDoor.Num.Mt

/- The library's sort of a row of at most thirty numbers by a comparison that makes memory. Conditions: the row is the call's own; the comparison is an order. -/
namespace Go.Proofs.YtkghpiaoggljjaaGreatDoor.Num.Mt
open Go.RowKit Go.Lib Num

theorem merge_any (w : World) (B n cap g : Nat) (cb : Array Value) (cf : Nat → Nat → Int) (hO : Ord cf n) (eg : ∀ args w, (callFunc g args).run Tryz.prog w = .ok (.enter g args) w) (hcmp : CmpOk g cb cf w B n) (hn : n ≤ 1000) : ∀ (f : Nat) (d : Nat → Nat) (t a m b : Nat) (W : World), b - a < f → SI w B n d W → a < m → m < b → b ≤ n → (∀ i, i < n → d i < n) → Runs cf d t a m b →
  Calls Tryz.prog 290 #[.slice (some ⟨B, 0, none⟩) n cap, .int .i64 (a : Int), .int .i64 (m : Int), .int .i64 (b : Int), .func (.func g) #[] cb] W fun e w' => e = .returned (.tuple #[]) ∧ ∃ d', SI w B n d' w' ∧ Mv d' d n a b ∧ SortedOn cf d' a b
 | 0, _, _, _, _, _, _, h, _, _, _, _, _, _ => absurd h (by omega)
 | f + 1, d, t, a, m, b, W, hf, hI, ham, hmb, hb, hd, hR => by
  by_cases h1 : m ≤ a + 1
  ·exact merge_left w B n cap g cb cf hO eg hcmp hn d t a m b W hI ham hmb hb hd hR h1
  ·by_cases h2 : b ≤ m + 1
   ·exact merge_right w B n cap g cb cf hO eg hcmp hn d t a m b W hI ham hmb hb hd hR (by omega) h2
   ·have IH := fun (e : Nat → Nat) (a' m' b' : Nat) (W' : World) (hl : b' - a' < b - a) hS h3 h4 h5 h6 h7 => merge_any w B n cap g cb cf hO eg hcmp hn f e t a' m' b' W' (by omega) hS h3 h4 h5 h6 h7
    by_cases hq : m ≤ (a + b) / 2
    ·exact merge_gen_right w B n cap g cb cf hO eg hcmp hn d t a m b W hI ham hmb hb hd hR (by omega) (by omega) hq IH
    ·exact merge_gen_left w B n cap g cb cf hO eg hcmp hn d t a m b W hI ham hmb hb hd hR (by omega) (by omega) (by omega) IH
theorem runs_of {cf : Nat → Nat → Int} {d2 d1 : Nat → Nat} {n m : Nat} (hm : m ≤ n) (m1 : Mv d1 (fun i => i) n 0 m) (s1 : SortedOn cf d1 0 m) (m2 : Mv d2 d1 n m n) (s2 : SortedOn cf d2 m n) : Runs cf d2 m 0 m n := by
 refine ⟨sorted_congr (fun i _ h => m2.out i (.inl h)) s1, s2, fun i h1 h2 => ?_, fun i h1 h2 => ?_⟩
 ·rw [m2.out i (.inl h2)]
  obtain ⟨k, _, k2, e⟩ := m1.img i h1 h2
  rw [e]; exact k2
 ·obtain ⟨k, k1, _, e⟩ := m2.img i h1 h2
  rw [e, m1.out k (.inr k1)]; exact k1
set_option maxHeartbeats 8000000 in
set_option maxRecDepth 100000 in
theorem stable_any (w : World) (B n cap g : Nat) (cb : Array Value) (cf : Nat → Nat → Int) (hO : Ord cf n) (eg : ∀ args w, (callFunc g args).run Tryz.prog w = .ok (.enter g args) w) (hcmp : CmpOk g cb cf w B n) (hn : n ≤ 30) (W : World) (hI : SI w B n (fun i => i) W) :
  Calls Tryz.prog 234 #[.slice (some ⟨B, 0, none⟩) n cap, .int .i64 (n : Int), .func (.func g) #[] cb] W fun e w' => e = .returned (.tuple #[]) ∧ ∃ d', SI w B n d' w' ∧ Mv d' (fun i => i) n 0 n ∧ SortedOn cf d' 0 n := by
 have HI := Lib.hid hI
 have HI0 := Lib.hid (fun (d : Nat → Nat) (b : Nat) (W : World) hI (h0 : 0 < b) h1 h2 h3 => insertion_any w B n cap g cb cf hO eg hcmp d 0 b W hI h0 h1 (by omega) h2 h3)
 have HI2 := Lib.hid (fun (d : Nat → Nat) (b : Nat) (W : World) hI (h0 : 20 < b) h1 h2 h3 => insertion_any w B n cap g cb cf hO eg hcmp d 20 b W hI h0 h1 (by omega) h2 h3)
 have HN0 := Lib.hid (fun (d : Nat → Nat) (W : World) hI => insertion_none w B n cap g cb d 0 W hI (by omega) (by omega))
 have HN2 := Lib.hid (fun (d : Nat → Nat) (W : World) hI (h : 20 ≤ n) => insertion_none w B n cap g cb d 20 W hI (by omega) h)
 have HM := Lib.hid (fun (d : Nat → Nat) (W : World) hI (h : 20 < n) hd hR => merge_any w B n cap g cb cf hO eg hcmp (by omega) (n + 1) d 20 0 20 n W (by omega) hI (by omega) h (Nat.le_refl _) hd hR)
 clear hI hO hcmp
 go_enter Tryz.func234, Tryz.ntmps234
 go_wp2_with fail
 by_cases h20 : n < 20
 ·have hd1 : decide ((20 : Int) ≤ (n : Int)) = false := decide_eq_false (by omega)
  have hd2 : decide ((20 : Int) < (n : Int)) = false := decide_eq_false (by omega)
  refine wp_loop_rounds 1 ?_
  rw [rounds_succ]
  by_cases h0 : 0 < n
  ·have HV := Lib.hid (HI0.out (fun i => i) n W HI.out h0 (Nat.le_refl _) (fun i h => h) (fun i j _ h _ => h))
   go_wp2_with fail
   refine HV.out.mono ?_
   rintro e w1 ⟨rfl, d', hs, hm, ht⟩
   have HS := Lib.hid hs
   have HM2 := Lib.hid hm
   have HT := Lib.hid ht
   clear hs hm ht
   go_wp2_with fail
   refine wp_loop_rounds 1 ?_
   rw [rounds_succ]
   go_wp2
   go_end0
   exact ⟨rfl, _, HS.out, HM2.out, HT.out⟩
  ·have hz : n = 0 := by omega
   subst hz
   have HV := Lib.hid (HN0.out (fun i => i) W HI.out)
   go_wp2_with fail
   refine HV.out.mono ?_
   rintro e w1 ⟨rfl, hs⟩
   have HS := Lib.hid hs
   clear hs
   go_wp2_with fail
   refine wp_loop_rounds 1 ?_
   rw [rounds_succ]
   go_wp2
   go_end0
   exact ⟨rfl, _, HS.out, Mv.refl _ _ _ _, fun i j _ h1 h2 => by omega⟩
 ·have hd1 : decide ((20 : Int) ≤ (n : Int)) = true := decide_eq_true (by omega)
  have hd3 : decide ((40 : Int) ≤ (n : Int)) = false := decide_eq_false (by omega)
  refine wp_loop_rounds 2 ?_
  rw [rounds_succ]
  have HV := Lib.hid (HI0.out (fun i => i) 20 W HI.out (by omega) (by omega) (fun i h => h) (fun i j _ h _ => h))
  go_wp2_with fail
  refine HV.out.mono ?_
  rintro e w1 ⟨rfl, d1, hs, hm, ht⟩
  have HS := Lib.hid hs
  have HM1 := Lib.hid hm
  have HT1 := Lib.hid ht
  clear hs hm ht
  go_wp2_with fail
  rw [rounds_succ]
  by_cases h21 : 20 < n
  ·have hd2 : decide ((20 : Int) < (n : Int)) = true := decide_eq_true (by omega)
   have hd4 : decide ((40 : Int) < (n : Int)) = false := decide_eq_false (by omega)
   have HV2 := Lib.hid (HI2.out d1 n w1 HS.out h21 (Nat.le_refl _) (HM1.out.bound (by omega) (fun i h => h)) (fun i j h1 h2 h3 => by rw [HM1.out.out i (.inr h1), HM1.out.out j (.inr (by omega))]; exact h2))
   go_wp2_with fail
   refine HV2.out.mono ?_
   rintro e w2 ⟨rfl, d2, hs, hm, ht⟩
   have HS2 := Lib.hid hs
   have HM2 := Lib.hid hm
   have HT2 := Lib.hid ht
   clear hs hm ht
   have HR := Lib.hid (runs_of (by omega) HM1.out HT1.out HM2.out HT2.out)
   have HV3 := Lib.hid (HM.out d2 w2 HS2.out h21 (HM2.out.bound (Nat.le_refl _) (HM1.out.bound (by omega) (fun i h => h))) HR.out)
   go_wp2_with fail
   refine wp_loop_rounds 2 ?_
   rw [rounds_succ]
   go_wp2_with fail
   refine wp_loop_rounds 1 ?_
   rw [rounds_succ]
   go_wp2_with fail
   refine HV3.out.mono ?_
   rintro e w3 ⟨rfl, d3, hs, hm, ht⟩
   have HS3 := Lib.hid hs
   have HM3 := Lib.hid hm
   have HT3 := Lib.hid ht
   clear hs hm ht
   go_wp2_with fail
   rw [rounds_succ]
   go_wp2
   go_end0
   exact ⟨rfl, _, HS3.out, HM3.out.trans ((HM2.out.wide (by omega) (Nat.le_refl _)).trans (HM1.out.wide (Nat.le_refl _) (by omega))), HT3.out⟩
  ·have hd2 : decide ((20 : Int) < (n : Int)) = false := decide_eq_false (by omega)
   have hz : n = 20 := by omega
   subst hz
   have HV2 := Lib.hid (HN2.out d1 w1 HS.out (Nat.le_refl _))
   go_wp2_with fail
   refine HV2.out.mono ?_
   rintro e w2 ⟨rfl, hs⟩
   have HS2 := Lib.hid hs
   clear hs
   go_wp2_with fail
   refine wp_loop_rounds 1 ?_
   rw [rounds_succ]
   go_wp2
   go_end0
   exact ⟨rfl, _, HS2.out, HM1.out, HT1.out⟩
set_option maxHeartbeats 4000000 in
set_option maxRecDepth 100000 in
/-- the sort of a row that is the call's own -/
theorem sort_any (w : World) (B n cap g : Nat) (cb : Array Value) (cf : Nat → Nat → Int) (hO : Ord cf n) (eg : ∀ args w, (callFunc g args).run Tryz.prog w = .ok (.enter g args) w) (hcmp : CmpOk g cb cf w B n) (hn : n ≤ 30) (hI : SI w B n (fun i => i) w) :
  Calls Tryz.prog 145 #[.slice (some ⟨B, 0, none⟩) n cap, .func (.func g) #[] cb] w fun e w' => e = .returned (.tuple #[]) ∧ ∃ d', SI w B n d' w' ∧ Mv d' (fun i => i) n 0 n ∧ SortedOn cf d' 0 n := by
 have HV := Lib.hid (stable_any w B n cap g cb cf hO eg hcmp hn w hI)
 clear hI hO hcmp eg
 go_enter Tryz.func145, Tryz.ntmps145
 go_wp2_with fail
 refine HV.out.mono ?_
 rintro e w1 ⟨rfl, hs⟩
 have HS := Lib.hid hs
 clear hs
 go_wp2
 go_end0
 exact ⟨rfl, HS.out⟩
end Go.Proofs.YtkghpiaoggljjaaGreatDoor.Num.Mt

/- package value: Order at two numbers; package flook: order. Conditions: the numbers fit; the tables lie as they are laid. -/
namespace Go.Proofs.YtkghpiaoggljjaaGreatDoor.Num.Mt
open Go.RowKit Go.Lib Num
attribute [local irreducible] wpOp
set_option linter.unusedSimpArgs false in
set_option linter.unusedVariables false in
set_option maxHeartbeats 4000000 in
set_option maxRecDepth 100000 in
theorem compared_num (p q : Rat) (w : World) (hp : fits p = true) (hq : fits q = true) : Calls Tryz.prog 17 #[.agg #[.int .i64 1, .string (numS p), .string (denS p), .string { data := #[] }, .bool false, .int .i64 0, .int .i64 0, .int .i64 0, .slice none 0 0], .agg #[.int .i64 1, .string (numS q), .string (denS q), .string { data := #[] }, .bool false, .int .i64 0, .int .i64 0, .int .i64 0, .slice none 0 0]] w fun e w' => e = .returned (.int .i64 (cmpR p q)) ∧ Below w.heap.size w w' := by
 have TC := Lib.hid (fun W => compare_q p q W hp hq)
 rw [fracV_is p, fracV_is q] at TC
 obtain ⟨hx, hy, _⟩ := two_new w (.cells #[.int .i64 1, .string (numS p), .string (denS p), .string { data := #[] }, .bool false, .int .i64 0, .int .i64 0, .int .i64 0, .slice none 0 0] 27) (.cells #[.int .i64 1, .string (numS q), .string (denS q), .string { data := #[] }, .bool false, .int .i64 0, .int .i64 0, .int .i64 0, .slice none 0 0] 27)
 have hb : Below w.heap.size w ((w.alloc (.cells #[.int .i64 1, .string (numS p), .string (denS p), .string { data := #[] }, .bool false, .int .i64 0, .int .i64 0, .int .i64 0, .slice none 0 0] 27)).alloc (.cells #[.int .i64 1, .string (numS q), .string (denS q), .string { data := #[] }, .bool false, .int .i64 0, .int .i64 0, .int .i64 0, .slice none 0 0] 27)) := ((Below.refl _ _).alloc (Nat.le_refl _) _).alloc (by simp) _
 have HX := Lib.hid hx
 have HY := Lib.hid hy
 have HL := Lib.hid hb
 clear hx hy hb hp hq
 obtain ⟨⟨x0, x1, x2, x3, x4, x5, x6, x7, x8⟩, _⟩ := nine_at HX.out
 obtain ⟨⟨y0, y1, y2, y3, y4, y5, y6, y7, y8⟩, _⟩ := nine_at HY.out
 go_enter Tryz.func17, Tryz.ntmps17
 go_wp2_with fail
 refine (TC.out _).mono ?_
 rintro e W1 ⟨rfl, hb⟩
 replace HL := Lib.hid (HL.out.trans (hb.mono HL.out.size))
 clear hb
 go_wp2
 go_ret
 exact ⟨rfl, HL.out⟩

set_option linter.unusedSimpArgs false in
set_option linter.unusedVariables false in
set_option maxHeartbeats 4000000 in
set_option maxRecDepth 100000 in
theorem both_four (p q : Rat) (w : World) (hp : fits p = true) (hq : fits q = true) (hE : Env w) : Calls Tryz.prog 13 #[.agg #[.int .i64 1, .string (numS p), .string (denS p), .string { data := #[] }, .bool false, .int .i64 0, .int .i64 0, .int .i64 0, .slice none 0 0], .agg #[.int .i64 1, .string (numS q), .string (denS q), .string { data := #[] }, .bool false, .int .i64 0, .int .i64 0, .int .i64 0, .slice none 0 0], .int .i64 4] w fun e w' => e = .returned (.int .i64 0) ∧ Below w.heap.size w w' := by
 have C1 := Lib.hid (fun W g => check_num p W hp g)
 have C2 := Lib.hid (fun W g => check_num q W hq g)
 have i0 : ∀ w, (Instr.index 49 (.agg #[.int .i64 1, .string (numS p), .string (denS p), .string { data := #[] }, .bool false, .int .i64 0, .int .i64 0, .int .i64 0, .slice none 0 0, .int .i64 1, .string (numS q), .string (denS q), .string { data := #[] }, .bool false, .int .i64 0, .int .i64 0, .int .i64 0, .slice none 0 0]) (.int .i64 0)).run Tryz.prog w = .ok (.agg #[.int .i64 1, .string (numS p), .string (denS p), .string { data := #[] }, .bool false, .int .i64 0, .int .i64 0, .int .i64 0, .slice none 0 0]) w := fun _ => by kernel_rfl
 have i1 : ∀ w, (Instr.index 49 (.agg #[.int .i64 1, .string (numS p), .string (denS p), .string { data := #[] }, .bool false, .int .i64 0, .int .i64 0, .int .i64 0, .slice none 0 0, .int .i64 1, .string (numS q), .string (denS q), .string { data := #[] }, .bool false, .int .i64 0, .int .i64 0, .int .i64 0, .slice none 0 0]) (.int .i64 1)).run Tryz.prog w = .ok (.agg #[.int .i64 1, .string (numS q), .string (denS q), .string { data := #[] }, .bool false, .int .i64 0, .int .i64 0, .int .i64 0, .slice none 0 0]) w := fun _ => by kernel_rfl
 obtain ⟨hx, hy, _⟩ := two_new w (.cells #[.int .i64 1, .string (numS p), .string (denS p), .string { data := #[] }, .bool false, .int .i64 0, .int .i64 0, .int .i64 0, .slice none 0 0] 27) (.cells #[.int .i64 1, .string (numS q), .string (denS q), .string { data := #[] }, .bool false, .int .i64 0, .int .i64 0, .int .i64 0, .slice none 0 0] 27)
 have hb : Below w.heap.size w ((w.alloc (.cells #[.int .i64 1, .string (numS p), .string (denS p), .string { data := #[] }, .bool false, .int .i64 0, .int .i64 0, .int .i64 0, .slice none 0 0] 27)).alloc (.cells #[.int .i64 1, .string (numS q), .string (denS q), .string { data := #[] }, .bool false, .int .i64 0, .int .i64 0, .int .i64 0, .slice none 0 0] 27)) := ((Below.refl _ _).alloc (Nat.le_refl _) _).alloc (by simp) _
 have HX := Lib.hid hx
 have HY := Lib.hid hy
 have HL := Lib.hid hb
 have HE := Lib.hid (hE.below hb)
 clear hx hy hb hp hq hE
 obtain ⟨W0, hW0⟩ : ∃ Z, (w.alloc (.cells #[.int .i64 1, .string (numS p), .string (denS p), .string { data := #[] }, .bool false, .int .i64 0, .int .i64 0, .int .i64 0, .slice none 0 0] 27)).alloc (.cells #[.int .i64 1, .string (numS q), .string (denS q), .string { data := #[] }, .bool false, .int .i64 0, .int .i64 0, .int .i64 0, .slice none 0 0] 27) = Z := ⟨_, rfl⟩
 rw [hW0] at HX HY HL HE
 have EW0 := Lib.hid hW0
 clear hW0
 have hb : Below W0.heap.size W0 (W0.alloc (.cells #[.int .i64 1, .string (numS p), .string (denS p), .string { data := #[] }, .bool false, .int .i64 0, .int .i64 0, .int .i64 0, .slice none 0 0] 27)) := (Below.refl _ _).alloc (Nat.le_refl _) _
 go_enter Tryz.func13, Tryz.ntmps13
 go_wp2
 rw [EW0.out]
 replace HX := Lib.hid (keep_block HX.out hb)
 replace HY := Lib.hid (keep_block HY.out hb)
 replace HE := Lib.hid (HE.out.below hb)
 replace HL := Lib.hid (HL.out.trans (hb.mono HL.out.size))
 clear hb
 refine wp_loop_rounds 3 ?_
 rw [rounds_succ]
 go_wp2_with fail
 refine (C1.out _ HE.out).mono ?_
 rintro e W1 ⟨rfl, hb⟩
 replace HX := Lib.hid (keep_block HX.out hb)
 replace HY := Lib.hid (keep_block HY.out hb)
 replace HE := Lib.hid (HE.out.below hb)
 replace HL := Lib.hid (HL.out.trans (hb.mono HL.out.size))
 clear hb
 go_wp2
 rw [rounds_succ]
 have hb : Below W1.heap.size W1 (W1.alloc (.cells #[.int .i64 1, .string (numS q), .string (denS q), .string { data := #[] }, .bool false, .int .i64 0, .int .i64 0, .int .i64 0, .slice none 0 0] 27)) := (Below.refl _ _).alloc (Nat.le_refl _) _
 replace HX := Lib.hid (keep_block HX.out hb)
 replace HY := Lib.hid (keep_block HY.out hb)
 replace HE := Lib.hid (HE.out.below hb)
 replace HL := Lib.hid (HL.out.trans (hb.mono HL.out.size))
 clear hb
 go_wp2_with fail
 refine (C2.out _ HE.out).mono ?_
 rintro e W2 ⟨rfl, hb⟩
 replace HX := Lib.hid (keep_block HX.out hb)
 replace HY := Lib.hid (keep_block HY.out hb)
 replace HE := Lib.hid (HE.out.below hb)
 replace HL := Lib.hid (HL.out.trans (hb.mono HL.out.size))
 clear hb
 go_wp2
 rw [rounds_succ]
 obtain ⟨⟨x0, x1, x2, x3, x4, x5, x6, x7, x8⟩, _⟩ := nine_at HX.out
 obtain ⟨⟨y0, y1, y2, y3, y4, y5, y6, y7, y8⟩, _⟩ := nine_at HY.out
 go_wp2
 go_ret
 exact ⟨rfl, HL.out⟩
set_option maxHeartbeats 8000000 in
set_option maxRecDepth 100000 in
theorem nan_str (s : ByteArray) (w : World) : Calls Tryz.prog 29 #[.string s] w fun e w' => e = .returned (.bool false) ∧ w' = w := by
 go_enter Tryz.func29, Tryz.ntmps29
 go_wp2
 go_ret
 exact ⟨rfl, rfl⟩
set_option maxHeartbeats 8000000 in
set_option maxRecDepth 100000 in
theorem compare_none (w : World) : Calls Tryz.prog 18 #[.string { data := #[] }, .string { data := #[] }] w fun e w' => e = .returned (.int .i64 0) ∧ Below w.heap.size w w' := by
 go_enter Tryz.func18, Tryz.ntmps18
 go_wp2_with fail
 refine (nan_str _ _).mono ?_
 rintro e w1 ⟨rfl, hw⟩
 replace hw := hw.symm
 subst hw
 go_wp2_with fail
 refine (nan_str _ _).mono ?_
 rintro e w1 ⟨rfl, hw⟩
 replace hw := hw.symm
 subst hw
 go_wp2
 go_ret
 exact ⟨rfl, Below.refl _ _⟩
set_option maxHeartbeats 8000000 in
set_option maxRecDepth 100000 in
theorem or_two (G : Nat) (c : Int) (t : Nat) (w : World) (h : w.heap[G]? = some (.cells #[.int .i64 c, .int .i64 0] t (0, 0))) : Calls Tryz.prog 16 #[.slice (some ⟨G, 0, none⟩) 2 2] w fun e w' => e = .returned (.int .i64 c) ∧ Below w.heap.size w w' := by
 have x0 := Lib.cell_of_heap h 0
 have x1 := Lib.cell_of_heap h 1
 by_cases hc : c = 0
 ·subst hc
  go_enter Tryz.func16, Tryz.ntmps16
  go_wp2_with fail
  refine wp_loop_rounds 3 ?_
  rw [rounds_succ]
  go_wp2
  rw [rounds_succ]
  go_wp2
  rw [rounds_succ]
  go_wp2
  go_ret
  exact ⟨rfl, Below.refl _ _⟩
 ·have hn : (c == 0) = false := by simpa using hc
  have hn2 : decide (c = 0) = false := decide_eq_false hc
  go_enter Tryz.func16, Tryz.ntmps16
  go_wp2_with fail
  refine wp_loop_rounds 1 ?_
  rw [rounds_succ]
  go_wp2
  go_ret
  exact ⟨rfl, Below.refl _ _⟩
set_option linter.unusedVariables false in
/-- what the operations of region 8 yield -/
def OrdKs8 (p q : Rat) (BX : Nat) : List RK :=
 [.pure (.agg #[.int .i64 1, .string (numS p), .string (denS p), .string { data := #[] }, .bool false, .int .i64 0, .int .i64 0, .int .i64 0, .slice none 0 0]),
  .pure (.agg #[.int .i64 1, .string (numS q), .string (denS q), .string { data := #[] }, .bool false, .int .i64 0, .int .i64 0, .int .i64 0, .slice none 0 0]),
  .pure (.int .i64 (cmpR p q)),
  .pure (.pointer (some ⟨BX, 3, none⟩)),
  .pure (.string { data := #[] }),
  .pure (.pointer (some ⟨(BX + 1), 3, none⟩)),
  .pure (.string { data := #[] }),
  .pure (.int .i64 0),
  .row #[.int .i64 (cmpR p q), .int .i64 0] 3 2,
  .pure (.int .i64 (cmpR p q)),
  .pure (.int .i64 (cmpR p q)),
  .pure (.int .i64 0)]
set_option maxHeartbeats 8000000 in
set_option maxRecDepth 100000 in
theorem order_num (p q : Rat) (w : World) (hp : fits p = true) (hq : fits q = true) (hE : Env w) : Calls Tryz.prog 8 #[.agg #[.int .i64 1, .string (numS p), .string (denS p), .string { data := #[] }, .bool false, .int .i64 0, .int .i64 0, .int .i64 0, .slice none 0 0], .agg #[.int .i64 1, .string (numS q), .string (denS q), .string { data := #[] }, .bool false, .int .i64 0, .int .i64 0, .int .i64 0, .slice none 0 0]] w fun e w' => e = .returned (.tuple #[.int .i64 (cmpR p q), .int .i64 0]) ∧ Below w.heap.size w w' := by
  have TB := Lib.hid (fun W g => both_four p q W hp hq g)
  obtain ⟨hx, hy, _⟩ := two_new w (.cells #[.int .i64 1, .string (numS p), .string (denS p), .string { data := #[] }, .bool false, .int .i64 0, .int .i64 0, .int .i64 0, .slice none 0 0] 27) (.cells #[.int .i64 1, .string (numS q), .string (denS q), .string { data := #[] }, .bool false, .int .i64 0, .int .i64 0, .int .i64 0, .slice none 0 0] 27)
  have hb : Below w.heap.size w ((w.alloc (.cells #[.int .i64 1, .string (numS p), .string (denS p), .string { data := #[] }, .bool false, .int .i64 0, .int .i64 0, .int .i64 0, .slice none 0 0] 27)).alloc (.cells #[.int .i64 1, .string (numS q), .string (denS q), .string { data := #[] }, .bool false, .int .i64 0, .int .i64 0, .int .i64 0, .slice none 0 0] 27)) := ((Below.refl _ _).alloc (Nat.le_refl _) _).alloc (by simp) _
  have HX := Lib.hid hx
  have HY := Lib.hid hy
  have HL := Lib.hid hb
  have HE := Lib.hid (hE.below hb)
  clear hx hy hb hE
  go_enter Tryz.func8, Tryz.ntmps8
  go_wp2_with fail
  refine (TB.out _ HE.out).mono ?_
  rintro e w1 ⟨rfl, hb⟩
  replace HX := Lib.hid (keep_block HX.out hb)
  replace HY := Lib.hid (keep_block HY.out hb)
  replace HL := Lib.hid (HL.out.trans (hb.mono HL.out.size))
  clear hb
  obtain ⟨BX, hBX⟩ : ∃ B, w.heap.size = B := ⟨_, rfl⟩
  rw [hBX] at HX HY
  have EB := Lib.hid hBX
  obtain ⟨⟨x0, x1, x2, x3, x4, x5, x6, x7, x8⟩, _⟩ := nine_at HX.out
  obtain ⟨⟨y0, y1, y2, y3, y4, y5, y6, y7, y8⟩, _⟩ := nine_at HY.out
  rw [hBX]
  clear hBX
  go_upto_region 8 with fail
  clear x0 x1 x2 x3 x4 x5 x6 x7 x8 y0 y1 y2 y3 y4 y5 y6 y7 y8
  go_wp2_with fail
  have hok : okB 12 (OrdKs8 p q BX) = true := by kernel_rfl
  have hna := noAny_of (ks := (OrdKs8 p q BX)) (by kernel_rfl)
  have hla := lasts_of hna
  refine wp_region_facts_abs (row := none) (w := w1) 12 0 12 [] (OrdKs8 p q BX) [some 26, some 27, some 28, some 29, some 30, some 31, some 32, some 33, some 34, some 35, some 4, some 5] [(2, .pointer (some ⟨BX, 0, none⟩)), (3, .pointer (some ⟨(BX + 1), 0, none⟩))] 36 (by kernel_rfl) (by kernel_rfl) (by kernel_rfl) rfl rfl (by decide) rfl (by kernel_rfl) rfl (Nat.le_of_eq rfl) rfl ?ho [undef, undef, undef, undef, undef, undef, undef, undef, undef, undef, .int .i64 0, .int .i64 0] ?h00 (Fs.start rfl rfl) ?hs ?hd
  case ho =>
   intro k x hk
   match k, hk with
   | 0, hk => have hk := Option.some.inj hk; subst hk; rfl
   | 1, hk => have hk := Option.some.inj hk; subst hk; rfl
   | _ + 2, hk => exact absurd hk (by simp)
  case h00 => simp only [putO, layL]
  case hs =>
   rintro A listed vs Wr hF hR i hi hun hpre
   obtain ⟨s0, s1, s2, s3, s4, s5, s6, s7, s8, s9, s10, s11, hvs⟩ := exl_of 12 vs (fun l => vs = l) hF.len rfl
   subst hvs
   have hge := Nat.zero_le i
   rcases Nat.lt_or_ge i 6 with hi | hge
   ·rcases Nat.lt_or_ge i 3 with hi | hge
    ·rcases Nat.lt_or_ge i 1 with hi | hge
     ·obtain rfl := eqi hi hge
      have ro2 : A.tmps[2]? = some (.pointer (some ⟨BX, 0, none⟩)) := hR.out 0 _ rfl
      have hcc := (nine_at (keep_block HX.out (below_none hF.low))).1
      have cHX0 := hcc.1
      have cHX1 := hcc.2.1
      have cHX2 := hcc.2.2.1
      have cHX3 := hcc.2.2.2.1
      have cHX4 := hcc.2.2.2.2.1
      have cHX5 := hcc.2.2.2.2.2.1
      have cHX6 := hcc.2.2.2.2.2.2.1
      have cHX7 := hcc.2.2.2.2.2.2.2.1
      have cHX8 := hcc.2.2.2.2.2.2.2.2
      clear hcc
      refine step_of ⟨some 26, _, _, _, _, _⟩ rfl (fun K' hK => ?_)
      go_simp
      exact hK.out _ _ ⟨_, hF.pure hok hla hpre rfl (Below.refl _ _), rfl⟩
     rcases Nat.lt_or_ge i 2 with hi | hge
     ·obtain rfl := eqi hi hge
      have ro3 : A.tmps[3]? = some (.pointer (some ⟨(BX + 1), 0, none⟩)) := hR.out 1 _ rfl
      have hcc := (nine_at (keep_block HY.out (below_none hF.low))).1
      have cHY0 := hcc.1
      have cHY1 := hcc.2.1
      have cHY2 := hcc.2.2.1
      have cHY3 := hcc.2.2.2.1
      have cHY4 := hcc.2.2.2.2.1
      have cHY5 := hcc.2.2.2.2.2.1
      have cHY6 := hcc.2.2.2.2.2.2.1
      have cHY7 := hcc.2.2.2.2.2.2.2.1
      have cHY8 := hcc.2.2.2.2.2.2.2.2
      clear hcc
      refine step_of ⟨some 27, _, _, _, _, _⟩ rfl (fun K' hK => ?_)
      go_simp
      exact hK.out _ _ ⟨_, hF.pure hok hla hpre rfl (Below.refl _ _), rfl⟩
     obtain rfl := eqi hi hge
     have p0 := hpre 0 (by kernel_rfl)
     have e0 : s0 = .agg #[.int .i64 1, .string (numS p), .string (denS p), .string { data := #[] }, .bool false, .int .i64 0, .int .i64 0, .int .i64 0, .slice none 0 0] := hF.get 0 _ rfl (.inr p0)
     subst e0
     have r0 : A.tmps[26]? = some (.agg #[.int .i64 1, .string (numS p), .string (denS p), .string { data := #[] }, .bool false, .int .i64 0, .int .i64 0, .int .i64 0, .slice none 0 0]) := hR.own 0 _ _ rfl rfl
     have p1 := hpre 1 (by kernel_rfl)
     have e1 : s1 = .agg #[.int .i64 1, .string (numS q), .string (denS q), .string { data := #[] }, .bool false, .int .i64 0, .int .i64 0, .int .i64 0, .slice none 0 0] := hF.get 1 _ rfl (.inr p1)
     subst e1
     have r1 : A.tmps[27]? = some (.agg #[.int .i64 1, .string (numS q), .string (denS q), .string { data := #[] }, .bool false, .int .i64 0, .int .i64 0, .int .i64 0, .slice none 0 0]) := hR.own 1 _ _ rfl rfl
     refine step_of ⟨some 28, _, _, _, _, _⟩ rfl (fun K' hK => ?_)
     go_simp
     go_at_call 17
     (with_reducible refine (compared_num p q _ hp hq).mono ?_)
     rintro e Wq ⟨rfl, hq⟩
     exact hK.out _ _ ⟨_, hF.pure hok hla hpre rfl hq, rfl⟩
    rcases Nat.lt_or_ge i 4 with hi | hge
    ·obtain rfl := eqi hi hge
     have ro2 : A.tmps[2]? = some (.pointer (some ⟨BX, 0, none⟩)) := hR.out 0 _ rfl
     refine step_of ⟨some 29, _, _, _, _, _⟩ rfl (fun K' hK => ?_)
     go_simp
     exact hK.out _ _ ⟨_, hF.pure hok hla hpre rfl (Below.refl _ _), rfl⟩
    rcases Nat.lt_or_ge i 5 with hi | hge
    ·obtain rfl := eqi hi hge
     have p3 := hpre 3 (by kernel_rfl)
     have e3 : s3 = .pointer (some ⟨BX, 3, none⟩) := hF.get 3 _ rfl (.inr p3)
     subst e3
     have r3 : A.tmps[29]? = some (.pointer (some ⟨BX, 3, none⟩)) := hR.own 3 _ _ rfl rfl
     have hcc := (nine_at (keep_block HX.out (below_none hF.low))).1
     have cHX0 := hcc.1
     have cHX1 := hcc.2.1
     have cHX2 := hcc.2.2.1
     have cHX3 := hcc.2.2.2.1
     have cHX4 := hcc.2.2.2.2.1
     have cHX5 := hcc.2.2.2.2.2.1
     have cHX6 := hcc.2.2.2.2.2.2.1
     have cHX7 := hcc.2.2.2.2.2.2.2.1
     have cHX8 := hcc.2.2.2.2.2.2.2.2
     clear hcc
     refine step_of ⟨some 30, _, _, _, _, _⟩ rfl (fun K' hK => ?_)
     go_simp
     exact hK.out _ _ ⟨_, hF.pure hok hla hpre rfl (Below.refl _ _), rfl⟩
    obtain rfl := eqi hi hge
    have ro3 : A.tmps[3]? = some (.pointer (some ⟨(BX + 1), 0, none⟩)) := hR.out 1 _ rfl
    refine step_of ⟨some 31, _, _, _, _, _⟩ rfl (fun K' hK => ?_)
    go_simp
    exact hK.out _ _ ⟨_, hF.pure hok hla hpre rfl (Below.refl _ _), rfl⟩
   rcases Nat.lt_or_ge i 9 with hi | hge
   ·rcases Nat.lt_or_ge i 7 with hi | hge
    ·obtain rfl := eqi hi hge
     have p5 := hpre 5 (by kernel_rfl)
     have e5 : s5 = .pointer (some ⟨(BX + 1), 3, none⟩) := hF.get 5 _ rfl (.inr p5)
     subst e5
     have r5 : A.tmps[31]? = some (.pointer (some ⟨(BX + 1), 3, none⟩)) := hR.own 5 _ _ rfl rfl
     have hcc := (nine_at (keep_block HY.out (below_none hF.low))).1
     have cHY0 := hcc.1
     have cHY1 := hcc.2.1
     have cHY2 := hcc.2.2.1
     have cHY3 := hcc.2.2.2.1
     have cHY4 := hcc.2.2.2.2.1
     have cHY5 := hcc.2.2.2.2.2.1
     have cHY6 := hcc.2.2.2.2.2.2.1
     have cHY7 := hcc.2.2.2.2.2.2.2.1
     have cHY8 := hcc.2.2.2.2.2.2.2.2
     clear hcc
     refine step_of ⟨some 32, _, _, _, _, _⟩ rfl (fun K' hK => ?_)
     go_simp
     exact hK.out _ _ ⟨_, hF.pure hok hla hpre rfl (Below.refl _ _), rfl⟩
    rcases Nat.lt_or_ge i 8 with hi | hge
    ·obtain rfl := eqi hi hge
     have p4 := hpre 4 (by kernel_rfl)
     have e4 : s4 = .string { data := #[] } := hF.get 4 _ rfl (.inr p4)
     subst e4
     have r4 : A.tmps[30]? = some (.string { data := #[] }) := hR.own 4 _ _ rfl rfl
     have p6 := hpre 6 (by kernel_rfl)
     have e6 : s6 = .string { data := #[] } := hF.get 6 _ rfl (.inr p6)
     subst e6
     have r6 : A.tmps[32]? = some (.string { data := #[] }) := hR.own 6 _ _ rfl rfl
     refine step_of ⟨some 33, _, _, _, _, _⟩ rfl (fun K' hK => ?_)
     go_simp
     go_at_call 18
     (with_reducible refine (compare_none _).mono ?_)
     rintro e Wq ⟨rfl, hq⟩
     exact hK.out _ _ ⟨_, hF.pure hok hla hpre rfl hq, rfl⟩
    obtain rfl := eqi hi hge
    have p2 := hpre 2 (by kernel_rfl)
    have e2 : s2 = .int .i64 (cmpR p q) := hF.get 2 _ rfl (.inr p2)
    subst e2
    have r2 : A.tmps[28]? = some (.int .i64 (cmpR p q)) := hR.own 2 _ _ rfl rfl
    have p7 := hpre 7 (by kernel_rfl)
    have e7 : s7 = .int .i64 0 := hF.get 7 _ rfl (.inr p7)
    subst e7
    have r7 : A.tmps[33]? = some (.int .i64 0) := hR.own 7 _ _ rfl rfl
    refine step_of ⟨some 34, _, _, _, _, _⟩ rfl (fun K' hK => ?_)
    go_simp
    exact hK.out _ _ ⟨_, hF.row hok hla hpre rfl, rfl⟩
   rcases Nat.lt_or_ge i 10 with hi | hge
   ·obtain rfl := eqi hi hge
    have p8 := hpre 8 (by kernel_rfl)
    obtain ⟨G8, eG8, _, hGB8⟩ : ∃ G, s8 = .slice (some ⟨G, 0, none⟩) 2 2 ∧ _ ≤ G ∧ Wr.heap[G]? = some (.cells #[.int .i64 (cmpR p q), .int .i64 0] 3 (0, 0)) := hF.get 8 _ rfl (.inr p8)
    subst eG8
    have r8 : A.tmps[34]? = some (.slice (some ⟨G8, 0, none⟩) 2 2) := hR.own 8 _ _ rfl rfl
    refine step_of ⟨some 35, _, _, _, _, _⟩ rfl (fun K' hK => ?_)
    go_simp
    go_at_call 16
    (with_reducible refine (or_two _ (cmpR p q) _ _ hGB8).mono ?_)
    rintro e Wq ⟨rfl, hq⟩
    exact hK.out _ _ ⟨_, hF.pure hok hla hpre rfl hq, rfl⟩
   rcases Nat.lt_or_ge i 11 with hi | hge
   ·obtain rfl := eqi hi hge
    have p9 := hpre 9 (by kernel_rfl)
    have e9 : s9 = .int .i64 (cmpR p q) := hF.get 9 _ rfl (.inr p9)
    subst e9
    have r9 : A.tmps[35]? = some (.int .i64 (cmpR p q)) := hR.own 9 _ _ rfl rfl
    refine step_of ⟨some 4, _, _, _, _, _⟩ rfl (fun K' hK => ?_)
    go_simp
    exact hK.out _ _ ⟨_, hF.pure hok hla hpre rfl (Below.refl _ _), rfl⟩
   obtain rfl := eqi hi hge
   refine step_of ⟨some 5, _, _, _, _, _⟩ rfl (fun K' hK => ?_)
   go_simp
   exact hK.out _ _ ⟨_, hF.pure hok hla hpre rfl (Below.refl _ _), rfl⟩
  case hd =>
   rintro listed vs W2 hF hall
   obtain ⟨s0, s1, s2, s3, s4, s5, s6, s7, s8, s9, s10, s11, hvs⟩ := exl_of 12 vs (fun l => vs = l) hF.len rfl
   subst hvs
   have e10 : s10 = .int .i64 (cmpR p q) := hF.get 10 _ rfl (.inr (hall 10 (by decide)))
   subst e10
   have e11 : s11 = .int .i64 0 := hF.get 11 _ rfl (.inr (hall 11 (by decide)))
   subst e11
   have hq := below_none hF.low
   replace HL := Lib.hid (HL.out.trans (hq.mono HL.out.size))
   clear hq
   clear hF hall hok hla hna
   refine rest_end ?_
   simp only [putO, layL]
   go_wp2
   go_ret2
   exact ⟨rfl, HL.out⟩
theorem cmpR_three (p q : Rat) : cmpR p q = 0 ∨ cmpR p q = -1 ∨ cmpR p q = 1 := by
 unfold cmpR
 split
 ·exact .inl rfl
 ·split
  ·exact .inr (.inl rfl)
  ·exact .inr (.inr rfl)
set_option maxHeartbeats 8000000 in
set_option maxRecDepth 100000 in
theorem order_flook (p q : Rat) (k : Int) (w : World) (hk : k = 1 ∨ k = -1) (hp : fits p = true) (hq : fits q = true) (hE : Env w) : Calls Tryz.prog 143 #[.agg #[.int .i64 1, .string (numS p), .string (denS p), .string { data := #[] }, .bool false, .int .i64 0, .int .i64 0, .int .i64 0, .slice none 0 0], .agg #[.int .i64 1, .string (numS q), .string (denS q), .string { data := #[] }, .bool false, .int .i64 0, .int .i64 0, .int .i64 0, .slice none 0 0], .int .i64 k] w fun e w' => e = .returned (.int .i64 (cmpR p q * k)) ∧ Below w.heap.size w w' := by
 have TB := Lib.hid (fun W g => order_num p q W hp hq g)
 have hw : IntKind.i64.wrap (cmpR p q * k) = cmpR p q * k := IntWalk.i64_in _ (by
  rcases cmpR_three p q with h | h | h <;> rw [h] <;> rcases hk with h | h <;> rw [h] <;> decide)
 obtain ⟨hx, hy, _⟩ := two_new w (.cells #[.int .i64 1, .string (numS p), .string (denS p), .string { data := #[] }, .bool false, .int .i64 0, .int .i64 0, .int .i64 0, .slice none 0 0] 27) (.cells #[.int .i64 1, .string (numS q), .string (denS q), .string { data := #[] }, .bool false, .int .i64 0, .int .i64 0, .int .i64 0, .slice none 0 0] 27)
 have hb : Below w.heap.size w ((w.alloc (.cells #[.int .i64 1, .string (numS p), .string (denS p), .string { data := #[] }, .bool false, .int .i64 0, .int .i64 0, .int .i64 0, .slice none 0 0] 27)).alloc (.cells #[.int .i64 1, .string (numS q), .string (denS q), .string { data := #[] }, .bool false, .int .i64 0, .int .i64 0, .int .i64 0, .slice none 0 0] 27)) := ((Below.refl _ _).alloc (Nat.le_refl _) _).alloc (by simp) _
 have HX := Lib.hid hx
 have HY := Lib.hid hy
 have HL := Lib.hid hb
 have HE := Lib.hid (hE.below hb)
 clear hx hy hb hE hp hq hk
 obtain ⟨⟨x0, x1, x2, x3, x4, x5, x6, x7, x8⟩, _⟩ := nine_at HX.out
 obtain ⟨⟨y0, y1, y2, y3, y4, y5, y6, y7, y8⟩, _⟩ := nine_at HY.out
 go_enter Tryz.func143, Tryz.ntmps143
 go_wp2_with fail
 refine (TB.out _ HE.out).mono ?_
 rintro e w1 ⟨rfl, hb⟩
 replace HX := Lib.hid (keep_block HX.out hb)
 replace HY := Lib.hid (keep_block HY.out hb)
 replace HL := Lib.hid (HL.out.trans (hb.mono HL.out.size))
 clear hb x0 x1 x2 x3 x4 x5 x6 x7 x8 y0 y1 y2 y3 y4 y5 y6 y7 y8
 obtain ⟨⟨x0, x1, x2, x3, x4, x5, x6, x7, x8⟩, _⟩ := nine_at HX.out
 obtain ⟨⟨y0, y1, y2, y3, y4, y5, y6, y7, y8⟩, _⟩ := nine_at HY.out
 go_wp2
 go_ret
 exact ⟨rfl, HL.out⟩
end Go.Proofs.YtkghpiaoggljjaaGreatDoor.Num.Mt

/- package value: arrays of numbers: Check, List, Size, Inside. Conditions: the items are numbers that fit; the tables lie as they are laid. -/
namespace Go.Proofs.YtkghpiaoggljjaaGreatDoor.Num
open Go.RowKit Go.Lib

/-- an array as a value, field by field -/
def arrVal' (r s : Int) (g L C : Nat) : Val := ⟨5, { data := #[] }, { data := #[] }, { data := #[] }, false, 0, r, s, some ⟨g, 0, none⟩, L, C⟩
/-- what stays while the items of an array are gone through -/
structure RowI (w : World) (g : Nat) (qs : List Rat) (W : World) : Prop where
 row : ValsAt W g 0 (numVals qs)
 env : Env W
 low : Below w.heap.size w W
theorem RowI.step {w W W' : World} {g : Nat} {qs : List Rat} (h : RowI w g qs W) (hb : Below W.heap.size W W') : RowI w g qs W' :=
 ⟨h.row.below hb, h.env.below hb, h.low.trans (hb.mono h.low.size)⟩
/-- the cells of item i -/
theorem item_at {W : World} {g : Nat} {qs : List Rat} (h : ValsAt W g 0 (numVals qs)) (i : Nat) (hi : i < qs.length) (q : Rat) (hq : qs[i] = q) :
  W.cell? ⟨g, i * 9, none⟩ = some (.int .i64 1) ∧ W.cell? ⟨g, i * 9 + 1, none⟩ = some (.string (numS q)) ∧ W.cell? ⟨g, i * 9 + 2, none⟩ = some (.string (denS q)) ∧ W.cell? ⟨g, i * 9 + 3, none⟩ = some (.string { data := #[] }) ∧ W.cell? ⟨g, i * 9 + 4, none⟩ = some (.bool false) ∧ W.cell? ⟨g, i * 9 + 5, none⟩ = some (.int .i64 0) ∧ W.cell? ⟨g, i * 9 + 6, none⟩ = some (.int .i64 0) ∧ W.cell? ⟨g, i * 9 + 7, none⟩ = some (.int .i64 0) ∧ W.cell? ⟨g, i * 9 + 8, none⟩ = some (.slice none 0 0) := by
 have hl : i < (numVals qs).length := by rw [numVals_len]; exact hi
 have := h.at i hl
 rw [numVals_at qs i hl, hq, Nat.zero_add] at this
 exact this

set_option maxHeartbeats 4000000 in
set_option maxRecDepth 100000 in
theorem array_ok (qs : List Rat) (r s : Int) (g C : Nat) (w : World) (hr : 1 ≤ r) (hr9 : r ≤ 1000) (hs : 1 ≤ s) (hs9 : s ≤ 1000) (hrs : r * s = (qs.length : Int)) (hq : ∀ q ∈ qs, fits q = true) (h9 : qs.length ≤ 1000) (hv : ValsAt w g 0 (numVals qs)) (hE : Env w) :
  Calls Tryz.prog 75 #[.agg #[.int .i64 5, .string { data := #[] }, .string { data := #[] }, .string { data := #[] }, .bool false, .int .i64 0, .int .i64 r, .int .i64 s, .slice (some ⟨g, 0, none⟩) qs.length C]] w fun e w' => e = .returned (.int .i64 0) ∧ Below w.heap.size w w' := by
 have hb : Below w.heap.size w (w.alloc (.cells #[.int .i64 5, .string { data := #[] }, .string { data := #[] }, .string { data := #[] }, .bool false, .int .i64 0, .int .i64 r, .int .i64 s, .slice (some ⟨g, 0, none⟩) qs.length C] 27)) := (Below.refl _ _).alloc (Nat.le_refl _) _
 have HI0 := Lib.hid (show RowI w g qs (w.alloc (.cells #[.int .i64 5, .string { data := #[] }, .string { data := #[] }, .string { data := #[] }, .bool false, .int .i64 0, .int .i64 r, .int .i64 s, .slice (some ⟨g, 0, none⟩) qs.length C] 27)) from ⟨hv.below hb, hE.below hb, hb⟩)
 have HQ := Lib.hid hq
 have d1 : decide (r < 1) = false := decide_eq_false (by omega)
 have d2 : decide (100000 < r) = false := decide_eq_false (by omega)
 have d3 : decide (s < 1) = false := decide_eq_false (by omega)
 have d4 : decide (100000 < s) = false := decide_eq_false (by omega)
 obtain ⟨L, hL⟩ : ∃ L, qs.length = L := ⟨_, rfl⟩
 have HLL := Lib.hid hL
 rw [hL] at hrs h9 HI0 ⊢
 have d5 : decide (100000 < (L : Int)) = false := decide_eq_false (by omega)
 have hwr : IntKind.i64.wrap (L : Int) = (L : Int) := IntWalk.i64_in _ (by omega)
 clear hb hv hE hq hL
 go_enter Tryz.func75, Tryz.ntmps75
 go_wp2_with fail
 go_loopg [42] L (fun gh v42 wx => ∃ k : Nat, v42 = .int .i64 (k : Int) ∧ k ≤ L ∧ gh = L - k ∧ RowI w g qs wx)
 case atStart => exact ⟨0, rfl, Nat.zero_le _, rfl, HI0.out⟩
 case round =>
  clear HI0
  obtain ⟨k, rfl, hk, rfl, hti⟩ := hrel
  have HTI := Lib.hid hti
  clear hti hrs hwr
  by_cases hlt : k < L
  ·have hd : decide ((k : Int) < (L : Int)) = true := decide_eq_true (by omega)
   have hd2 : decide (k < L) = true := decide_eq_true hlt
   have hkq : k < qs.length := by rw [HLL.out]; exact hlt
   obtain ⟨q, hqq⟩ : ∃ q, qs[k] = q := ⟨_, rfl⟩
   have hfq : fits q = true := by rw [← hqq]; exact HQ.out _ (List.getElem_mem hkq)
   obtain ⟨c0, c1, c2, c3, c4, c5, c6, c7, c8⟩ := item_at HTI.out.row k hkq q hqq
   have TC := Lib.hid (fun W gg => check_num q W hfq gg)
   have hi0 : (0 : Int) ≤ (k : Int) := by omega
   have hi1 : (k : Int) < (L : Int) := by omega
   clear hfq hkq hqq
   have HTA := Lib.hid (HTI.out.step ((Below.refl wr.heap.size wr).alloc (Nat.le_refl _) (.cells #[.int .i64 1, .string (numS q), .string (denS q), .string { data := #[] }, .bool false, .int .i64 0, .int .i64 0, .int .i64 0, .slice none 0 0] 27)))
   go_wp2_with fail
   refine (TC.out _ HTA.out.env).mono ?_
   rintro e w2 ⟨rfl, hb⟩
   have HT2 := Lib.hid (HTA.out.step hb)
   clear hb c0 c1 c2 c3 c4 c5 c6 c7 c8
   go_wp2
   go_roundg (L - (k + 1))
   case measure => omega
   case rel => exact ⟨k + 1, by go_num, by omega, by omega, HT2.out⟩
  ·have hd : decide ((k : Int) < (L : Int)) = false := decide_eq_false (by omega)
   have hd2 : decide (k < L) = false := decide_eq_false hlt
   clear hlt
   go_wp2
   go_ret
   exact ⟨rfl, HTI.out.low⟩

set_option maxHeartbeats 4000000 in
set_option maxRecDepth 100000 in
theorem check_arr (qs : List Rat) (r s : Int) (g C : Nat) (w : World) (hr : 1 ≤ r) (hr9 : r ≤ 1000) (hs : 1 ≤ s) (hs9 : s ≤ 1000) (hrs : r * s = (qs.length : Int)) (hq : ∀ q ∈ qs, fits q = true) (h9 : qs.length ≤ 1000) (hv : ValsAt w g 0 (numVals qs)) (hE : Env w) :
  Calls Tryz.prog 24 #[.agg #[.int .i64 5, .string { data := #[] }, .string { data := #[] }, .string { data := #[] }, .bool false, .int .i64 0, .int .i64 r, .int .i64 s, .slice (some ⟨g, 0, none⟩) qs.length C]] w fun e w' => e = .returned (.int .i64 0) ∧ Below w.heap.size w w' := by
 have TA := Lib.hid (fun W hvv gg => array_ok qs r s g C W hr hr9 hs hs9 hrs hq h9 hvv gg)
 have HX := Lib.hid (heap_alloc_new w (.cells #[.int .i64 5, .string { data := #[] }, .string { data := #[] }, .string { data := #[] }, .bool false, .int .i64 0, .int .i64 r, .int .i64 s, .slice (some ⟨g, 0, none⟩) qs.length C] 27))
 have HL := Lib.hid (show Below w.heap.size w (w.alloc (.cells #[.int .i64 5, .string { data := #[] }, .string { data := #[] }, .string { data := #[] }, .bool false, .int .i64 0, .int .i64 r, .int .i64 s, .slice (some ⟨g, 0, none⟩) qs.length C] 27)) from (Below.refl _ _).alloc (Nat.le_refl _) _)
 have HE := Lib.hid (hE.below HL.out)
 have HV := Lib.hid (hv.below HL.out)
 have TZ := Lib.hid (fun W => zeros_arr r s (some ⟨g, 0, none⟩) qs.length C W)
 obtain ⟨L, hL⟩ : ∃ L, qs.length = L := ⟨_, rfl⟩
 rw [hL] at TA HX HL HE TZ HV ⊢
 clear hE hv hr hr9 hs hs9 hrs hq h9 hL
 go_enter Tryz.func24, Tryz.ntmps24
 go_wp2_with fail
 refine (TZ.out _).mono ?_
 rintro e W1 ⟨rfl, hb⟩
 replace HX := Lib.hid (keep_block HX.out hb)
 replace HE := Lib.hid (HE.out.below hb)
 replace HV := Lib.hid (HV.out.below hb)
 replace HL := Lib.hid (HL.out.trans (hb.mono HL.out.size))
 clear hb
 obtain ⟨⟨x0, x1, x2, x3, x4, x5, x6, x7, x8⟩, _⟩ := nine_at HX.out
 go_wp2_with fail
 refine (TA.out _ HV.out HE.out).mono ?_
 rintro e W2 ⟨rfl, hb⟩
 replace HL := Lib.hid (HL.out.trans (hb.mono HL.out.size))
 clear hb
 go_wp2
 go_ret
 exact ⟨rfl, HL.out⟩

set_option maxHeartbeats 4000000 in
set_option maxRecDepth 100000 in
theorem list_arr (r s : Int) (g L C : Nat) (w : World) :
  Calls Tryz.prog 130 #[.agg #[.int .i64 5, .string { data := #[] }, .string { data := #[] }, .string { data := #[] }, .bool false, .int .i64 0, .int .i64 r, .int .i64 s, .slice (some ⟨g, 0, none⟩) L C]] w fun e w' => e = .returned (.slice (some ⟨g, 0, none⟩) L C) ∧ Below w.heap.size w w' := by
 have HL := Lib.hid (show Below w.heap.size w (w.alloc (.cells #[.int .i64 5, .string { data := #[] }, .string { data := #[] }, .string { data := #[] }, .bool false, .int .i64 0, .int .i64 r, .int .i64 s, .slice (some ⟨g, 0, none⟩) L C] 27)) from (Below.refl _ _).alloc (Nat.le_refl _) _)
 go_enter Tryz.func130, Tryz.ntmps130
 go_wp2
 go_ret
 exact ⟨rfl, HL.out⟩

end Go.Proofs.YtkghpiaoggljjaaGreatDoor.Num
