/- Numbers as texts of digits, fractions, values and the functions of fmath: contracts of the program's functions, joined from smaller texts. Conditions stand at each theorem. -/
import Derived.Test.YtcgglmoeneiokaaGreatDoorNumI
import Derived.Test.YtcgglmoeneiokaaGreatDoorNumH
import Derived.Deep.RegionWith
import Derived.IntWalk

/- Binomial coefficients and falling products. Plain: no program. -/
namespace Go.Proofs.YtcgglmoeneiokaaGreatDoor.Num

def choose : Nat → Nat → Nat
  | _, 0 => 1
  | 0, _ + 1 => 0
  | n + 1, k + 1 => choose n k + choose n (k + 1)
def desc (n : Nat) : Nat → Nat
  | 0 => 1
  | k + 1 => desc n k * (n - k)
theorem choose_zero (n : Nat) : choose n 0 = 1 := by cases n <;> rfl
theorem choose_succ (n k : Nat) : choose (n + 1) (k + 1) = choose n k + choose n (k + 1) := rfl
theorem choose_more : ∀ (n k : Nat), n < k → choose n k = 0
  | 0, 0, h => by omega
  | 0, k + 1, _ => rfl
  | n + 1, 0, h => by omega
  | n + 1, k + 1, h => by rw [choose_succ, choose_more n k (by omega), choose_more n (k + 1) (by omega)]
theorem choose_self : ∀ n : Nat, choose n n = 1
  | 0 => rfl
  | n + 1 => by rw [choose_succ, choose_self n, choose_more n (n + 1) (by omega)]
theorem choose_mul : ∀ (n k : Nat), (n + 1) * choose n k = choose (n + 1) (k + 1) * (k + 1)
  | 0, 0 => rfl
  | 0, k + 1 => by rw [choose_more 0 (k + 1) (by omega), choose_more 1 (k + 2) (by omega)]; simp
  | n + 1, 0 => by
    have h := choose_mul n 0
    rw [choose_zero] at h ⊢
    rw [choose_succ (n + 1) 0, choose_zero]
    simp only [Nat.zero_add, Nat.mul_one] at h ⊢
    omega
  | n + 1, k + 1 => by
    have h1 := choose_mul n k
    have h2 := choose_mul n (k + 1)
    rw [choose_succ (n + 1) (k + 1)]
    rw [choose_succ n k] at h1 ⊢
    rw [choose_succ n (k + 1)] at h2 ⊢
    grind
theorem choose_le : ∀ (n k : Nat), choose n k ≤ 2 ^ n
  | n, 0 => by rw [choose_zero]; exact Nat.one_le_two_pow
  | 0, k + 1 => by simp [choose]
  | n + 1, k + 1 => by
    have h1 := choose_le n k
    have h2 := choose_le n (k + 1)
    rw [choose_succ, Nat.pow_succ]; omega
theorem desc_succ (n : Nat) : ∀ k, desc (n + 1) (k + 1) = (n + 1) * desc n k
  | 0 => by simp [desc]
  | k + 1 => by
    rw [show desc (n + 1) (k + 1 + 1) = desc (n + 1) (k + 1) * (n + 1 - (k + 1)) from rfl, desc_succ n k]
    rw [show desc n (k + 1) = desc n k * (n - k) from rfl, show n + 1 - (k + 1) = n - k by omega, Nat.mul_assoc]
theorem desc_choose : ∀ (n k : Nat), desc n k = choose n k * desc k k
  | n, 0 => by rw [choose_zero]; rfl
  | 0, k + 1 => by
    rw [choose_more 0 (k + 1) (by omega), show desc 0 (k + 1) = desc 0 k * (0 - k) from rfl]; simp
  | n + 1, k + 1 => by
    rw [desc_succ n k, desc_succ k k, desc_choose n k, ← Nat.mul_assoc, ← Nat.mul_assoc, choose_mul]
theorem desc_le (n : Nat) : ∀ k, desc n k ≤ n ^ k
  | 0 => by simp [desc]
  | k + 1 => by
    rw [Nat.pow_succ]
    exact Nat.mul_le_mul (desc_le n k) (Nat.sub_le n k)
theorem pow_mono {a b c d : Nat} (h : a ≤ b) (k : c ≤ d) (hb : 0 < b) : a ^ c ≤ b ^ d :=
  Nat.le_trans (Nat.pow_le_pow_left h c) (Nat.pow_le_pow_right hb k)
theorem desc_small {n k : Nat} (hn : n ≤ 200) (hk : k ≤ 100) : desc n k ≤ 200 ^ 100 := Nat.le_trans (desc_le n k) (pow_mono hn hk (by decide))
theorem choose_small {n k : Nat} (hn : n ≤ 200) : choose n k ≤ 2 ^ 200 := Nat.le_trans (choose_le n k) (Nat.pow_le_pow_right (by decide) hn)
/-- one round of COMBIN -/
theorem choose_step (m i : Nat) : ((choose (m + i) i : Nat) : Rat) * ((m + (i + 1) : Nat) : Rat) / ((i + 1 : Nat) : Rat) = ((choose (m + (i + 1)) (i + 1) : Nat) : Rat) := by
  have h := choose_mul (m + i) i
  rw [show m + (i + 1) = m + i + 1 by omega]
  have h0 : ((i + 1 : Nat) : Rat) ≠ 0 := by
    intro e
    have : ((i + 1 : Nat) : Rat) = ((0 : Nat) : Rat) := e
    have h2 : i + 1 = 0 := by exact_mod_cast this
    omega
  have h3 : ((choose (m + i) i : Nat) : Rat) * ((m + i + 1 : Nat) : Rat) = ((choose (m + i + 1) (i + 1) : Nat) : Rat) * ((i + 1 : Nat) : Rat) := by
    rw [← Rat.natCast_mul, ← Rat.natCast_mul, ← h, Nat.mul_comm]
  rw [h3, Rat.div_def, Rat.mul_assoc, Rat.mul_inv_cancel _ h0, Rat.mul_one]
end Go.Proofs.YtcgglmoeneiokaaGreatDoor.Num

/- package fmath: chosen, falling, and the functions of COMBIN, PERMUT, FACT. Conditions: nothing is too long; the tables lie as they are laid. -/
namespace Go.Proofs.YtcgglmoeneiokaaGreatDoor.Num
open Go.RowKit Go.Lib

set_option maxHeartbeats 4000000 in
set_option maxRecDepth 100000 in
theorem chosen_any (n k : Nat) (b g C : Nat) (w : World) (hn : n ≤ 500) (hk : k ≤ n) (ha : ArgsAt w b (some ⟨g, 0, none⟩) 2 C 0) (hne : g ≠ b) (hc1 : NumCells w g (0 + 0 * 9) ((n : Int) : Rat)) (hc2 : NumCells w g (0 + 1 * 9) ((k : Int) : Rat)) (hE : Env w) (hP : Past b) :
    Calls Tryz.prog 156 #[.pointer (some ⟨b, 0, none⟩)] w fun e w' => e = .returned (.tuple #[.int .i64 (n : Int), .int .i64 (k : Int)]) ∧ w.grownBy w' (some b) := by
  have TN1 := Lib.hid (fun W' ga gc ge => argWhole_any b g 0 2 C 0 ((n : Int) : Rat) W' ga (by decide) (by decide) hne gc (fits_int _ (by omega)) (by rw [Rat.floor_intCast]; omega) (by rw [Rat.floor_intCast]; omega) ge hP)
  have TN2 := Lib.hid (fun W' ga gc ge => argWhole_any b g 0 2 C 1 ((k : Int) : Rat) W' ga (by decide) (by decide) hne gc (fits_int _ (by omega)) (by rw [Rat.floor_intCast]; omega) (by rw [Rat.floor_intCast]; omega) ge hP)
  rw [Rat.floor_intCast] at TN1 TN2
  have HA := Lib.hid ha
  have HC1 := Lib.hid hc1
  have HC2 := Lib.hid hc2
  have HE := Lib.hid hE
  have HP := Lib.hid hP
  have NG := Lib.hid hne
  have TW1 := Lib.hid (fun W => within_in (n : Int) 0 500 W (by omega) (by omega))
  have TW2 := Lib.hid (fun W => within_in (k : Int) 0 (n : Int) W (by omega) (by omega))
  clear ha hc1 hc2 hE hP hne
  go_enter Tryz.func156, Tryz.ntmps156
  go_wp2_with fail
  refine (TN1.out _ HA.out HC1.out HE.out).mono ?_
  rintro e W1 ⟨rfl, ha, hg⟩
  replace HA := Lib.hid ha
  replace HC2 := Lib.hid (HC2.out.kept hg NG.out)
  replace HE := Lib.hid (HE.out.kept hg HP.out)
  have HG := Lib.hid hg
  clear ha hg
  go_wp2_with fail
  refine (TN2.out _ HA.out HC2.out HE.out).mono ?_
  rintro e W2 ⟨rfl, ha, hg⟩
  replace HG := Lib.hid (kept_trans HG.out hg)
  clear ha hg
  go_wp2_with fail
  refine (TW1.out _).mono ?_
  rintro e W3 ⟨rfl, rfl⟩
  go_wp2_with fail
  refine (TW2.out _).mono ?_
  rintro e W4 ⟨rfl, rfl⟩
  go_wp2
  go_ret2
  exact ⟨rfl, HG.out⟩

/-- a falling product as a fraction -/
def descR (n k : Nat) : Rat := ((desc n k : Nat) : Int)
theorem descR_step (n i : Nat) (h : i ≤ n) : descR n i * (((n : Int) - (i : Int) : Int) : Rat) = descR n (i + 1) := by
  unfold descR
  rw [← Rat.intCast_mul, show ((n : Int) - (i : Int)) = ((n - i : Nat) : Int) by omega, ← Int.natCast_mul]
  rfl

set_option maxHeartbeats 8000000 in
set_option maxRecDepth 100000 in
theorem falling_any (n k : Nat) (w : World) (hn : n ≤ 500) (hk : k ≤ n) (hf : ∀ i, i ≤ k → fits (descR n i) = true) (hE : Env w) :
    Calls Tryz.prog 154 #[.int .i64 (n : Int), .int .i64 (k : Int)] w fun e w' => e = .returned (fracV (descR n k)) ∧ Below w.heap.size w w' := by
  have TO1 := Lib.hid (fun W gg => of_any 1 W (by decide) (by decide) gg)
  rw [show ((1 : Int) : Rat) = descR n 0 from rfl, fracV_is (descR n 0)] at TO1
  have hb : Below w.heap.size w (w.alloc (.cells #[.string { data := #[] }, .string { data := #[] }] 24)) := (Below.refl _ _).alloc (Nat.le_refl _) _
  have HR := Lib.hid (heap_alloc_new w (.cells #[.string { data := #[] }, .string { data := #[] }] 24))
  have HE := Lib.hid (hE.below hb)
  have HL := Lib.hid hb
  have HF := Lib.hid hf
  clear hb hf hE
  rw [fracV_is (descR n k)]
  go_enter Tryz.func154, Tryz.ntmps154
  go_wp2_with fail
  refine (TO1.out _ HE.out.tab).mono ?_
  rintro e w1 ⟨rfl, hb⟩
  replace HR := Lib.hid (keep_block HR.out hb)
  replace HE := Lib.hid (HE.out.below hb)
  replace HL := Lib.hid (HL.out.trans (hb.mono HL.out.size))
  clear hb
  have hb : Below w1.heap.size w1 (w1.alloc (.cells #[.string (numS (descR n 0)), .string (denS (descR n 0))] 24)) := (Below.refl _ _).alloc (Nat.le_refl _) _
  have HS := Lib.hid (heap_alloc_new w1 (.cells #[.string (numS (descR n 0)), .string (denS (descR n 0))] 24))
  have NP := Lib.hid (show w.heap.size < w1.heap.size from heap_lt HR.out)
  have HPP := Lib.hid (show Past w1.heap.size from HE.out.room)
  replace HR := Lib.hid (keep_block HR.out hb)
  replace HE := Lib.hid (HE.out.below hb)
  replace HL := Lib.hid (HL.out.trans (hb.mono HL.out.size))
  clear hb
  have HI0 := Lib.hid (show TotI w (w1.heap.size + 1) w1.heap.size w.heap.size [] (descR n 0) _ from ⟨fun i hi => by simp at hi, HS.out, HR.out, HE.out, HL.out⟩)
  clear HR HE HL HS
  obtain ⟨P, hPn⟩ : ∃ P, w1.heap.size = P := ⟨_, rfl⟩
  have HPN := Lib.hid hPn
  rw [hPn] at NP HPP HI0
  go_wp2_with fail
  go_loopg [9] k (fun gh v9 wx => ∃ i : Nat, v9 = .int .i64 (i : Int) ∧ i ≤ k ∧ gh = k - i ∧ TotI w (P + 1) P w.heap.size [] (descR n i) wx)
  case atStart => exact ⟨0, rfl, Nat.zero_le _, rfl, HI0.out⟩
  case round =>
    clear HI0
    obtain ⟨i, rfl, hi, rfl, hti⟩ := hrel
    have HTI := Lib.hid hti
    clear hti
    by_cases hlt : i < k
    · have hd : decide ((i : Int) < (k : Int)) = true := decide_eq_true (by omega)
      have hd2 : decide (i < k) = true := decide_eq_true hlt
      have hst := descR_step n i (by omega)
      obtain ⟨z, hz⟩ : ∃ z, (n : Int) - (i : Int) = z := ⟨_, rfl⟩
      have hwr : IntKind.i64.wrap ((n : Int) - (i : Int)) = (n : Int) - (i : Int) := IntWalk.i64_in _ (by omega)
      rw [hz] at hst
      have TO := Lib.hid (fun W gg => of_any z W (by omega) (by omega) gg)
      have TM := Lib.hid (fun W gg => fm_mul (descR n i) (z : Rat) W (HF.out i (by omega)) (fits_int z (by omega)) (by rw [hst]; exact HF.out (i + 1) (by omega)) gg)
      rw [hst] at TM
      obtain ⟨sk, hsk⟩ : ∃ z, descR n i = z := ⟨_, rfl⟩
      obtain ⟨sn, hsn⟩ : ∃ z, descR n (i + 1) = z := ⟨_, rfl⟩
      obtain ⟨zz, hzz⟩ : ∃ y : Rat, (z : Rat) = y := ⟨_, rfl⟩
      rw [hsk] at TM HTI
      rw [hsn] at TM
      rw [hzz] at TO TM
      have HSN := Lib.hid hsn
      rw [fracV_is zz] at TO TM
      rw [fracV_is sk, fracV_is sn] at TM
      rw [hz] at hwr
      have hz0 := hz
      clear hst hsk hsn hzz
      replace HTI := Lib.hid (HTI.out.step ((Below.refl wr.heap.size wr).drew))
      have HTIS := Lib.hid HTI.out.sum
      obtain ⟨⟨p0, p1⟩, pf0, pf1⟩ := two_at HTIS.out
      go_wp2_with fail
      go_region_with ((first | (go_at_call 42; (with_reducible refine (TO.out _ HTI.out.env.tab).mono ?_); rintro e V1 ⟨rfl, hb⟩; replace HTI := Lib.hid (HTI.out.step hb); clear hb; have HTIT := Lib.hid HTI.out.sum; obtain ⟨⟨p0, p1⟩, pf0, pf1⟩ := two_at HTIT.out; clear HTIT) | (go_at_call 126; (with_reducible refine (TM.out _ HTI.out.env).mono ?_); rintro e V2 ⟨rfl, hb⟩; replace HTI := Lib.hid (HTI.out.step hb); clear hb; have HTIT := Lib.hid HTI.out.sum; obtain ⟨⟨p0, p1⟩, pf0, pf1⟩ := two_at HTIT.out; clear HTIT)))
      all_goals
        have HT3 := Lib.hid (HTI.out.set (t := sn) (by omega) (by have := NP.out; omega) (by have := NP.out; omega) HPP.out)
        clear hwr
        go_wp2
        go_roundg (k - (i + 1))
        case measure => omega
        case rel => exact ⟨i + 1, by go_num, by omega, by omega, by rw [HSN.out]; exact HT3.out⟩
    · have hd : decide ((i : Int) < (k : Int)) = false := decide_eq_false (by omega)
      have hd2 : decide (i < k) = false := decide_eq_false hlt
      have hkL : i = k := by omega
      subst hkL
      clear hlt
      have HTIS := Lib.hid HTI.out.sum
      obtain ⟨⟨p0, p1⟩, pf0, pf1⟩ := two_at HTIS.out
      have HRR := Lib.hid HTI.out.res
      obtain ⟨⟨r0, r1⟩, rf0, rf1⟩ := two_at HRR.out
      have hF := set2_at HRR.out (.string (numS (descR n i))) (.string (denS (descR n i)))
      obtain ⟨⟨e0, e1⟩, _⟩ := two_at hF
      have HG2 := Lib.hid ((HTI.out.low.setCell (p := ⟨w.heap.size, 0, none⟩) (Nat.le_refl _) (.string (numS (descR n i)))).setCell (p := ⟨w.heap.size, 1, none⟩) (Nat.le_refl _) (.string (denS (descR n i))))
      clear hF
      go_wp2
      refine bodyPost_ret (v := .agg #[.string (numS (descR n i)), .string (denS (descR n i))]) (by simp [results, Tryz.results154, go_sem, e0, e1]) rfl ⟨rfl, HG2.out⟩
end Go.Proofs.YtcgglmoeneiokaaGreatDoor.Num

/- package fmath: FACT, PERMUT, COMBIN at whole numbers up to 200. Conditions: the tables lie as they are laid. -/
namespace Go.Proofs.YtcgglmoeneiokaaGreatDoor.Num
open Go.RowKit Go.Lib

theorem fits_nat (N : Nat) (h : N < 10 ^ 300) : fits (((N : Nat) : Int) : Rat) = true := (Sm.int (A := N) (N : Int) (by simp)).fits h (by decide +kernel)
theorem lt_300 {N : Nat} (h : N ≤ 200 ^ 101) : N < 10 ^ 300 := Nat.lt_of_le_of_lt h (by decide +kernel)
theorem fits_desc (n k : Nat) (hn : n ≤ 200) (hk : k ≤ 100) : fits (descR n k) = true := fits_nat _ (lt_300 (Nat.le_trans (desc_small hn hk) (by decide +kernel)))
def chR (m j : Nat) : Rat := ((choose (m + j) j : Nat) : Int)
theorem fits_ch (m j : Nat) (h : m + j ≤ 200) : fits (chR m j) = true := fits_nat _ (lt_300 (Nat.le_trans (choose_small h) (by decide +kernel)))
theorem fits_ch2 (m j : Nat) (h : m + j ≤ 200) (z : Int) (hz : z = ((m + (j + 1) : Nat) : Int)) (hz9 : z ≤ 200) : fits (chR m j * (z : Rat)) = true := by
  unfold chR
  rw [← Rat.intCast_mul, hz, ← Int.natCast_mul]
  refine fits_nat _ (lt_300 (Nat.le_trans (Nat.mul_le_mul (choose_small h) (show m + (j + 1) ≤ 200 by omega)) (by decide +kernel)))
theorem chR_step (m j : Nat) (z y : Int) (hz : z = ((m + (j + 1) : Nat) : Int)) (hy : y = ((j + 1 : Nat) : Int)) : chR m j * (z : Rat) / (y : Rat) = chR m (j + 1) := by
  have h := choose_step m j
  unfold chR
  rw [hz, hy, Rat.intCast_natCast, Rat.intCast_natCast, Rat.intCast_natCast, Rat.intCast_natCast]
  exact h
theorem of_agg (n : Int) (w : World) (h0 : -9223372036854775808 ≤ n) (h1 : n ≤ 9223372036854775807) (ht : Tab w) :
    Calls Tryz.prog 42 #[.int .i64 n] w fun e w' => e = .returned (.agg #[.string (numS (n : Rat)), .string (denS (n : Rat))]) ∧ Below w.heap.size w w' := of_any n w h0 h1 ht

set_option maxHeartbeats 8000000 in
set_option maxRecDepth 100000 in
theorem fn_fact (n : Nat) (b g C : Nat) (w : World) (hn : n ≤ 100) (ha : ArgsAt w b (some ⟨g, 0, none⟩) 1 C 0) (hne : g ≠ b) (hc1 : NumCells w g (0 + 0 * 9) ((n : Int) : Rat)) (hE : Env w) (hP : Past b) :
    Calls Tryz.prog 151 #[.pointer (some ⟨b, 0, none⟩)] w fun e w' => e = .returned (fracV (descR n n)) ∧ w.grownBy w' (some b) := by
  have TN1 := Lib.hid (fun W' ga gc ge => argWhole_any b g 0 1 C 0 ((n : Int) : Rat) W' ga (by decide) (by decide) hne gc (fits_int _ (by omega)) (by rw [Rat.floor_intCast]; omega) (by rw [Rat.floor_intCast]; omega) ge hP)
  rw [Rat.floor_intCast] at TN1
  have TW := Lib.hid (fun W => within_in (n : Int) 0 150 W (by omega) (by omega))
  have TF := Lib.hid (fun W g => falling_any n n W (by omega) (Nat.le_refl _) (fun i hi => fits_desc n i (by omega) (by omega)) g)
  obtain ⟨q, hq⟩ : ∃ q, descR n n = q := ⟨_, rfl⟩
  rw [hq] at TF ⊢
  rw [fracV_is q] at TF ⊢
  have hb : Below w.heap.size w (w.alloc (.cells #[.string { data := #[] }, .string { data := #[] }] 24)) := (Below.refl _ _).alloc (Nat.le_refl _) _
  have HR := Lib.hid (heap_alloc_new w (.cells #[.string { data := #[] }, .string { data := #[] }] 24))
  have HA := Lib.hid (show ArgsAt (w.alloc (.cells #[.string { data := #[] }, .string { data := #[] }] 24)) b (some ⟨g, 0, none⟩) 1 C 0 from keep_block ha hb)
  have HC1 := Lib.hid (NumCells.below hc1 hb)
  have HE := Lib.hid (hE.below hb)
  have HG := Lib.hid (kept_below (b := b) hb)
  have NE := Lib.hid (show w.heap.size ≠ b from Nat.ne_of_gt (heap_lt ha))
  have HP := Lib.hid hP
  clear hb ha hc1 hE hP hne hq
  go_enter Tryz.func151, Tryz.ntmps151
  go_wp2_with fail
  refine (TN1.out _ HA.out HC1.out HE.out).mono ?_
  rintro e W1 ⟨rfl, ha, hg⟩
  replace HR := Lib.hid (kept_block HR.out hg NE.out)
  replace HE := Lib.hid (HE.out.kept hg HP.out)
  replace HG := Lib.hid (kept_trans HG.out hg)
  clear ha hg
  go_wp2_with fail
  refine (TW.out _).mono ?_
  rintro e W3 ⟨rfl, rfl⟩
  go_wp2_with fail
  refine (TF.out _ HE.out).mono ?_
  rintro e W4 ⟨rfl, hb⟩
  replace HR := Lib.hid (keep_block HR.out hb)
  replace HG := Lib.hid (kept_trans HG.out (kept_below hb))
  clear hb
  obtain ⟨⟨r0, r1⟩, rf0, rf1⟩ := two_at HR.out
  have hF := set2_at HR.out (.string (numS (q))) (.string (denS (q)))
  obtain ⟨⟨e0, e1⟩, _⟩ := two_at hF
  have HG2 := Lib.hid (kept2 HG.out (Nat.le_refl _) (.string (numS (q))) (.string (denS (q))))
  clear hF
  go_wp2
  refine bodyPost_ret (v := .agg #[.string (numS (q)), .string (denS (q))]) (by simp [results, Tryz.results151, go_sem, e0, e1]) rfl ⟨rfl, HG2.out⟩

set_option maxHeartbeats 8000000 in
set_option maxRecDepth 100000 in
theorem fn_permut (n k : Nat) (b g C : Nat) (w : World) (hn : n ≤ 200) (hk : k ≤ n) (hk9 : k ≤ 100) (ha : ArgsAt w b (some ⟨g, 0, none⟩) 2 C 0) (hne : g ≠ b) (hc1 : NumCells w g (0 + 0 * 9) ((n : Int) : Rat)) (hc2 : NumCells w g (0 + 1 * 9) ((k : Int) : Rat)) (hE : Env w) (hP : Past b) :
    Calls Tryz.prog 157 #[.pointer (some ⟨b, 0, none⟩)] w fun e w' => e = .returned (fracV (descR n k)) ∧ w.grownBy w' (some b) := by
  have TC := Lib.hid (fun W a c1 c2 e => chosen_any n k b g C W (by omega) hk a hne c1 c2 e hP)
  have TF := Lib.hid (fun W g => falling_any n k W (by omega) hk (fun i hi => fits_desc n i (by omega) (by omega)) g)
  obtain ⟨q, hq⟩ : ∃ q, descR n k = q := ⟨_, rfl⟩
  rw [hq] at TF ⊢
  rw [fracV_is q] at TF ⊢
  have hb : Below w.heap.size w (w.alloc (.cells #[.string { data := #[] }, .string { data := #[] }] 24)) := (Below.refl _ _).alloc (Nat.le_refl _) _
  have HR := Lib.hid (heap_alloc_new w (.cells #[.string { data := #[] }, .string { data := #[] }] 24))
  have HA := Lib.hid (show ArgsAt (w.alloc (.cells #[.string { data := #[] }, .string { data := #[] }] 24)) b (some ⟨g, 0, none⟩) 2 C 0 from keep_block ha hb)
  have HC1 := Lib.hid (NumCells.below hc1 hb)
  have HC2 := Lib.hid (NumCells.below hc2 hb)
  have HE := Lib.hid (hE.below hb)
  have HG := Lib.hid (kept_below (b := b) hb)
  have NE := Lib.hid (show w.heap.size ≠ b from Nat.ne_of_gt (heap_lt ha))
  have HP := Lib.hid hP
  clear hb ha hc1 hc2 hE hP hne hq
  go_enter Tryz.func157, Tryz.ntmps157
  go_wp2_with fail
  refine (TC.out _ HA.out HC1.out HC2.out HE.out).mono ?_
  rintro e W1 ⟨rfl, hg⟩
  replace HR := Lib.hid (kept_block HR.out hg NE.out)
  replace HE := Lib.hid (HE.out.kept hg HP.out)
  replace HG := Lib.hid (kept_trans HG.out hg)
  clear hg
  go_wp2_with fail
  refine (TF.out _ HE.out).mono ?_
  rintro e W4 ⟨rfl, hb⟩
  replace HR := Lib.hid (keep_block HR.out hb)
  replace HG := Lib.hid (kept_trans HG.out (kept_below hb))
  clear hb
  obtain ⟨⟨r0, r1⟩, rf0, rf1⟩ := two_at HR.out
  have hF := set2_at HR.out (.string (numS (q))) (.string (denS (q)))
  obtain ⟨⟨e0, e1⟩, _⟩ := two_at hF
  have HG2 := Lib.hid (kept2 HG.out (Nat.le_refl _) (.string (numS (q))) (.string (denS (q))))
  clear hF
  go_wp2
  refine bodyPost_ret (v := .agg #[.string (numS (q)), .string (denS (q))]) (by simp [results, Tryz.results157, go_sem, e0, e1]) rfl ⟨rfl, HG2.out⟩

set_option maxHeartbeats 8000000 in
set_option maxRecDepth 100000 in
theorem fn_combin (n k : Nat) (b g C : Nat) (w : World) (hn : n ≤ 200) (hk : k ≤ n) (ha : ArgsAt w b (some ⟨g, 0, none⟩) 2 C 0) (hne : g ≠ b) (hc1 : NumCells w g (0 + 0 * 9) ((n : Int) : Rat)) (hc2 : NumCells w g (0 + 1 * 9) ((k : Int) : Rat)) (hE : Env w) (hP : Past b) :
    Calls Tryz.prog 155 #[.pointer (some ⟨b, 0, none⟩)] w fun e w' => e = .returned (fracV (((choose n k : Nat) : Int) : Rat)) ∧ w.grownBy w' (some b) := by
  have hend : ((choose n k : Nat) : Int) = ((choose ((n - k) + k) k : Nat) : Int) := by rw [Nat.sub_add_cancel hk]
  rw [hend]
  rw [show ((((choose ((n - k) + k) k : Nat) : Int) : Rat)) = chR (n - k) k from rfl]
  clear hend
  have TC := Lib.hid (fun W a c1 c2 e => chosen_any n k b g C W (by omega) hk a hne c1 c2 e hP)
  have hch0 : ((1 : Int) : Rat) = chR (n - k) 0 := by unfold chR; rw [choose_zero]; rfl
  have TO1 := Lib.hid (fun W gg => of_agg 1 W (by decide) (by decide) gg)
  rw [hch0] at TO1
  clear hch0
  have hb : Below w.heap.size w (w.alloc (.cells #[.string { data := #[] }, .string { data := #[] }] 24)) := (Below.refl _ _).alloc (Nat.le_refl _) _
  have HR := Lib.hid (heap_alloc_new w (.cells #[.string { data := #[] }, .string { data := #[] }] 24))
  have HA := Lib.hid (show ArgsAt (w.alloc (.cells #[.string { data := #[] }, .string { data := #[] }] 24)) b (some ⟨g, 0, none⟩) 2 C 0 from keep_block ha hb)
  have HC1 := Lib.hid (NumCells.below hc1 hb)
  have HC2 := Lib.hid (NumCells.below hc2 hb)
  have HE := Lib.hid (hE.below hb)
  have HG := Lib.hid (kept_below (b := b) hb)
  have NE := Lib.hid (show w.heap.size ≠ b from Nat.ne_of_gt (heap_lt ha))
  have HP := Lib.hid hP
  rw [fracV_is (chR (n - k) k)]
  clear hb ha hc1 hc2 hE hne
  go_enter Tryz.func155, Tryz.ntmps155
  go_wp2_with fail
  refine (TC.out _ HA.out HC1.out HC2.out HE.out).mono ?_
  rintro e W1 ⟨rfl, hg⟩
  replace HR := Lib.hid (kept_block HR.out hg NE.out)
  replace HE := Lib.hid (HE.out.kept hg HP.out)
  replace HG := Lib.hid (kept_trans HG.out hg)
  clear hg
  go_wp2_with fail
  refine (TO1.out _ HE.out.tab).mono ?_
  rintro e w1 ⟨rfl, hb⟩
  have HL := Lib.hid hb
  replace HR := Lib.hid (keep_block HR.out hb)
  replace HE := Lib.hid (HE.out.below hb)
  clear hb
  have hb : Below w1.heap.size w1 (w1.alloc (.cells #[.string (numS (chR (n - k) 0)), .string (denS (chR (n - k) 0))] 24)) := (Below.refl _ _).alloc (Nat.le_refl _) _
  have HS := Lib.hid (heap_alloc_new w1 (.cells #[.string (numS (chR (n - k) 0)), .string (denS (chR (n - k) 0))] 24))
  have NP := Lib.hid (show w.heap.size < w1.heap.size from heap_lt HR.out)
  have NP2 := Lib.hid (show W1.heap.size ≤ w1.heap.size from HL.out.size)
  have HPP := Lib.hid (show Past w1.heap.size from HE.out.room)
  replace HR := Lib.hid (keep_block HR.out hb)
  replace HE := Lib.hid (HE.out.below hb)
  replace HL := Lib.hid (HL.out.trans (hb.mono HL.out.size))
  clear hb
  have HI0 := Lib.hid (show TotI W1 (w1.heap.size + 1) w1.heap.size w.heap.size [] (chR (n - k) 0) _ from ⟨fun i hi => by simp at hi, HS.out, HR.out, HE.out, HL.out⟩)
  clear HR HE HL HS
  obtain ⟨P, hPn⟩ : ∃ P, w1.heap.size = P := ⟨_, rfl⟩
  have HPN := Lib.hid hPn
  rw [hPn] at NP NP2 HPP HI0
  obtain ⟨y1, hy1⟩ : ∃ y, (n : Int) - (k : Int) = y := ⟨_, rfl⟩
  have HY1 := Lib.hid hy1
  have hw1 : IntKind.i64.wrap ((n : Int) - (k : Int)) = y1 := by rw [← hy1]; exact IntWalk.i64_in _ (by omega)
  have hw2 : (n : Int) - (k : Int) = y1 := hy1
  clear hy1
  go_wp2_with fail
  go_loopg [6] k (fun gh v6 wx => ∃ (j : Nat) (z : Int), z = (j : Int) + 1 ∧ v6 = .int .i64 z ∧ j ≤ k ∧ gh = k - j ∧ TotI W1 (P + 1) P w.heap.size [] (chR (n - k) j) wx)
  case atStart => exact ⟨0, 1, rfl, rfl, Nat.zero_le _, rfl, HI0.out⟩
  case round =>
    clear HI0
    obtain ⟨j, z, hz, rfl, hj, rfl, hti⟩ := hrel
    have HTI := Lib.hid hti
    clear hti
    by_cases hlt : j < k
    · have hd : decide (z ≤ (k : Int)) = true := decide_eq_true (by omega)
      have hzb : 1 ≤ z ∧ z ≤ 200 := by omega
      obtain ⟨x, hx⟩ : ∃ x, y1 + z = x := ⟨_, rfl⟩
      have hwy : IntKind.i64.wrap y1 = y1 := IntWalk.i64_in _ (by have := HY1.out; omega)
      have hyn := HY1.out
      have hxn : x = (((n - k) + (j + 1) : Nat) : Int) := by omega
      have hzn : z = ((j + 1 : Nat) : Int) := by omega
      have hxb : 0 ≤ x ∧ x ≤ 200 := by omega
      have hst := chR_step (n - k) j x z hxn hzn
      have f0 := fits_ch (n - k) j (by omega)
      have f1 := fits_ch2 (n - k) j (by omega) x hxn (by omega)
      have f2 := fits_ch (n - k) (j + 1) (by omega)
      have hz0 : (z : Rat) ≠ 0 := int_ne (by omega)
      have TM := Lib.hid (fun W gg => fm_mul (chR (n - k) j) (x : Rat) W f0 (fits_int x (by omega)) f1 gg)
      have TD := Lib.hid (fun W gg => fm_div (chR (n - k) j * (x : Rat)) (z : Rat) W f1 (fits_int z (by omega)) hz0 (by rw [hst]; exact f2) gg)
      rw [hst] at TD
      have TO := Lib.hid (fun z W h0 h1 gg => of_agg z W h0 h1 gg)
      obtain ⟨mm, hmm⟩ : ∃ m, chR (n - k) j * (x : Rat) = m := ⟨_, rfl⟩
      rw [hmm] at TM TD
      obtain ⟨sk, hsk⟩ : ∃ z, chR (n - k) j = z := ⟨_, rfl⟩
      obtain ⟨sn, hsn⟩ : ∃ z, chR (n - k) (j + 1) = z := ⟨_, rfl⟩
      rw [hsk] at TM HTI
      rw [hsn] at TD
      have HSN := Lib.hid hsn
      have HZ := Lib.hid hz
      rw [fracV_is sk, fracV_is mm, fracV_is (x : Rat)] at TM
      rw [fracV_is mm, fracV_is (z : Rat), fracV_is sn] at TD
      have hwx : IntKind.i64.wrap x = x := IntWalk.i64_in _ (by omega)
      have hx2 : y1 + z = x := hx
      clear hst hsk hsn hmm hz hxn hzn hx f0 f1 f2 hz0 hyn
      replace HTI := Lib.hid (HTI.out.step ((Below.refl wr.heap.size wr).drew))
      have HTIS := Lib.hid HTI.out.sum
      obtain ⟨⟨p0, p1⟩, pf0, pf1⟩ := two_at HTIS.out
      go_wp2_with fail
      go_region_with ((first | (go_at_call 42; (with_reducible refine (TO.out _ _ (by omega) (by omega) HTI.out.env.tab).mono ?_); rintro e V1 ⟨rfl, hb⟩; replace HTI := Lib.hid (HTI.out.step hb); clear hb; have HTIT := Lib.hid HTI.out.sum; obtain ⟨⟨p0, p1⟩, pf0, pf1⟩ := two_at HTIT.out; clear HTIT) | (go_at_call 126; (with_reducible refine (TM.out _ HTI.out.env).mono ?_); rintro e V2 ⟨rfl, hb⟩; replace HTI := Lib.hid (HTI.out.step hb); clear hb; have HTIT := Lib.hid HTI.out.sum; obtain ⟨⟨p0, p1⟩, pf0, pf1⟩ := two_at HTIT.out; clear HTIT) | (go_at_call 89; (with_reducible refine (TD.out _ HTI.out.env).mono ?_); rintro e V3 ⟨rfl, hb⟩; replace HTI := Lib.hid (HTI.out.step hb); clear hb; have HTIT := Lib.hid HTI.out.sum; obtain ⟨⟨p0, p1⟩, pf0, pf1⟩ := two_at HTIT.out; clear HTIT)))
      all_goals
        have HT3 := Lib.hid (HTI.out.set (t := sn) (by omega) (by have := NP.out; omega) NP2.out HPP.out)
        clear hwx hx2 hwy
        go_wp2
        go_roundg (k - (j + 1))
        case measure => omega
        case rel => exact ⟨j + 1, z + 1, by have := HZ.out; omega, rfl, by omega, by omega, by rw [HSN.out]; exact HT3.out⟩
    · have hd : decide (z ≤ (k : Int)) = false := decide_eq_false (by omega)
      have hkL : j = k := by omega
      subst hkL
      clear hlt hz
      have HTIS := Lib.hid HTI.out.sum
      obtain ⟨⟨p0, p1⟩, pf0, pf1⟩ := two_at HTIS.out
      have HR := Lib.hid HTI.out.res
      replace HG := Lib.hid (kept_trans HG.out (kept_below HTI.out.low))
      obtain ⟨⟨r0, r1⟩, rf0, rf1⟩ := two_at HR.out
      have hF := set2_at HR.out (.string (numS (chR (n - j) j))) (.string (denS (chR (n - j) j)))
      obtain ⟨⟨e0, e1⟩, _⟩ := two_at hF
      have HG2 := Lib.hid (kept2 HG.out (Nat.le_refl _) (.string (numS (chR (n - j) j))) (.string (denS (chR (n - j) j))))
      clear hF
      go_wp2
      refine bodyPost_ret (v := .agg #[.string (numS (chR (n - j) j)), .string (denS (chR (n - j) j))]) (by simp [results, Tryz.results155, go_sem, e0, e1]) rfl ⟨rfl, HG2.out⟩

theorem m_FACT (n : Nat) (ab ao C : Nat) (w : World) (hn9 : n ≤ 100) (hv : ValsAt w ab ao (numVals [((n : Int) : Rat)])) (hE : Env w) :
    Calls Tryz.prog 10 #[.string { data := #[70, 65, 67, 84] }, .slice (some ⟨ab, ao, none⟩) 1 C] w fun e w' => e = .returned (numVal (descR n n)) ∧ Below w.heap.size w w' :=
  math_s_val 27 ⟨{ data := #[70, 65, 67, 84] }, 1, 1, { data := #[115] }, true, 151⟩ (by decide) rfl rfl (fr_of 27 (by decide) (by kernel_rfl)) rfl (enters_of Tryz.func151 (by kernel_rfl) rfl) [((n : Int) : Rat)] ab ao C (descR n n) w (show 0 < 1 from by decide) (show 1 ≤ 300 from by decide) (show (1 : Int) ≤ 1 from by decide) (show (1 : Int) ≤ 1 from by decide) hv hE (by intro x hx; simp only [List.mem_cons, List.not_mem_nil, or_false] at hx; subst hx; exact fits_int _ (by omega)) (fits_desc n n (by omega) (by omega))
    (fun W b g cap hE' hP hlt hgl ha hn hne => fn_fact n b g cap W hn9 ha hne (hn 0 (show 0 < 1 from by decide)) hE' hP)
theorem m_PERMUT (n k : Nat) (ab ao C : Nat) (w : World) (hn9 : n ≤ 200) (hk : k ≤ n) (hk9 : k ≤ 100) (hv : ValsAt w ab ao (numVals [((n : Int) : Rat), ((k : Int) : Rat)])) (hE : Env w) :
    Calls Tryz.prog 10 #[.string { data := #[80, 69, 82, 77, 85, 84] }, .slice (some ⟨ab, ao, none⟩) 2 C] w fun e w' => e = .returned (numVal (descR n k)) ∧ Below w.heap.size w w' :=
  math_s_val 29 ⟨{ data := #[80, 69, 82, 77, 85, 84] }, 2, 2, { data := #[115] }, true, 157⟩ (by decide) rfl rfl (fr_of 29 (by decide) (by kernel_rfl)) rfl (enters_of Tryz.func157 (by kernel_rfl) rfl) [((n : Int) : Rat), ((k : Int) : Rat)] ab ao C (descR n k) w (show 0 < 2 from by decide) (show 2 ≤ 300 from by decide) (show (2 : Int) ≤ 2 from by decide) (show (2 : Int) ≤ 2 from by decide) hv hE (by intro x hx; simp only [List.mem_cons, List.not_mem_nil, or_false] at hx; rcases hx with rfl | rfl <;> exact fits_int _ (by omega)) (fits_desc n k hn9 hk9)
    (fun W b g cap hE' hP hlt hgl ha hn hne => fn_permut n k b g cap W hn9 hk hk9 ha hne (hn 0 (show 0 < 2 from by decide)) (hn 1 (show 1 < 2 from by decide)) hE' hP)
theorem m_COMBIN (n k : Nat) (ab ao C : Nat) (w : World) (hn9 : n ≤ 200) (hk : k ≤ n) (hv : ValsAt w ab ao (numVals [((n : Int) : Rat), ((k : Int) : Rat)])) (hE : Env w) :
    Calls Tryz.prog 10 #[.string { data := #[67, 79, 77, 66, 73, 78] }, .slice (some ⟨ab, ao, none⟩) 2 C] w fun e w' => e = .returned (numVal (((choose n k : Nat) : Int))) ∧ Below w.heap.size w w' :=
  math_s_val 28 ⟨{ data := #[67, 79, 77, 66, 73, 78] }, 2, 2, { data := #[115] }, true, 155⟩ (by decide) rfl rfl (fr_of 28 (by decide) (by kernel_rfl)) rfl (enters_of Tryz.func155 (by kernel_rfl) rfl) [((n : Int) : Rat), ((k : Int) : Rat)] ab ao C (((choose n k : Nat) : Int)) w (show 0 < 2 from by decide) (show 2 ≤ 300 from by decide) (show (2 : Int) ≤ 2 from by decide) (show (2 : Int) ≤ 2 from by decide) hv hE (by intro x hx; simp only [List.mem_cons, List.not_mem_nil, or_false] at hx; rcases hx with rfl | rfl <;> exact fits_int _ (by omega)) (fits_nat _ (lt_300 (Nat.le_trans (choose_small hn9) (by decide +kernel))))
    (fun W b g cap hE' hP hlt hgl ha hn hne => fn_combin n k b g cap W hn9 hk ha hne (hn 0 (show 0 < 2 from by decide)) (hn 1 (show 1 < 2 from by decide)) hE' hP)
end Go.Proofs.YtcgglmoeneiokaaGreatDoor.Num
