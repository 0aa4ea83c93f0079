/- Contracts of the program's functions, joined from smaller texts. Conditions stand at each theorem. -/
import Derived.Test.YtjcdeeahjkfmoaaGreatDoorDeaA
import Derived.Test.YtjcdeeahjkfmoaaGreatDoorNumD
set_option linter.unusedVariables false
set_option linter.unusedSimpArgs false
set_option maxRecDepth 100000
set_option maxHeartbeats 8000000
namespace Go.Proofs.YtjcdeeahjkfmoaaGreatDoor
namespace Num
open Go.RowKit Go.Lib
theorem DecAt.low {w : World} {v : Value} {n : Nat} (h : DecAt w v n) (hn : n ≠ 0) : ∃ b o L C d, v = .slice (some ⟨b, o, none⟩) L C ∧ L = (digs 10 n).length ∧ 0 < L ∧ w.cell? ⟨b, o, none⟩ = some (.int .i64 ((d : Nat) : Int)) ∧ d % 2 = n % 2 ∧ d < 10 := by
 obtain ⟨A, C, rfl, hC⟩ := h.form
 have hl : 0 < (digs 10 n).length := by
  apply List.length_pos_iff.2
  intro e; exact hn ((digs_eq_nil ten2).1 e)
 obtain ⟨b, o, rfl, hc⟩ := h.cellD 0 hl
 rw [digs_head 10 n ten2 hn, Nat.add_zero] at hc
 exact ⟨b, o, _, C, _, rfl, rfl, hl, hc, by omega, by omega⟩
theorem DecAt.len0 {w : World} {v : Value} {n : Nat} (h : DecAt w v n) : ∃ A L C, v = .slice A L C ∧ L = (digs 10 n).length ∧ (L = 0 ↔ n = 0) := by
 obtain ⟨A, C, rfl, hC⟩ := h.form
 exact ⟨A, _, C, rfl, rfl, by rw [List.length_eq_zero_iff]; exact digs_eq_nil ten2⟩
theorem parity_true {d n : Nat} (h : d % 2 = n % 2) (h0 : n % 2 = 0) : (((d : Nat) : Int).tmod 2 == 0) = true ∧ (((d : Nat) : Int) % 2 == 0) = true ∧ decide (((d : Nat) : Int).tmod 2 = 0) = true ∧ decide (((d : Nat) : Int) % 2 = 0) = true := by
 have e : ((d : Nat) : Int) % 2 = 0 := by omega
 rw [Int.tmod_eq_emod_of_nonneg (by omega), e]; decide
theorem parity_false {d n : Nat} (h : d % 2 = n % 2) (h0 : n % 2 = 1) : (((d : Nat) : Int).tmod 2 == 0) = false ∧ (((d : Nat) : Int) % 2 == 0) = false ∧ decide (((d : Nat) : Int).tmod 2 = 0) = false ∧ decide (((d : Nat) : Int) % 2 = 0) = false := by
 have e : ((d : Nat) : Int) % 2 = 1 := by omega
 rw [Int.tmod_eq_emod_of_nonneg (by omega), e]; decide
theorem two_pow_bound {t X L : Nat} (h : 2 ^ t ≤ X) (hl : (digs 10 X).length ≤ L) : t ≤ 4 * L := by
 have h1 := digs_upper ten2 X
 have h2 : 10 ^ (digs 10 X).length ≤ 10 ^ L := Nat.pow_le_pow_right (by decide) hl
 have h3 : (10 : Nat) ^ L ≤ 16 ^ L := Nat.pow_le_pow_left (by decide) _
 have h4 : (16 : Nat) ^ L = 2 ^ (4 * L) := by rw [show (16 : Nat) = 2 ^ 4 from rfl, ← Nat.pow_mul]
 apply Nat.le_of_not_lt
 intro hlt
 have h5 : 2 ^ (4 * L) < 2 ^ t := Nat.pow_lt_pow_right (by decide) hlt
 omega
theorem gcd_swap_sub {n m : Nat} (h : n ≤ m) : Nat.gcd (m - n) n = Nat.gcd n m := by
 rw [Nat.gcd_sub_self_left h, Nat.gcd_comm]
theorem dgcd_any (v1 v2 : Value) (X Y : Nat) (w : World) (h1 : DecAt w v1 X) (h2 : DecAt w v2 Y) (hl1 : (digs 10 X).length ≤ 10000000) (hl2 : (digs 10 Y).length ≤ 10000000) :
  Calls Tryz.prog 53 #[v1, v2] w fun e w' => ∃ v', e = .returned v' ∧ DecAt w' v' (Nat.gcd X Y) ∧ Below w.heap.size w w' := by
 have HLEN : Hid (∀ z, (z ≤ X ∨ z ≤ Y) → (digs 10 z).length ≤ 10000000) := fun z hz => by
  rcases hz with h | h
  ·exact Nat.le_trans (digs_len_mono ten2 h) hl1
  ·exact Nat.le_trans (digs_len_mono ten2 h) hl2
 have H1 := hid h1; have H2 := hid h2
 obtain ⟨B, hB⟩ : ∃ B, w.heap.size = B := ⟨_, rfl⟩
 have HB := hid hB
 obtain ⟨A1, L1, C1, rfl, hL1, hz1⟩ := h1.len0
 obtain ⟨A2, L2, C2, rfl, hL2, hz2⟩ := h2.len0
 clear h1 h2 hl1 hl2 hL1 hL2
 have HZ1 := hid hz1; have HZ2 := hid hz2
 clear hz1 hz2
 by_cases hx0 : L1 = 0
 ·have hX : X = 0 := HZ1.out.1 hx0
  subst hx0
  have HX := hid hX; clear hX
  go_enter Tryz.func53, Tryz.ntmps53
  go_wp2
  go_ret
  exact ⟨_, rfl, by rw [HX.out, Nat.gcd_zero_left]; exact H2.out, Below.refl _ _⟩
 have hxb : ((L1 : Int) == 0) = false := by rw [beq_eq_false_iff_ne]; omega
 have hxn : (L1 == 0) = false := by rw [beq_eq_false_iff_ne]; exact hx0
 by_cases hy0 : L2 = 0
 ·have hY : Y = 0 := HZ2.out.1 hy0
  subst hy0
  have HY := hid hY; clear hY hx0
  go_enter Tryz.func53, Tryz.ntmps53
  go_wp2
  go_ret
  exact ⟨_, rfl, by rw [HY.out, Nat.gcd_zero_right]; exact H1.out, Below.refl _ _⟩
 have hyb : ((L2 : Int) == 0) = false := by rw [beq_eq_false_iff_ne]; omega
 have hyn : (L2 == 0) = false := by rw [beq_eq_false_iff_ne]; exact hy0
 have HX0 : Hid (X ≠ 0) := fun e => hx0 (HZ1.out.2 e)
 have HY0 : Hid (Y ≠ 0) := fun e => hy0 (HZ2.out.2 e)
 clear hx0 hy0
 go_enter Tryz.func53, Tryz.ntmps53
 go_wp2
 go_loopg [0, 1, 5] X (fun g v0 v1 v5 wx => ∃ (n m t : Nat), n = g ∧ v5 = .int .i64 t ∧ n ≠ 0 ∧ m ≠ 0 ∧ (n ≤ X ∨ n ≤ Y) ∧ (m ≤ X ∨ m ≤ Y) ∧ 2 ^ t * n ≤ X ∧ Nat.gcd X Y = 2 ^ t * Nat.gcd n m ∧ DecAt wx v0 n ∧ DecAt wx v1 m ∧ Below B w wx)
 case atStart => exact ⟨X, Y, 0, rfl, rfl, HX0.out, HY0.out, .inl (Nat.le_refl _), .inr (Nat.le_refl _), by rw [Nat.pow_zero, Nat.one_mul]; exact Nat.le_refl _, by rw [Nat.pow_zero, Nat.one_mul], H1.out, H2.out, by rw [← HB.out]; exact Below.refl _ _⟩
 case round =>
  obtain ⟨n, m, t, rfl, rfl, hn0, hm0, hnb, hmb, htn, hg, hd0, hd1, hb⟩ := hrel
  have hs0 : B ≤ wr.heap.size := by have := hb.size; rw [HB.out] at this; exact this
  have HD0 := hid hd0; have HD1 := hid hd1
  obtain ⟨b1, o1, K1, D1, d1, rfl, hK1, hK1p, e1, hp1, hp1b⟩ := hd0.low hn0
  obtain ⟨b2, o2, K2, D2, d2, rfl, hK2, hK2p, e2, hp2, hp2b⟩ := hd1.low hm0
  have HN0 := hid hn0; have HM0 := hid hm0; have HNB := hid hnb; have HMB := hid hmb; have HTN := hid htn; have HG := hid hg; have HBW := hid hb
  have HK1 := hid hK1; have HK2 := hid hK2
  clear hd0 hd1 hn0 hm0 hnb hmb htn hg hb hK1 hK2
  by_cases hev : n % 2 = 0 ∧ m % 2 = 0
  ·obtain ⟨p1, p1b, p1c, p1d⟩ := parity_true hp1 hev.1
   obtain ⟨p2, p2b, p2c, p2d⟩ := parity_true hp2 hev.2
   clear hp1 hp2
   have HEV := hid hev; clear hev
   go_wp2_with fail
   refine (dhalf_any _ n wr HD0.out (Nat.le_trans (HLEN.out n HNB.out) (by decide))).mono ?_
   rintro e w1 ⟨va, rfl, ha, hba⟩
   have HA := hid ha; clear ha
   have HBA := hid hba; clear hba
   go_wp2_with fail
   refine (dhalf_any _ m w1 (HD1.out.below HBA.out) (Nat.le_trans (HLEN.out m HMB.out) (by decide))).mono ?_
   rintro e w2 ⟨vb, rfl, hb, hbb⟩
   have HBB := hid hb; clear hb
   have HB2 : Hid (Below B w w2) := (HBW.out.trans (HBA.out.mono hs0)).trans (hbb.mono (Nat.le_trans hs0 HBA.out.size))
   have HA2 := hid (HA.out.below hbb)
   have htm : t ≤ 4 * 10000000 := two_pow_bound (Nat.le_trans (Nat.le_mul_of_pos_right _ (Nat.pos_of_ne_zero HN0.out)) HTN.out) (HLEN.out X (.inl (Nat.le_refl _)))
   clear hbb
   go_wp2
   go_roundg (n / 2)
   case measure => have := HN0.out; omega
   case rel =>
    have h1 := HEV.out
    have h2 := HN0.out
    have h3 := HM0.out
    refine ⟨n / 2, m / 2, t + 1, rfl, by go_num, by omega, by omega, ?_, ?_, by rw [Nat.pow_succ, Nat.mul_assoc, show 2 * (n / 2) = n by omega]; exact HTN.out, ?_, HA2.out, HBB.out, HB2.out⟩
    ·rcases HNB.out with h | h
     ·left; omega
     ·right; omega
    ·rcases HMB.out with h | h
     ·left; omega
     ·right; omega
    ·rw [HG.out, gcd_halves h1.1 h1.2, Nat.pow_succ, Nat.mul_assoc]
  ·have HGO : Hid (n % 2 = 1 ∨ m % 2 = 1) := by show _ ∨ _; omega
   obtain ⟨G, hG⟩ : ∃ G, Nat.gcd n m = G := ⟨_, rfl⟩
   have HGG := hid hG
   have HGX : Hid (Nat.gcd n m = G) := hG
   have htm : t ≤ 4 * 10000000 := two_pow_bound (Nat.le_trans (Nat.le_mul_of_pos_right _ (Nat.pos_of_ne_zero HN0.out)) HTN.out) (HLEN.out X (.inl (Nat.le_refl _)))
   clear hG
   rcases Nat.mod_two_eq_zero_or_one n with h | h
   ·obtain ⟨p1, p1b, p1c, p1d⟩ := parity_true hp1 h
    obtain ⟨p2, p2b, p2c, p2d⟩ := parity_false hp2 (show m % 2 = 1 by omega)
    clear hp1 hp2 hev h
    go_wp2
    go_loopg [0, 1] (n + m) (fun g v0 v1 wx => ∃ (va vb : Value) (n' m' : Nat), va = v0 ∧ vb = v1 ∧ n' + m' = g ∧ m' ≠ 0 ∧ (n' ≤ X ∨ n' ≤ Y) ∧ (m' ≤ X ∨ m' ≤ Y) ∧ (n' % 2 = 1 ∨ m' % 2 = 1) ∧ Nat.gcd n' m' = G ∧ DecAt wx va n' ∧ DecAt wx vb m' ∧ Below B w wx)
    case atStart => exact ⟨_, _, n, m, rfl, rfl, rfl, HM0.out, HNB.out, HMB.out, HGO.out, HGG.out, HD0.out, HD1.out, HBW.out⟩
    case round =>
     clear HD0 HD1 HNB HMB HGO HGG HBW e1 e2 hs0
     obtain ⟨va, vb, n', m', rfl, rfl, rfl, hm0', hnb, hmb, hgo, hg, hd0, hd1, hb⟩ := hrel
     have HS0 : Hid (B ≤ wr.heap.size) := by have := hb.size; rw [HB.out] at this; exact this
     have HD0 := hid hd0; have HD1 := hid hd1
     have HM0' := hid hm0'; have HNB := hid hnb; have HMB := hid hmb; have HGO := hid hgo; have HGG := hid hg; have HBW := hid hb
     clear hm0' hnb hmb hgo hg hb hd1
     obtain ⟨A0, K0, D0, rfl, hK0, hK0z⟩ := hd0.len0
     clear hd0 hK0
     have HKZ := hid hK0z; clear hK0z
     by_cases hn' : n' = 0
     ·have hk : K0 = 0 := HKZ.out.2 hn'
      subst hk
      have HGM : Hid (m' = G) := by have := HGG.out; rw [hn', Nat.gcd_zero_left] at this; exact this
      clear hn' HKZ
      go_wp2
      go_loopg [1, 64] t (fun g v1 v64 wx => ∃ (vc : Value) (k : Nat), vc = v1 ∧ v64 = .int .i64 k ∧ k + g = t ∧ DecAt wx vc (2 ^ k * G) ∧ Below B w wx)
      case atStart => exact ⟨_, 0, rfl, by go_num, by omega, by rw [Nat.pow_zero, Nat.one_mul, ← HGM.out]; exact HD1.out, HBW.out⟩
      case round =>
       obtain ⟨vc, k, rfl, rfl, hkt, hdc, hbc⟩ := hrel
       have HDC := hid hdc; have HBC := hid hbc
       clear hdc hbc
       by_cases hlt : k < t
       ·have hltb : decide ((k : Int) < (t : Int)) = true := decide_eq_true (by omega)
        have hltn : decide (k < t) = true := decide_eq_true hlt
        have hlen : (digs 10 (2 ^ k * G)).length ≤ 1000000000 := by
         have h1 : 2 ^ k * G ≤ X := by
          have h2 : 2 ^ k * G ≤ 2 ^ t * G := Nat.mul_le_mul_right _ (Nat.pow_le_pow_right (by decide) (Nat.le_of_lt hlt))
          have h3 : 2 ^ t * G = Nat.gcd X Y := by rw [HG.out, HGX.out]
          have h4 := Nat.gcd_le_left Y (Nat.pos_of_ne_zero HX0.out)
          omega
         exact Nat.le_trans (HLEN.out _ (.inl h1)) (by decide)
        have HLE := hid hlen; clear hlen
        have HS1 : Hid (B ≤ wr.heap.size) := by have := HBC.out.size; rw [HB.out] at this; exact this
        have HKT := hid hlt
        clear hlt
        go_wp2_with fail
        refine (dplus_any _ _ (2 ^ k * G) (2 ^ k * G) wr HDC.out HDC.out HLE.out HLE.out).mono ?_
        rintro e w1 ⟨vd, rfl, hd, hb⟩
        have HDD : Hid (DecAt w1 vd (2 ^ (k + 1) * G)) := by rw [Nat.pow_succ, Nat.mul_comm (2 ^ k) 2, Nat.mul_assoc, Nat.two_mul]; exact hd
        have HBD : Hid (Below B w w1) := HBC.out.trans (hb.mono HS1.out)
        clear hd hb
        go_wp2
        go_roundg (gk - 1)
        case measure => have := HKT.out; omega
        case rel => exact ⟨_, k + 1, rfl, by go_num, by have := HKT.out; omega, HDD.out, HBD.out⟩
       ·have hltb : decide ((k : Int) < (t : Int)) = false := decide_eq_false (by omega)
        have hltn : decide (k < t) = false := decide_eq_false hlt
        have hkt2 : k = t := by omega
        have HDE : Hid (DecAt wr vc (Nat.gcd X Y)) := by rw [HG.out, HGX.out, ← hkt2]; exact HDC.out
        clear hkt2 hlt hkt
        go_wp2
        go_ret
        exact ⟨_, rfl, HDE.out, by rw [HB.out]; exact HBC.out⟩
     ·have hk : K0 ≠ 0 := fun e => hn' (HKZ.out.1 e)
      have hkb : decide ((0 : Int) < (K0 : Int)) = true := decide_eq_true (by omega)
      have hkn : decide (0 < K0) = true := decide_eq_true (by omega)
      have HN0' := hid hn'
      clear hn' hk
      have HGKO : Hid (n' + m' = n' + m') := rfl
      go_wp2
      clear hkb hkn
      go_loopg [0] n' (fun g v0 wx => ∃ (va : Value) (n2 : Nat), va = v0 ∧ n2 = g ∧ n2 ≠ 0 ∧ n2 ≤ n' ∧ (n2 % 2 = 1 ∨ m' % 2 = 1) ∧ Nat.gcd n2 m' = G ∧ DecAt wx va n2 ∧ DecAt wx vb m' ∧ Below B w wx)
      case atStart => exact ⟨_, n', rfl, rfl, HN0'.out, Nat.le_refl _, HGO.out, HGG.out, HD0.out, HD1.out, HBW.out⟩
      case round =>
       clear HD0 HD1 HBW HGO HGG HS0 HKZ
       obtain ⟨va, n2, rfl, rfl, hn2, hn2le, hgo, hg, hd0, hd1, hb⟩ := hrel
       have HS0 : Hid (B ≤ wr.heap.size) := by have := hb.size; rw [HB.out] at this; exact this
       have HD0 := hid hd0; have HD1 := hid hd1
       have HN2 := hid hn2; have HN2L := hid hn2le; have HGO := hid hgo; have HGG := hid hg; have HBW := hid hb
       clear hn2le hgo hg hb hd1
       have HLN2 : Hid ((digs 10 n2).length ≤ 10000000) := HLEN.out n2 (by rcases HNB.out with h | h; left; have := HN2L.out; omega; right; have := HN2L.out; omega)
       obtain ⟨b3, o3, K3, D3, d3, rfl, hK3, hK3p, e3, hp3, hp3b⟩ := hd0.low hn2
       clear hd0 hn2 hK3
       have hkb3 : decide ((0 : Int) < (K3 : Int)) = true := decide_eq_true (by omega)
       have hkn3 : decide (0 < K3) = true := decide_eq_true (by omega)
       rcases Nat.mod_two_eq_zero_or_one n2 with hp | hp
       ·obtain ⟨q1, q1b, q1c, q1d⟩ := parity_true hp3 hp
        have HM1 : Hid (m' % 2 = 1) := by show m' % 2 = 1; have := HGO.out; omega
        have HE := hid hp
        clear hp3 hp
        go_wp2_with fail
        refine (dhalf_any _ n2 wr HD0.out (Nat.le_trans HLN2.out (by decide))).mono ?_
        rintro e w1 ⟨vc, rfl, hc, hbc⟩
        have HC := hid hc; have HMC := hid (HD1.out.below hbc)
        have HBC : Hid (Below B w w1) := HBW.out.trans (hbc.mono HS0.out)
        clear hc hbc
        go_wp2
        go_roundg (n2 / 2)
        case measure => have := HN2.out; omega
        case rel => exact ⟨_, n2 / 2, rfl, rfl, by have := HN2.out; have := HE.out; omega, by have := HN2L.out; omega, .inr HM1.out, by rw [gcd_half HE.out HM1.out]; exact HGG.out, HC.out, HMC.out, HBC.out⟩
       ·obtain ⟨q1, q1b, q1c, q1d⟩ := parity_false hp3 hp
        have HO := hid hp
        clear hp3 hp
        go_wp2
        go_loopg [1] m' (fun g v1 wx => ∃ (vd : Value) (m2 : Nat), vd = v1 ∧ m2 = g ∧ m2 ≠ 0 ∧ m2 ≤ m' ∧ Nat.gcd n2 m2 = G ∧ DecAt wx (.slice (some ⟨b3, o3, none⟩) K3 D3) n2 ∧ DecAt wx vd m2 ∧ Below B w wx)
        case atStart => exact ⟨_, m', rfl, rfl, HM0'.out, Nat.le_refl _, HGG.out, HD0.out, HD1.out, HBW.out⟩
        case round =>
         clear HD0 HD1 HBW HGO HGG HS0 e3 q1 q1b q1c q1d
         obtain ⟨vd, m2, rfl, rfl, hm2, hm2le, hg, hd0, hd1, hb⟩ := hrel
         have HS0 : Hid (B ≤ wr.heap.size) := by have := hb.size; rw [HB.out] at this; exact this
         have HD0 := hid hd0; have HD1 := hid hd1
         have HM2 := hid hm2; have HM2L := hid hm2le; have HGG := hid hg; have HBW := hid hb
         clear hm2le hg hb hd0
         have HLM2 : Hid ((digs 10 m2).length ≤ 10000000) := HLEN.out m2 (by rcases HMB.out with h | h; left; have := HM2L.out; omega; right; have := HM2L.out; omega)
         obtain ⟨b4, o4, K4, D4, d4, rfl, hK4, hK4p, e4, hp4, hp4b⟩ := hd1.low hm2
         clear hd1 hm2 hK4
         rcases Nat.mod_two_eq_zero_or_one m2 with hp | hp
         ·obtain ⟨q2, q2b, q2c, q2d⟩ := parity_true hp4 hp
          have HE := hid hp
          clear hp4 hp
          go_wp2_with fail
          refine (dhalf_any _ m2 wr HD1.out (Nat.le_trans HLM2.out (by decide))).mono ?_
          rintro e w1 ⟨vc, rfl, hc, hbc⟩
          have HC := hid hc; have HNC := hid (HD0.out.below hbc)
          have HBC : Hid (Below B w w1) := HBW.out.trans (hbc.mono HS0.out)
          clear hc hbc
          go_wp2
          go_roundg (m2 / 2)
          case measure => have := HM2.out; omega
          case rel => exact ⟨_, m2 / 2, rfl, rfl, by have := HM2.out; have := HE.out; omega, by have := HM2L.out; omega, by rw [Nat.gcd_comm, gcd_half HE.out HO.out, Nat.gcd_comm]; exact HGG.out, HNC.out, HC.out, HBC.out⟩
         ·obtain ⟨q2, q2b, q2c, q2d⟩ := parity_false hp4 hp
          have HO2 := hid hp
          clear hp4 hp
          go_wp2_with fail
          refine (dcompare_any _ _ n2 m2 wr HD0.out HD1.out (Nat.le_trans HLN2.out (by decide)) (Nat.le_trans HLM2.out (by decide))).mono ?_
          rintro e w4 ⟨rfl, nq, rfl⟩
          by_cases hlt : n2 < m2
          ·have hcb : decide (cmpN n2 m2 < 0) = true := decide_eq_true (by unfold cmpN; rw [if_pos hlt]; decide)
           have HLT := hid hlt
           clear hlt
           go_wp2_with fail
           refine (dless_any _ _ m2 n2 (wr.drewN nq) (HD1.out.drewN nq) (HD0.out.drewN nq) (Nat.le_of_lt HLT.out) (Nat.le_trans HLM2.out (by decide))).mono ?_
           rintro e w5 ⟨v5, rfl, hd5, _, hb5⟩
           have HD5 := hid hd5; have HN5 : Hid (DecAt w5 _ n2) := DecAt.below (w := wr.drewN nq) HD0.out hb5
           have HB5 : Hid (Below B w w5) := (below_drewN HBW.out nq).trans (hb5.mono HS0.out)
           clear hd5 hb5
           go_wp2
           go_roundg (m2 - n2 + n2)
           case measure => have := HGKO.out; have := HLT.out; have := HM2L.out; have := HN0'.out; omega
           case rel => exact ⟨_, _, m2 - n2, n2, rfl, rfl, rfl, HN2.out, by rcases HMB.out with h | h; left; have := HM2L.out; omega; right; have := HM2L.out; omega, by rcases HNB.out with h | h; left; have := HN2L.out; omega; right; have := HN2L.out; omega, .inr HO.out, by rw [gcd_swap_sub (Nat.le_of_lt HLT.out)]; exact HGG.out, HD5.out, HN5.out, HB5.out⟩
          ·have hcb : decide (cmpN n2 m2 < 0) = false := decide_eq_false (by unfold cmpN; rw [if_neg hlt]; split <;> decide)
           have HGE : Hid (m2 ≤ n2) := Nat.le_of_not_lt hlt
           clear hlt
           go_wp2_with fail
           refine (dless_any _ _ n2 m2 (wr.drewN nq) (HD0.out.drewN nq) (HD1.out.drewN nq) HGE.out (Nat.le_trans HLN2.out (by decide))).mono ?_
           rintro e w5 ⟨v5, rfl, hd5, _, hb5⟩
           have HD5 := hid hd5; have HN5 : Hid (DecAt w5 _ m2) := DecAt.below (w := wr.drewN nq) HD1.out hb5
           have HB5 : Hid (Below B w w5) := (below_drewN HBW.out nq).trans (hb5.mono HS0.out)
           clear hd5 hb5
           go_wp2
           go_roundg (n2 - m2 + m2)
           case measure => have := HGKO.out; have := HGE.out; have := HN2L.out; have := HM0'.out; omega
           case rel => exact ⟨_, _, n2 - m2, m2, rfl, rfl, rfl, HM2.out, by rcases HNB.out with h | h; left; have := HN2L.out; omega; right; have := HN2L.out; omega, by rcases HMB.out with h | h; left; have := HM2L.out; omega; right; have := HM2L.out; omega, .inr HO2.out, by rw [Nat.gcd_sub_self_left HGE.out]; exact HGG.out, HD5.out, HN5.out, HB5.out⟩
   ·obtain ⟨p1, p1b, p1c, p1d⟩ := parity_false hp1 h
    clear hp1 hp2 hev h
    go_wp2
    go_loopg [0, 1] (n + m) (fun g v0 v1 wx => ∃ (va vb : Value) (n' m' : Nat), va = v0 ∧ vb = v1 ∧ n' + m' = g ∧ m' ≠ 0 ∧ (n' ≤ X ∨ n' ≤ Y) ∧ (m' ≤ X ∨ m' ≤ Y) ∧ (n' % 2 = 1 ∨ m' % 2 = 1) ∧ Nat.gcd n' m' = G ∧ DecAt wx va n' ∧ DecAt wx vb m' ∧ Below B w wx)
    case atStart => exact ⟨_, _, n, m, rfl, rfl, rfl, HM0.out, HNB.out, HMB.out, HGO.out, HGG.out, HD0.out, HD1.out, HBW.out⟩
    case round =>
     clear HD0 HD1 HNB HMB HGO HGG HBW e1 e2 hs0
     obtain ⟨va, vb, n', m', rfl, rfl, rfl, hm0', hnb, hmb, hgo, hg, hd0, hd1, hb⟩ := hrel
     have HS0 : Hid (B ≤ wr.heap.size) := by have := hb.size; rw [HB.out] at this; exact this
     have HD0 := hid hd0; have HD1 := hid hd1
     have HM0' := hid hm0'; have HNB := hid hnb; have HMB := hid hmb; have HGO := hid hgo; have HGG := hid hg; have HBW := hid hb
     clear hm0' hnb hmb hgo hg hb hd1
     obtain ⟨A0, K0, D0, rfl, hK0, hK0z⟩ := hd0.len0
     clear hd0 hK0
     have HKZ := hid hK0z; clear hK0z
     by_cases hn' : n' = 0
     ·have hk : K0 = 0 := HKZ.out.2 hn'
      subst hk
      have HGM : Hid (m' = G) := by have := HGG.out; rw [hn', Nat.gcd_zero_left] at this; exact this
      clear hn' HKZ
      go_wp2
      go_loopg [1, 64] t (fun g v1 v64 wx => ∃ (vc : Value) (k : Nat), vc = v1 ∧ v64 = .int .i64 k ∧ k + g = t ∧ DecAt wx vc (2 ^ k * G) ∧ Below B w wx)
      case atStart => exact ⟨_, 0, rfl, by go_num, by omega, by rw [Nat.pow_zero, Nat.one_mul, ← HGM.out]; exact HD1.out, HBW.out⟩
      case round =>
       obtain ⟨vc, k, rfl, rfl, hkt, hdc, hbc⟩ := hrel
       have HDC := hid hdc; have HBC := hid hbc
       clear hdc hbc
       by_cases hlt : k < t
       ·have hltb : decide ((k : Int) < (t : Int)) = true := decide_eq_true (by omega)
        have hltn : decide (k < t) = true := decide_eq_true hlt
        have hlen : (digs 10 (2 ^ k * G)).length ≤ 1000000000 := by
         have h1 : 2 ^ k * G ≤ X := by
          have h2 : 2 ^ k * G ≤ 2 ^ t * G := Nat.mul_le_mul_right _ (Nat.pow_le_pow_right (by decide) (Nat.le_of_lt hlt))
          have h3 : 2 ^ t * G = Nat.gcd X Y := by rw [HG.out, HGX.out]
          have h4 := Nat.gcd_le_left Y (Nat.pos_of_ne_zero HX0.out)
          omega
         exact Nat.le_trans (HLEN.out _ (.inl h1)) (by decide)
        have HLE := hid hlen; clear hlen
        have HS1 : Hid (B ≤ wr.heap.size) := by have := HBC.out.size; rw [HB.out] at this; exact this
        have HKT := hid hlt
        clear hlt
        go_wp2_with fail
        refine (dplus_any _ _ (2 ^ k * G) (2 ^ k * G) wr HDC.out HDC.out HLE.out HLE.out).mono ?_
        rintro e w1 ⟨vd, rfl, hd, hb⟩
        have HDD : Hid (DecAt w1 vd (2 ^ (k + 1) * G)) := by rw [Nat.pow_succ, Nat.mul_comm (2 ^ k) 2, Nat.mul_assoc, Nat.two_mul]; exact hd
        have HBD : Hid (Below B w w1) := HBC.out.trans (hb.mono HS1.out)
        clear hd hb
        go_wp2
        go_roundg (gk - 1)
        case measure => have := HKT.out; omega
        case rel => exact ⟨_, k + 1, rfl, by go_num, by have := HKT.out; omega, HDD.out, HBD.out⟩
       ·have hltb : decide ((k : Int) < (t : Int)) = false := decide_eq_false (by omega)
        have hltn : decide (k < t) = false := decide_eq_false hlt
        have hkt2 : k = t := by omega
        have HDE : Hid (DecAt wr vc (Nat.gcd X Y)) := by rw [HG.out, HGX.out, ← hkt2]; exact HDC.out
        clear hkt2 hlt hkt
        go_wp2
        go_ret
        exact ⟨_, rfl, HDE.out, by rw [HB.out]; exact HBC.out⟩
     ·have hk : K0 ≠ 0 := fun e => hn' (HKZ.out.1 e)
      have hkb : decide ((0 : Int) < (K0 : Int)) = true := decide_eq_true (by omega)
      have hkn : decide (0 < K0) = true := decide_eq_true (by omega)
      have HN0' := hid hn'
      clear hn' hk
      have HGKO : Hid (n' + m' = n' + m') := rfl
      go_wp2
      clear hkb hkn
      go_loopg [0] n' (fun g v0 wx => ∃ (va : Value) (n2 : Nat), va = v0 ∧ n2 = g ∧ n2 ≠ 0 ∧ n2 ≤ n' ∧ (n2 % 2 = 1 ∨ m' % 2 = 1) ∧ Nat.gcd n2 m' = G ∧ DecAt wx va n2 ∧ DecAt wx vb m' ∧ Below B w wx)
      case atStart => exact ⟨_, n', rfl, rfl, HN0'.out, Nat.le_refl _, HGO.out, HGG.out, HD0.out, HD1.out, HBW.out⟩
      case round =>
       clear HD0 HD1 HBW HGO HGG HS0 HKZ
       obtain ⟨va, n2, rfl, rfl, hn2, hn2le, hgo, hg, hd0, hd1, hb⟩ := hrel
       have HS0 : Hid (B ≤ wr.heap.size) := by have := hb.size; rw [HB.out] at this; exact this
       have HD0 := hid hd0; have HD1 := hid hd1
       have HN2 := hid hn2; have HN2L := hid hn2le; have HGO := hid hgo; have HGG := hid hg; have HBW := hid hb
       clear hn2le hgo hg hb hd1
       have HLN2 : Hid ((digs 10 n2).length ≤ 10000000) := HLEN.out n2 (by rcases HNB.out with h | h; left; have := HN2L.out; omega; right; have := HN2L.out; omega)
       obtain ⟨b3, o3, K3, D3, d3, rfl, hK3, hK3p, e3, hp3, hp3b⟩ := hd0.low hn2
       clear hd0 hn2 hK3
       have hkb3 : decide ((0 : Int) < (K3 : Int)) = true := decide_eq_true (by omega)
       have hkn3 : decide (0 < K3) = true := decide_eq_true (by omega)
       rcases Nat.mod_two_eq_zero_or_one n2 with hp | hp
       ·obtain ⟨q1, q1b, q1c, q1d⟩ := parity_true hp3 hp
        have HM1 : Hid (m' % 2 = 1) := by show m' % 2 = 1; have := HGO.out; omega
        have HE := hid hp
        clear hp3 hp
        go_wp2_with fail
        refine (dhalf_any _ n2 wr HD0.out (Nat.le_trans HLN2.out (by decide))).mono ?_
        rintro e w1 ⟨vc, rfl, hc, hbc⟩
        have HC := hid hc; have HMC := hid (HD1.out.below hbc)
        have HBC : Hid (Below B w w1) := HBW.out.trans (hbc.mono HS0.out)
        clear hc hbc
        go_wp2
        go_roundg (n2 / 2)
        case measure => have := HN2.out; omega
        case rel => exact ⟨_, n2 / 2, rfl, rfl, by have := HN2.out; have := HE.out; omega, by have := HN2L.out; omega, .inr HM1.out, by rw [gcd_half HE.out HM1.out]; exact HGG.out, HC.out, HMC.out, HBC.out⟩
       ·obtain ⟨q1, q1b, q1c, q1d⟩ := parity_false hp3 hp
        have HO := hid hp
        clear hp3 hp
        go_wp2
        go_loopg [1] m' (fun g v1 wx => ∃ (vd : Value) (m2 : Nat), vd = v1 ∧ m2 = g ∧ m2 ≠ 0 ∧ m2 ≤ m' ∧ Nat.gcd n2 m2 = G ∧ DecAt wx (.slice (some ⟨b3, o3, none⟩) K3 D3) n2 ∧ DecAt wx vd m2 ∧ Below B w wx)
        case atStart => exact ⟨_, m', rfl, rfl, HM0'.out, Nat.le_refl _, HGG.out, HD0.out, HD1.out, HBW.out⟩
        case round =>
         clear HD0 HD1 HBW HGO HGG HS0 e3 q1 q1b q1c q1d
         obtain ⟨vd, m2, rfl, rfl, hm2, hm2le, hg, hd0, hd1, hb⟩ := hrel
         have HS0 : Hid (B ≤ wr.heap.size) := by have := hb.size; rw [HB.out] at this; exact this
         have HD0 := hid hd0; have HD1 := hid hd1
         have HM2 := hid hm2; have HM2L := hid hm2le; have HGG := hid hg; have HBW := hid hb
         clear hm2le hg hb hd0
         have HLM2 : Hid ((digs 10 m2).length ≤ 10000000) := HLEN.out m2 (by rcases HMB.out with h | h; left; have := HM2L.out; omega; right; have := HM2L.out; omega)
         obtain ⟨b4, o4, K4, D4, d4, rfl, hK4, hK4p, e4, hp4, hp4b⟩ := hd1.low hm2
         clear hd1 hm2 hK4
         rcases Nat.mod_two_eq_zero_or_one m2 with hp | hp
         ·obtain ⟨q2, q2b, q2c, q2d⟩ := parity_true hp4 hp
          have HE := hid hp
          clear hp4 hp
          go_wp2_with fail
          refine (dhalf_any _ m2 wr HD1.out (Nat.le_trans HLM2.out (by decide))).mono ?_
          rintro e w1 ⟨vc, rfl, hc, hbc⟩
          have HC := hid hc; have HNC := hid (HD0.out.below hbc)
          have HBC : Hid (Below B w w1) := HBW.out.trans (hbc.mono HS0.out)
          clear hc hbc
          go_wp2
          go_roundg (m2 / 2)
          case measure => have := HM2.out; omega
          case rel => exact ⟨_, m2 / 2, rfl, rfl, by have := HM2.out; have := HE.out; omega, by have := HM2L.out; omega, by rw [Nat.gcd_comm, gcd_half HE.out HO.out, Nat.gcd_comm]; exact HGG.out, HNC.out, HC.out, HBC.out⟩
         ·obtain ⟨q2, q2b, q2c, q2d⟩ := parity_false hp4 hp
          have HO2 := hid hp
          clear hp4 hp
          go_wp2_with fail
          refine (dcompare_any _ _ n2 m2 wr HD0.out HD1.out (Nat.le_trans HLN2.out (by decide)) (Nat.le_trans HLM2.out (by decide))).mono ?_
          rintro e w4 ⟨rfl, nq, rfl⟩
          by_cases hlt : n2 < m2
          ·have hcb : decide (cmpN n2 m2 < 0) = true := decide_eq_true (by unfold cmpN; rw [if_pos hlt]; decide)
           have HLT := hid hlt
           clear hlt
           go_wp2_with fail
           refine (dless_any _ _ m2 n2 (wr.drewN nq) (HD1.out.drewN nq) (HD0.out.drewN nq) (Nat.le_of_lt HLT.out) (Nat.le_trans HLM2.out (by decide))).mono ?_
           rintro e w5 ⟨v5, rfl, hd5, _, hb5⟩
           have HD5 := hid hd5; have HN5 : Hid (DecAt w5 _ n2) := DecAt.below (w := wr.drewN nq) HD0.out hb5
           have HB5 : Hid (Below B w w5) := (below_drewN HBW.out nq).trans (hb5.mono HS0.out)
           clear hd5 hb5
           go_wp2
           go_roundg (m2 - n2 + n2)
           case measure => have := HGKO.out; have := HLT.out; have := HM2L.out; have := HN0'.out; omega
           case rel => exact ⟨_, _, m2 - n2, n2, rfl, rfl, rfl, HN2.out, by rcases HMB.out with h | h; left; have := HM2L.out; omega; right; have := HM2L.out; omega, by rcases HNB.out with h | h; left; have := HN2L.out; omega; right; have := HN2L.out; omega, .inr HO.out, by rw [gcd_swap_sub (Nat.le_of_lt HLT.out)]; exact HGG.out, HD5.out, HN5.out, HB5.out⟩
          ·have hcb : decide (cmpN n2 m2 < 0) = false := decide_eq_false (by unfold cmpN; rw [if_neg hlt]; split <;> decide)
           have HGE : Hid (m2 ≤ n2) := Nat.le_of_not_lt hlt
           clear hlt
           go_wp2_with fail
           refine (dless_any _ _ n2 m2 (wr.drewN nq) (HD0.out.drewN nq) (HD1.out.drewN nq) HGE.out (Nat.le_trans HLN2.out (by decide))).mono ?_
           rintro e w5 ⟨v5, rfl, hd5, _, hb5⟩
           have HD5 := hid hd5; have HN5 : Hid (DecAt w5 _ m2) := DecAt.below (w := wr.drewN nq) HD1.out hb5
           have HB5 : Hid (Below B w w5) := (below_drewN HBW.out nq).trans (hb5.mono HS0.out)
           clear hd5 hb5
           go_wp2
           go_roundg (n2 - m2 + m2)
           case measure => have := HGKO.out; have := HGE.out; have := HN2L.out; have := HM0'.out; omega
           case rel => exact ⟨_, _, n2 - m2, m2, rfl, rfl, rfl, HM2.out, by rcases HNB.out with h | h; left; have := HN2L.out; omega; right; have := HN2L.out; omega, by rcases HMB.out with h | h; left; have := HM2L.out; omega; right; have := HM2L.out; omega, .inr HO2.out, by rw [Nat.gcd_sub_self_left HGE.out]; exact HGG.out, HD5.out, HN5.out, HB5.out⟩
end Num
namespace Num
open Go.RowKit Go.Lib
def RawAt (w : World) (v : Value) (m : Bool) (a b : Nat) : Prop := ∃ A L C A' L' C', v = .agg #[.bool m, .slice A L C, .slice A' L' C'] ∧ DecAt w (.slice A L C) a ∧ DecAt w (.slice A' L' C') b
theorem RawAt.below {w w' : World} {v : Value} {m : Bool} {a b : Nat} (h : RawAt w v m a b) (hb : Below w.heap.size w w') : RawAt w' v m a b := by
 obtain ⟨A, L, C, A', L', C', rfl, h1, h2⟩ := h
 exact ⟨A, L, C, A', L', C', rfl, h1.below hb, h2.below hb⟩
theorem DecAt.shape {w : World} {v : Value} {n : Nat} (h : DecAt w v n) : ∃ A L C, v = .slice A L C := let ⟨A, C, h, _⟩ := DigsAt.form h; ⟨A, _, C, h⟩
def RawRet (w : World) (m : Bool) (a b : Nat) (e : Ending) (w' : World) : Prop := ∃ v', e = .returned v' ∧ RawAt w' v' m a b ∧ Below w.heap.size w w'
theorem rat_end {w W : World} {R a b : Nat} {m : Bool} {A A' : Option Addr} {L C L' C' : Nat} (hb : Below w.heap.size w W) (hR : W.heap[R]? = some (.cells #[.bool m, .slice A L C, .slice A' L' C'] 59 (0, 0))) (h1 : DecAt W (.slice A L C) a) (h2 : DecAt W (.slice A' L' C') b) :
  RawRet w m a b (.returned (.agg #[.bool m, .slice A L C, .slice A' L' C'])) W ∧ W.cell? ⟨R, 0, none⟩ = some (.bool m) ∧ W.cell? ⟨R, 1, none⟩ = some (.slice A L C) ∧ W.cell? ⟨R, 2, none⟩ = some (.slice A' L' C') :=
 ⟨⟨_, rfl, ⟨_, _, _, _, _, _, rfl, h1, h2⟩, hb⟩, Lib.cell_of_heap hR 0, Lib.cell_of_heap hR 1, Lib.cell_of_heap hR 2⟩
end Num
end Go.Proofs.YtjcdeeahjkfmoaaGreatDoor
