/- Numbers as texts of digits, fractions, values and the functions of fmath: contracts of the program's functions, joined from smaller texts. Conditions stand at each theorem. -/
import Derived.Test.YtkbhlkinlcmgoaaGreatDoorNumH
import Derived.Deep.RegionWith

/- Rounding and powers of fractions: plain laws, no program. No conditions. -/
namespace Go.Proofs.YtkbhlkinlcmgoaaGreatDoor.Num

/-- the nearest whole number, the greater one of two -/
def roundNum (n d : Nat) : Nat := (n + n + d) / (d + d)
/-- ten to a power, above and below the line -/
def tenUp (p : Int) : Nat := 10 ^ p.toNat
def tenDn (p : Int) : Nat := 10 ^ (-p).toNat
/-- a fraction, rounded to decimal places -/
def roundR (q : Rat) (p : Int) : Rat := ratOf (neg q) (roundNum (up q * tenUp p) (q.den * tenDn p) * tenDn p) (1 * tenUp p)
/-- a fraction to a whole power -/
def powR (q : Rat) (n : Int) : Rat := if n < 0 then (q ^ n.natAbs)⁻¹ else q ^ n.natAbs

theorem tenUp_pos (p : Int) : 0 < tenUp p := Nat.pow_pos (by decide)
theorem tenDn_pos (p : Int) : 0 < tenDn p := Nat.pow_pos (by decide)
theorem div_pos {a b : Rat} (ha : 0 < a) (hb : 0 < b) : 0 < a / b := by
  rw [Rat.div_def]; exact Rat.mul_pos ha (Rat.inv_pos.2 hb)
theorem div_nonneg {a b : Rat} (ha : 0 ≤ a) (hb : 0 < b) : 0 ≤ a / b := by
  rw [Rat.div_def]; exact Rat.mul_nonneg ha (Rat.le_of_lt (Rat.inv_pos.2 hb))
/-- powers with a sign -/
theorem sign_pow (m : Bool) (a k : Nat) : (if m then -(a : Int) else a) ^ k = if (m && decide (k % 2 = 1)) then -((a ^ k : Nat) : Int) else ((a ^ k : Nat) : Int) := by
  cases m with
  | false => simp
  | true =>
    simp only [if_true, Bool.true_and, decide_eq_true_eq]
    induction k with
    | zero => simp
    | succ k ih =>
      rw [Int.pow_succ, ih, Nat.pow_succ]
      by_cases h : k % 2 = 1
      · rw [if_pos h, if_neg (by omega)]; simp [Int.neg_mul, Int.mul_neg]
      · rw [if_neg h, if_pos (by omega)]; simp [Int.mul_neg]
theorem ratOf_pow (q : Rat) (k : Nat) : ratOf (neg q && decide (k % 2 = 1)) (up q ^ k) (q.den ^ k) = q ^ k := by
  have h := Rat.mkRat_self (q ^ k)
  rw [Rat.num_pow, Rat.den_pow] at h
  have e : q.num = if neg q then -(up q : Int) else up q := by
    unfold neg up
    by_cases hn : q.num < 0
    · rw [decide_eq_true hn, if_pos rfl]; omega
    · rw [decide_eq_false hn]; simp; omega
  rw [e, sign_pow] at h
  exact h
theorem ratOf_pow_inv (q : Rat) (k : Nat) (h0 : q ≠ 0) : ratOf (neg q && decide (k % 2 = 1)) (q.den ^ k) (up q ^ k) = (q ^ k)⁻¹ := by
  have hu : up q ^ k ≠ 0 := Nat.pos_iff_ne_zero.1 (Nat.pow_pos (Nat.pos_of_ne_zero (fun e => h0 ((up_zero q).1 e))))
  rw [← ratOf_pow q k, ratOf_inv _ _ _ hu (Nat.pos_iff_ne_zero.1 (Nat.pow_pos (Nat.pos_of_ne_zero q.den_nz)))]

end Go.Proofs.YtkbhlkinlcmgoaaGreatDoor.Num

/- package exact's powers of natural numbers. Conditions: the results have at most 34 limbs. -/
namespace Go.Proofs.YtkbhlkinlcmgoaaGreatDoor.Num
open Go.RowKit Go.Lib

theorem half_abs (m : Int) : (m.tdiv 2).natAbs = m.natAbs / 2 := by rw [Int.natAbs_tdiv]; rfl
theorem rest_abs (m : Int) : (m.tmod 2).natAbs = m.natAbs % 2 := by rw [Int.natAbs_tmod]; rfl
theorem pow_half (a o : Nat) (m : Int) : o * a ^ m.natAbs = (if m.tmod 2 = 0 then o else o * a) * (if m.tdiv 2 = 0 then a else a * a) ^ (m.tdiv 2).natAbs := by
  have h1 : m.natAbs = 2 * (m.tdiv 2).natAbs + (m.tmod 2).natAbs := by
    rw [half_abs, rest_abs]; omega
  have hr : (m.tmod 2).natAbs = if m.tmod 2 = 0 then 0 else 1 := by
    rw [rest_abs]
    have e : m.tmod 2 = 0 ↔ m.natAbs % 2 = 0 := by
      rw [← Int.natAbs_eq_zero, rest_abs]
    by_cases h : m.tmod 2 = 0
    · rw [if_pos h]; exact e.1 h
    · rw [if_neg h]
      have : ¬ m.natAbs % 2 = 0 := fun h' => h (e.2 h')
      omega
  rw [h1, hr]
  by_cases hq : m.tdiv 2 = 0
  · have hq' : (m.tdiv 2).natAbs = 0 := by rw [hq]; rfl
    rw [hq']
    by_cases h : m.tmod 2 = 0
    · rw [if_pos h, if_pos h]; simp
    · rw [if_neg h, if_neg h]; simp
  · rw [if_neg hq, Nat.pow_add, Nat.pow_mul, Nat.pow_two]
    by_cases h : m.tmod 2 = 0
    · rw [if_pos h, if_pos h, Nat.pow_zero, Nat.mul_one]
    · rw [if_neg h, if_neg h, Nat.pow_one, Nat.mul_comm ((a * a) ^ _) a, Nat.mul_assoc]
theorem le_of_prod {o x R : Nat} (h : o * x = R) (hx : x ≠ 0) : o ≤ R := by
  rw [← h]; exact Nat.le_mul_of_pos_right o (Nat.pos_of_ne_zero hx)
/-- the state of a power in the making: o times a to the n is R -/
structure PowI (R : Nat) (a o : Nat) (m : Int) : Prop where
  prod : o * a ^ m.natAbs = R
  two : m ≠ 0 → 2 ≤ a
  pos : o ≠ 0
theorem PowI.step {R a o : Nat} {m : Int} (h : PowI R a o m) (h0 : m ≠ 0) : PowI R (if m.tdiv 2 = 0 then a else a * a) (if m.tmod 2 = 0 then o else o * a) (m.tdiv 2) := by
  have h2 := h.two h0
  refine ⟨by rw [← pow_half]; exact h.prod, fun hq => ?_, ?_⟩
  · rw [if_neg hq]; exact Nat.le_trans h2 (Nat.le_mul_of_pos_left _ (by omega))
  · split
    · exact h.pos
    · exact Nat.mul_ne_zero h.pos (by omega)
theorem PowI.le {R a o : Nat} {m : Int} (h : PowI R a o m) (h2 : 2 ≤ a) : o ≤ R := le_of_prod h.prod (Nat.pos_iff_ne_zero.1 (Nat.pow_pos (by omega)))
theorem PowI.base_le {R a o : Nat} {m : Int} (h : PowI R a o m) (h0 : m ≠ 0) : a ≤ R := by
  rw [← h.prod]
  refine Nat.le_trans ?_ (Nat.le_mul_of_pos_left _ (Nat.pos_of_ne_zero h.pos))
  exact Nat.le_self_pow (by omega) a
theorem NatAt.len {W : World} {A : Option Addr} {L C x : Nat} (h : NatAt W (.slice A L C) x) : L = (digs LB x).length := by
  obtain ⟨A', C', e, _⟩ := LimbsAt.form h
  injection e

set_option maxHeartbeats 4000000 in
set_option maxRecDepth 100000 in
theorem power_any (v1 : Value) (a0 : Nat) (n : Int) (w : World) (h1 : NatAt w v1 a0) (hn0 : -1000000 ≤ n) (hn1 : n ≤ 1000000) (hl : (digs LB (a0 ^ n.natAbs)).length ≤ 34) :
    Calls Tryz.prog 316 #[v1, .int .i64 n] w fun e w' => ∃ v', e = .returned (.tuple #[v', .bool true]) ∧ NatAt w' v' (a0 ^ n.natAbs) ∧ Below w.heap.size w w' := by
  have H1 := Lib.hid h1
  have Z := Lib.hid (fun W => zero_any v1 a0 W)
  have O := Lib.hid (fun W => one_any v1 a0 W)
  clear h1
  by_cases hz : a0 = 0 ∧ n ≠ 0
  · have hR : a0 ^ n.natAbs = a0 := by
      rw [hz.1, Nat.zero_pow (by have := hz.2; omega)]
    rw [hR]
    rw [decide_eq_true hz.1] at Z
    have hn : (n != 0) = true := by rw [bne_iff_ne]; exact hz.2
    clear hl hR hz
    go_enter Tryz.func316, Tryz.ntmps316
    go_wp2_with fail
    refine (Z.out _ H1.out).mono ?_
    rintro e w ⟨rfl, rfl⟩
    go_wp2
    go_ret2
    exact ⟨_, rfl, H1.out, Below.refl _ _⟩
  by_cases ho : a0 = 1
  · have hR : a0 ^ n.natAbs = a0 := by rw [ho, Nat.one_pow]
    rw [hR]
    rw [decide_eq_false (show ¬ a0 = 0 by omega)] at Z
    rw [decide_eq_true ho] at O
    clear hl hR hz
    go_enter Tryz.func316, Tryz.ntmps316
    go_wp2_with fail
    refine (Z.out _ H1.out).mono ?_
    rintro e w ⟨rfl, rfl⟩
    go_wp2_with fail
    refine (O.out _ H1.out).mono ?_
    rintro e w ⟨rfl, rfl⟩
    go_wp2
    go_ret2
    exact ⟨_, rfl, H1.out, Below.refl _ _⟩
  rw [decide_eq_false ho] at O
  obtain ⟨R, hR⟩ : ∃ R, a0 ^ n.natAbs = R := ⟨_, rfl⟩
  rw [hR] at hl ⊢
  have HR := Lib.hid hl
  have HI : Hid (PowI R a0 1 n) := Lib.hid ⟨by rw [Nat.one_mul]; exact hR, fun h => by
    have : a0 ≠ 0 := fun h' => hz ⟨h', h⟩
    omega, by decide⟩
  have hb : Below w.heap.size w (w.alloc (.cells #[.int .u32 1] 64)) := (Below.refl _ _).alloc (Nat.le_refl _) _
  have HB0 := Lib.hid hb
  have HA0 := Lib.hid (H1.out.below hb)
  have HO0 := Lib.hid (one_new w 64)
  obtain ⟨W0, hW0⟩ : ∃ Z, w.alloc (.cells #[.int .u32 1] 64) = Z := ⟨_, rfl⟩
  rw [hW0] at HB0 HA0 HO0
  have EW0 := Lib.hid hW0
  clear hl hR ho hb hW0
  go_enter Tryz.func316, Tryz.ntmps316
  go_wp2_with fail
  refine (Z.out _ H1.out).mono ?_
  rintro e w ⟨rfl, rfl⟩
  by_cases hz0 : a0 = 0
  · have hn : n = 0 := Decidable.byContradiction fun h => hz ⟨hz0, h⟩
    have hn2 : (n != 0) = false := by rw [bne_eq_false_iff_eq]; exact hn
    have hd : decide (a0 = 0) = true := decide_eq_true hz0
    clear hn
    clear hz hz0
    rw [hd]
    go_wp2_with fail
    refine (O.out _ H1.out).mono ?_
    rintro e w ⟨rfl, rfl⟩
    go_wp2
    rw [EW0.out]
    go_loopg [0, 1, 6] n.natAbs (fun gh v0 v1 v6 wx => ∃ (a o : Nat) (m : Int), m.natAbs ≤ gh ∧ v1 = .int .i64 m ∧ NatAt wx v0 a ∧ NatAt wx v6 o ∧ PowI R a o m ∧ -1000000 ≤ m ∧ m ≤ 1000000 ∧ Below w.heap.size w wx)
    case atStart => exact ⟨a0, 1, n, Nat.le_refl _, rfl, HA0.out, HO0.out, HI.out, hn0, hn1, HB0.out⟩
    case round =>
      obtain ⟨a, o, m, hm, rfl, ha, ho, hi, hm0, hm1, hbel⟩ := hrel
      obtain ⟨A1, L1, C1, rfl⟩ := ha.shape
      obtain ⟨A6, L6, C6, rfl⟩ := ho.shape
      have HA := Lib.hid ha
      have HO := Lib.hid ho
      have HI2 := Lib.hid hi
      have HBL := Lib.hid hbel
      clear ha ho hi hbel
      by_cases h0 : m = 0
      · subst h0
        have hv := HI2.out.prod
        rw [show (0 : Int).natAbs = 0 from rfl, Nat.pow_zero, Nat.mul_one] at hv
        rw [hv] at HO
        clear hv
        go_wp2
        go_ret2
        exact ⟨_, rfl, HO.out, HBL.out⟩
      have hne : (m != 0) = true := by rw [bne_iff_ne]; exact h0
      have hl1 := HA.out.len
      have hl2 : L1 ≤ 34 := by
        rw [hl1]; exact Nat.le_trans (digs_len_mono LB_two (HI2.out.base_le h0)) HR.out
      have hl3 := HO.out.len
      have hl4 : L6 ≤ 34 := by
        rw [hl3]; exact Nat.le_trans (digs_len_mono LB_two (HI2.out.le (HI2.out.two h0))) HR.out
      have TT := Lib.hid (fun W b h => calls_shaped (times_any (.slice A6 L6 C6) (.slice A1 L1 C1) o a W b h (by omega) (by omega)))
      have TA := Lib.hid (fun W h => calls_shaped (times_any (.slice A1 L1 C1) (.slice A1 L1 C1) a a W h h (by omega) (by omega)))
      have d1 : decide (34 < (L1 : Int)) = false := decide_eq_false (by omega)
      have hq3 : -1000000 ≤ m.tdiv 2 ∧ m.tdiv 2 ≤ 1000000 := by have := half_abs m; omega
      clear hl1 hl2 hl3 hl4
      by_cases ho : m.tmod 2 = 0
      · by_cases hh : m.tdiv 2 = 0
        · exfalso
          have := half_abs m
          have := rest_abs m
          omega
        · have q1 : (m.tmod 2 != 0) = false := by rw [bne_eq_false_iff_eq]; exact ho
          have q2 : (m.tdiv 2 != 0) = true := by rw [bne_iff_ne]; exact hh
          have HST := Lib.hid (HI2.out.step h0)
          rw [if_neg hh, if_pos ho] at HST
          have hl6 := HO.out.len
          have hl7 : L6 ≤ 34 := by
            rw [hl6]
            have := HST.out.le (by have h2 := HI2.out.two h0; first | exact h2 | exact Nat.le_trans h2 (Nat.le_mul_of_pos_left _ (by omega)))
            exact Nat.le_trans (digs_len_mono LB_two this) HR.out
          have d6 : decide (34 < (L6 : Int)) = false := decide_eq_false (by omega)
          clear hl6
          go_wp2_with fail
          refine (TA.out _ HA.out).mono ?_
          rintro e w3 ⟨A7, L7, C7, rfl, ha2, hb⟩
          replace HO := Lib.hid (HO.out.below hb)
          replace HBL := Lib.hid (HBL.out.trans (hb.mono HBL.out.size))
          have HA := Lib.hid ha2
          clear ha2 hb
          go_wp2
          go_roundg (gk - 1)
          case measure => omega
          case rel => exact ⟨_, _, m.tdiv 2, by have := half_abs m; omega, by go_num, HA.out, HO.out, HST.out, hq3.1, hq3.2, HBL.out⟩
      · by_cases hh : m.tdiv 2 = 0
        · have q1 : (m.tmod 2 != 0) = true := by rw [bne_iff_ne]; exact ho
          have q2 : (m.tdiv 2 != 0) = false := by rw [bne_eq_false_iff_eq]; exact hh
          have HST := Lib.hid (HI2.out.step h0)
          rw [if_pos hh, if_neg ho] at HST
          go_wp2_with fail
          refine (TT.out _ HO.out HA.out).mono ?_
          rintro e w2 ⟨A6, L6, C6, rfl, ho2, hb⟩
          replace HA := Lib.hid (HA.out.below hb)
          replace HBL := Lib.hid (HBL.out.trans (hb.mono HBL.out.size))
          have HO := Lib.hid ho2
          clear ho2 hb
          have hl6 := HO.out.len
          have hl7 : L6 ≤ 34 := by
            rw [hl6]
            have := HST.out.le (by have h2 := HI2.out.two h0; first | exact h2 | exact Nat.le_trans h2 (Nat.le_mul_of_pos_left _ (by omega)))
            exact Nat.le_trans (digs_len_mono LB_two this) HR.out
          have d6 : decide (34 < (L6 : Int)) = false := decide_eq_false (by omega)
          clear hl6
          go_wp2
          go_roundg (gk - 1)
          case measure => omega
          case rel => exact ⟨_, _, m.tdiv 2, by have := half_abs m; omega, by go_num, HA.out, HO.out, HST.out, hq3.1, hq3.2, HBL.out⟩
        · have q1 : (m.tmod 2 != 0) = true := by rw [bne_iff_ne]; exact ho
          have q2 : (m.tdiv 2 != 0) = true := by rw [bne_iff_ne]; exact hh
          have HST := Lib.hid (HI2.out.step h0)
          rw [if_neg hh, if_neg ho] at HST
          go_wp2_with fail
          refine (TT.out _ HO.out HA.out).mono ?_
          rintro e w2 ⟨A6, L6, C6, rfl, ho2, hb⟩
          replace HA := Lib.hid (HA.out.below hb)
          replace HBL := Lib.hid (HBL.out.trans (hb.mono HBL.out.size))
          have HO := Lib.hid ho2
          clear ho2 hb
          have hl6 := HO.out.len
          have hl7 : L6 ≤ 34 := by
            rw [hl6]
            have := HST.out.le (by have h2 := HI2.out.two h0; first | exact h2 | exact Nat.le_trans h2 (Nat.le_mul_of_pos_left _ (by omega)))
            exact Nat.le_trans (digs_len_mono LB_two this) HR.out
          have d6 : decide (34 < (L6 : Int)) = false := decide_eq_false (by omega)
          clear hl6
          go_wp2_with fail
          refine (TA.out _ HA.out).mono ?_
          rintro e w3 ⟨A7, L7, C7, rfl, ha2, hb⟩
          replace HO := Lib.hid (HO.out.below hb)
          replace HBL := Lib.hid (HBL.out.trans (hb.mono HBL.out.size))
          have HA := Lib.hid ha2
          clear ha2 hb
          go_wp2
          go_roundg (gk - 1)
          case measure => omega
          case rel => exact ⟨_, _, m.tdiv 2, by have := half_abs m; omega, by go_num, HA.out, HO.out, HST.out, hq3.1, hq3.2, HBL.out⟩
  · have hd : decide (a0 = 0) = false := decide_eq_false hz0
    clear hz hz0
    rw [hd]
    go_wp2_with fail
    refine (O.out _ H1.out).mono ?_
    rintro e w ⟨rfl, rfl⟩
    go_wp2
    rw [EW0.out]
    go_loopg [0, 1, 6] n.natAbs (fun gh v0 v1 v6 wx => ∃ (a o : Nat) (m : Int), m.natAbs ≤ gh ∧ v1 = .int .i64 m ∧ NatAt wx v0 a ∧ NatAt wx v6 o ∧ PowI R a o m ∧ -1000000 ≤ m ∧ m ≤ 1000000 ∧ Below w.heap.size w wx)
    case atStart => exact ⟨a0, 1, n, Nat.le_refl _, rfl, HA0.out, HO0.out, HI.out, hn0, hn1, HB0.out⟩
    case round =>
      obtain ⟨a, o, m, hm, rfl, ha, ho, hi, hm0, hm1, hbel⟩ := hrel
      obtain ⟨A1, L1, C1, rfl⟩ := ha.shape
      obtain ⟨A6, L6, C6, rfl⟩ := ho.shape
      have HA := Lib.hid ha
      have HO := Lib.hid ho
      have HI2 := Lib.hid hi
      have HBL := Lib.hid hbel
      clear ha ho hi hbel
      by_cases h0 : m = 0
      · subst h0
        have hv := HI2.out.prod
        rw [show (0 : Int).natAbs = 0 from rfl, Nat.pow_zero, Nat.mul_one] at hv
        rw [hv] at HO
        clear hv
        go_wp2
        go_ret2
        exact ⟨_, rfl, HO.out, HBL.out⟩
      have hne : (m != 0) = true := by rw [bne_iff_ne]; exact h0
      have hl1 := HA.out.len
      have hl2 : L1 ≤ 34 := by
        rw [hl1]; exact Nat.le_trans (digs_len_mono LB_two (HI2.out.base_le h0)) HR.out
      have hl3 := HO.out.len
      have hl4 : L6 ≤ 34 := by
        rw [hl3]; exact Nat.le_trans (digs_len_mono LB_two (HI2.out.le (HI2.out.two h0))) HR.out
      have TT := Lib.hid (fun W b h => calls_shaped (times_any (.slice A6 L6 C6) (.slice A1 L1 C1) o a W b h (by omega) (by omega)))
      have TA := Lib.hid (fun W h => calls_shaped (times_any (.slice A1 L1 C1) (.slice A1 L1 C1) a a W h h (by omega) (by omega)))
      have d1 : decide (34 < (L1 : Int)) = false := decide_eq_false (by omega)
      have hq3 : -1000000 ≤ m.tdiv 2 ∧ m.tdiv 2 ≤ 1000000 := by have := half_abs m; omega
      clear hl1 hl2 hl3 hl4
      by_cases ho : m.tmod 2 = 0
      · by_cases hh : m.tdiv 2 = 0
        · exfalso
          have := half_abs m
          have := rest_abs m
          omega
        · have q1 : (m.tmod 2 != 0) = false := by rw [bne_eq_false_iff_eq]; exact ho
          have q2 : (m.tdiv 2 != 0) = true := by rw [bne_iff_ne]; exact hh
          have HST := Lib.hid (HI2.out.step h0)
          rw [if_neg hh, if_pos ho] at HST
          have hl6 := HO.out.len
          have hl7 : L6 ≤ 34 := by
            rw [hl6]
            have := HST.out.le (by have h2 := HI2.out.two h0; first | exact h2 | exact Nat.le_trans h2 (Nat.le_mul_of_pos_left _ (by omega)))
            exact Nat.le_trans (digs_len_mono LB_two this) HR.out
          have d6 : decide (34 < (L6 : Int)) = false := decide_eq_false (by omega)
          clear hl6
          go_wp2_with fail
          refine (TA.out _ HA.out).mono ?_
          rintro e w3 ⟨A7, L7, C7, rfl, ha2, hb⟩
          replace HO := Lib.hid (HO.out.below hb)
          replace HBL := Lib.hid (HBL.out.trans (hb.mono HBL.out.size))
          have HA := Lib.hid ha2
          clear ha2 hb
          go_wp2
          go_roundg (gk - 1)
          case measure => omega
          case rel => exact ⟨_, _, m.tdiv 2, by have := half_abs m; omega, by go_num, HA.out, HO.out, HST.out, hq3.1, hq3.2, HBL.out⟩
      · by_cases hh : m.tdiv 2 = 0
        · have q1 : (m.tmod 2 != 0) = true := by rw [bne_iff_ne]; exact ho
          have q2 : (m.tdiv 2 != 0) = false := by rw [bne_eq_false_iff_eq]; exact hh
          have HST := Lib.hid (HI2.out.step h0)
          rw [if_pos hh, if_neg ho] at HST
          go_wp2_with fail
          refine (TT.out _ HO.out HA.out).mono ?_
          rintro e w2 ⟨A6, L6, C6, rfl, ho2, hb⟩
          replace HA := Lib.hid (HA.out.below hb)
          replace HBL := Lib.hid (HBL.out.trans (hb.mono HBL.out.size))
          have HO := Lib.hid ho2
          clear ho2 hb
          have hl6 := HO.out.len
          have hl7 : L6 ≤ 34 := by
            rw [hl6]
            have := HST.out.le (by have h2 := HI2.out.two h0; first | exact h2 | exact Nat.le_trans h2 (Nat.le_mul_of_pos_left _ (by omega)))
            exact Nat.le_trans (digs_len_mono LB_two this) HR.out
          have d6 : decide (34 < (L6 : Int)) = false := decide_eq_false (by omega)
          clear hl6
          go_wp2
          go_roundg (gk - 1)
          case measure => omega
          case rel => exact ⟨_, _, m.tdiv 2, by have := half_abs m; omega, by go_num, HA.out, HO.out, HST.out, hq3.1, hq3.2, HBL.out⟩
        · have q1 : (m.tmod 2 != 0) = true := by rw [bne_iff_ne]; exact ho
          have q2 : (m.tdiv 2 != 0) = true := by rw [bne_iff_ne]; exact hh
          have HST := Lib.hid (HI2.out.step h0)
          rw [if_neg hh, if_neg ho] at HST
          go_wp2_with fail
          refine (TT.out _ HO.out HA.out).mono ?_
          rintro e w2 ⟨A6, L6, C6, rfl, ho2, hb⟩
          replace HA := Lib.hid (HA.out.below hb)
          replace HBL := Lib.hid (HBL.out.trans (hb.mono HBL.out.size))
          have HO := Lib.hid ho2
          clear ho2 hb
          have hl6 := HO.out.len
          have hl7 : L6 ≤ 34 := by
            rw [hl6]
            have := HST.out.le (by have h2 := HI2.out.two h0; first | exact h2 | exact Nat.le_trans h2 (Nat.le_mul_of_pos_left _ (by omega)))
            exact Nat.le_trans (digs_len_mono LB_two this) HR.out
          have d6 : decide (34 < (L6 : Int)) = false := decide_eq_false (by omega)
          clear hl6
          go_wp2_with fail
          refine (TA.out _ HA.out).mono ?_
          rintro e w3 ⟨A7, L7, C7, rfl, ha2, hb⟩
          replace HO := Lib.hid (HO.out.below hb)
          replace HBL := Lib.hid (HBL.out.trans (hb.mono HBL.out.size))
          have HA := Lib.hid ha2
          clear ha2 hb
          go_wp2
          go_roundg (gk - 1)
          case measure => omega
          case rel => exact ⟨_, _, m.tdiv 2, by have := half_abs m; omega, by go_num, HA.out, HO.out, HST.out, hq3.1, hq3.2, HBL.out⟩
end Go.Proofs.YtkbhlkinlcmgoaaGreatDoor.Num

/- package exact's powers of fractions. Conditions: the results have at most 34 limbs; strconv's table of powers of ten lies as it is laid. -/
namespace Go.Proofs.YtkbhlkinlcmgoaaGreatDoor.Num
open Go.RowKit Go.Lib

theorem power_s (v1 : Value) (a0 : Nat) (n : Int) (w : World) (h1 : NatAt w v1 a0) (hn0 : -1000000 ≤ n) (hn1 : n ≤ 1000000) (hl : (digs LB (a0 ^ n.natAbs)).length ≤ 34) :
    Calls Tryz.prog 316 #[v1, .int .i64 n] w fun e w' => ∃ A L C, e = .returned (.tuple #[.slice A L C, .bool true]) ∧ NatAt w' (.slice A L C) (a0 ^ n.natAbs) ∧ Below w.heap.size w w' :=
  (power_any v1 a0 n w h1 hn0 hn1 hl).mono fun e w' ⟨v', he, h, hb⟩ => by
    obtain ⟨A, L, C, rfl⟩ := h.shape
    exact ⟨A, L, C, he, h, hb⟩
theorem odd_abs (n : Int) : (n.tmod 2 != 0) = decide (n.natAbs % 2 = 1) := by
  have h := rest_abs n
  rw [Bool.eq_iff_iff, bne_iff_ne, decide_eq_true_iff]
  omega
theorem odd_mod (n : Int) (h : ¬ n < 0) : (n % 2 != 0) = decide (n.natAbs % 2 = 1) := by
  rw [Bool.eq_iff_iff, bne_iff_ne, decide_eq_true_iff]
  omega
theorem powR_neg (q : Rat) (n : Int) (h : n < 0) : powR q n = (q ^ n.natAbs)⁻¹ := if_pos h
theorem powR_pos (q : Rat) (n : Int) (h : ¬ n < 0) : powR q n = q ^ n.natAbs := if_neg h
theorem swap_at {W : World} {b : Nat} {x y z : Value} {T : TypeId} (h : W.heap[b]? = some (.cells #[x, y, z] T (0, 0))) (y' z' : Value) : ((W.setCell ⟨b, 1, none⟩ y').setCell ⟨b, 2, none⟩ z').heap[b]? = some (.cells #[x, y', z'] T (0, 0)) := by
  have h1 := heap_setCell_at h 1 y'
  have h2 := heap_setCell_at h1 2 z'
  rw [h2]; rfl
theorem swap_below {w W : World} {b : Nat} (hb : Below w.heap.size w W) (hge : w.heap.size ≤ b) (y' z' : Value) : Below w.heap.size w ((W.setCell ⟨b, 1, none⟩ y').setCell ⟨b, 2, none⟩ z') :=
  (hb.setCell (p := ⟨b, 1, none⟩) hge _).setCell (p := ⟨b, 2, none⟩) hge _
theorem swap_other (W : World) (b : Nat) (y' z' : Value) {k : Nat} (hk : k ≠ b) : ((W.setCell ⟨b, 1, none⟩ y').setCell ⟨b, 2, none⟩ z').heap[k]? = W.heap[k]? :=
  (Below.heap_setCell _ ⟨b, 2, none⟩ z' k hk).trans (Below.heap_setCell W ⟨b, 1, none⟩ y' k hk)
theorem LimbsAt.same {W W' : World} {A : Option Addr} {L C g : Nat} {l : List Nat} (h : LimbsAt W (.slice A L C) l) (hn : ∀ k, k ≠ g → W'.heap[k]? = W.heap[k]?) (hg : ∀ i v, W.cell? ⟨g, i, none⟩ = some (.int .u32 v) → False) : LimbsAt W' (.slice A L C) l := by
  obtain ⟨A', C', e, hC, hc⟩ := h
  refine ⟨A', C', e, hC, fun i hi => ?_⟩
  obtain ⟨b, o, ha, hcell⟩ := hc i hi
  refine ⟨b, o, ha, ?_⟩
  have hne : b ≠ g := by
    rintro rfl
    exact hg _ _ hcell
  rw [World.cell?_of_block (hn b hne)]
  exact hcell
/-- the block of a number holds no limbs -/
theorem three_nolimb {W : World} {b : Nat} {m : Bool} {A1 A2 : Option Addr} {L1 C1 L2 C2 : Nat} {T : TypeId} (h : W.heap[b]? = some (.cells #[.bool m, .slice A1 L1 C1, .slice A2 L2 C2] T (0, 0))) : ∀ i v, W.cell? ⟨b, i, none⟩ = some (.int .u32 v) → False := by
  intro i v hc
  rw [Lib.cell_of_heap h i] at hc
  match i with
  | 0 => cases hc
  | 1 => cases hc
  | 2 => cases hc
  | i + 3 => simp at hc

set_option maxHeartbeats 4000000 in
set_option maxRecDepth 100000 in
theorem powerQ_pp (q : Rat) (n : Int) (w : World) (hq : fits q = true) (hneg : ¬ n < 0) (hs : neg q = false) (hn0 : -1000000 ≤ n) (hn1 : n ≤ 1000000) (hl1 : (digs LB (up q ^ n.natAbs)).length ≤ 34) (hl2 : (digs LB (q.den ^ n.natAbs)).length ≤ 34) (ht : Tab w) :
    Calls Tryz.prog 216 #[fracV q, .int .i64 n] w fun e w' => e = .returned (wroteV (powR q n)) ∧ Below w.heap.size w w' := by
  have T := Lib.hid (fun W => read_s q W hq)
  have P1 := Lib.hid (fun W v h => power_s v (up q) n W h hn0 hn1 hl1)
  have P2 := Lib.hid (fun W v h => power_s v q.den n W h hn0 hn1 hl2)
  have TW := Lib.hid (fun W v1 v2 h1 h2 g => numWrite_any (neg q && decide (n.natAbs % 2 = 1)) v1 v2 (up q ^ n.natAbs) (q.den ^ n.natAbs) W (Nat.pos_iff_ne_zero.1 (Nat.pow_pos (Nat.pos_of_ne_zero q.den_nz))) h1 h2 g (by omega) (by omega))
  rw [ratOf_pow, ← powR_pos q n hneg] at TW
  rw [hs] at T TW
  have hodd := odd_mod n hneg
  obtain ⟨od, hod⟩ : ∃ b, decide (n.natAbs % 2 = 1) = b := ⟨_, rfl⟩
  rw [hod] at hodd TW
  simp only [Bool.false_and] at TW
  have hnot : ∀ (x : Bool) (w : World), (Op.unary .not (.bool x)).run Tryz.prog w = .ok (.bool (!x)) w := fun _ _ => rfl
  obtain ⟨rx, ry, rc, hw⟩ := wroteV_shape (powR q n)
  rw [hw] at TW ⊢
  obtain ⟨u, hu⟩ : ∃ u, up q ^ n.natAbs = u := ⟨_, rfl⟩
  obtain ⟨d, hd⟩ : ∃ d, q.den ^ n.natAbs = d := ⟨_, rfl⟩
  rw [hu] at P1 TW
  rw [hd] at P2 TW
  have d0 : decide (n < 0) = false := decide_eq_false hneg
  clear hw hod hu hd hl1 hl2 hs
  rw [fracV_is q] at T ⊢
  have hb : Below w.heap.size w ((w.alloc (.cells #[.string (numS q), .string (denS q)] 24)).alloc (.cells #[.string { data := #[] }, .string { data := #[] }] 24)) := ((Below.refl _ _).alloc (Nat.le_refl _) _).alloc (by simp) _
  have hr := heap_alloc_new (w.alloc (.cells #[.string (numS q), .string (denS q)] 24)) (.cells #[.string { data := #[] }, .string { data := #[] }] 24)
  rw [World.size_alloc] at hr
  have HR := Lib.hid hr
  have HL := Lib.hid hb
  have HT := Lib.hid (ht.below hb)
  have HT0 := Lib.hid ht
  clear hb hr ht hq
  go_enter Tryz.func216, Tryz.ntmps216
  go_wp2_with fail
  refine (T.out _).mono ?_
  rintro e W1 ⟨A1, L1, C1, A2, L2, C2, rfl, ⟨h1, h2⟩, hb⟩
  have N1 := Lib.hid h1
  have N2 := Lib.hid h2
  clear h1 h2
  replace HR := Lib.hid (keep_block HR.out hb)
  replace HT := Lib.hid (HT.out.below hb)
  replace HL := Lib.hid (HL.out.trans (hb.mono HL.out.size))
  clear hb
  have hb : Below W1.heap.size W1 (W1.alloc (.cells #[.bool false, .slice A1 L1 C1, .slice A2 L2 C2] 47)) := (Below.refl _ _).alloc (Nat.le_refl _) _
  have HX := Lib.hid (heap_alloc_new W1 (.cells #[.bool false, .slice A1 L1 C1, .slice A2 L2 C2] 47))
  have HW1 := Lib.hid HL.out.size
  have HLT := Lib.hid (heap_lt HR.out)
  replace HR := Lib.hid (keep_block HR.out hb)
  replace HT := Lib.hid (HT.out.below hb)
  replace N1 := Lib.hid (N1.out.below hb)
  replace N2 := Lib.hid (N2.out.below hb)
  replace HL := Lib.hid (HL.out.trans (hb.mono HL.out.size))
  clear hb
  obtain ⟨W2, hW2⟩ : ∃ Z, W1.alloc (.cells #[.bool false, .slice A1 L1 C1, .slice A2 L2 C2] 47) = Z := ⟨_, rfl⟩
  rw [hW2] at HX HR HT N1 N2 HL
  have EW2 := Lib.hid hW2
  clear hW2
  obtain ⟨⟨x0, x1, x2⟩, xf0, xf1, xf2⟩ := three_at HX.out
  go_wp2_with fail
  rw [EW2.out]
  refine (P1.out _ _ N1.out).mono ?_
  rintro e W3 ⟨A3, L3, C3, rfl, h3, hb⟩
  have N3 := Lib.hid h3
  clear h3 x0 x1 x2 xf0 xf1 xf2
  replace HR := Lib.hid (keep_block HR.out hb)
  replace HX := Lib.hid (keep_block HX.out hb)
  replace HT := Lib.hid (HT.out.below hb)
  replace N2 := Lib.hid (N2.out.below hb)
  replace HL := Lib.hid (HL.out.trans (hb.mono HL.out.size))
  clear hb
  obtain ⟨⟨x0, x1, x2⟩, xf0, xf1, xf2⟩ := three_at HX.out
  go_wp2_with fail
  refine (P2.out _ _ N2.out).mono ?_
  rintro e W4 ⟨A4, L4, C4, rfl, h4, hb⟩
  have N4 := Lib.hid h4
  clear h4 x0 x1 x2 xf0 xf1 xf2
  replace HR := Lib.hid (keep_block HR.out hb)
  replace HX := Lib.hid (keep_block HX.out hb)
  replace HT := Lib.hid (HT.out.below hb)
  replace N3 := Lib.hid (N3.out.below hb)
  replace HL := Lib.hid (HL.out.trans (hb.mono HL.out.size))
  clear hb
  obtain ⟨⟨x0, x1, x2⟩, xf0, xf1, xf2⟩ := three_at HX.out
  go_wp2_with fail
  refine (TW.out _ _ _ N3.out N4.out HT.out).mono ?_
  rintro e W5 ⟨rfl, hb⟩
  replace HR := Lib.hid (keep_block HR.out hb)
  replace HL := Lib.hid (HL.out.trans (hb.mono HL.out.size))
  clear hb
  obtain ⟨⟨r0, r1⟩, rf0, rf1⟩ := two_at HR.out
  obtain ⟨nb, e0, e1⟩ := frac_end (x := .string rx) (y := .string ry) HR.out HL.out (by omega)
  go_wp2
  refine bodyPost_ret (v := .tuple #[.agg #[.string rx, .string ry], .int .i64 rc]) (by simp [results, Tryz.results216, go_sem, e0, e1]) rfl ⟨rfl, nb⟩

set_option maxHeartbeats 4000000 in
set_option maxRecDepth 100000 in
theorem powerQ_pm (q : Rat) (n : Int) (w : World) (hq : fits q = true) (hneg : ¬ n < 0) (hs : neg q = true) (hn0 : -1000000 ≤ n) (hn1 : n ≤ 1000000) (hl1 : (digs LB (up q ^ n.natAbs)).length ≤ 34) (hl2 : (digs LB (q.den ^ n.natAbs)).length ≤ 34) (ht : Tab w) :
    Calls Tryz.prog 216 #[fracV q, .int .i64 n] w fun e w' => e = .returned (wroteV (powR q n)) ∧ Below w.heap.size w w' := by
  have T := Lib.hid (fun W => read_s q W hq)
  have P1 := Lib.hid (fun W v h => power_s v (up q) n W h hn0 hn1 hl1)
  have P2 := Lib.hid (fun W v h => power_s v q.den n W h hn0 hn1 hl2)
  have TW := Lib.hid (fun W v1 v2 h1 h2 g => numWrite_any (neg q && decide (n.natAbs % 2 = 1)) v1 v2 (up q ^ n.natAbs) (q.den ^ n.natAbs) W (Nat.pos_iff_ne_zero.1 (Nat.pow_pos (Nat.pos_of_ne_zero q.den_nz))) h1 h2 g (by omega) (by omega))
  rw [ratOf_pow, ← powR_pos q n hneg] at TW
  rw [hs] at T TW
  have hodd := odd_mod n hneg
  obtain ⟨od, hod⟩ : ∃ b, decide (n.natAbs % 2 = 1) = b := ⟨_, rfl⟩
  rw [hod] at hodd TW
  simp only [Bool.true_and] at TW
  have hnot : ∀ (x : Bool) (w : World), (Op.unary .not (.bool x)).run Tryz.prog w = .ok (.bool (!x)) w := fun _ _ => rfl
  obtain ⟨rx, ry, rc, hw⟩ := wroteV_shape (powR q n)
  rw [hw] at TW ⊢
  obtain ⟨u, hu⟩ : ∃ u, up q ^ n.natAbs = u := ⟨_, rfl⟩
  obtain ⟨d, hd⟩ : ∃ d, q.den ^ n.natAbs = d := ⟨_, rfl⟩
  rw [hu] at P1 TW
  rw [hd] at P2 TW
  have d0 : decide (n < 0) = false := decide_eq_false hneg
  clear hw hod hu hd hl1 hl2 hs
  rw [fracV_is q] at T ⊢
  have hb : Below w.heap.size w ((w.alloc (.cells #[.string (numS q), .string (denS q)] 24)).alloc (.cells #[.string { data := #[] }, .string { data := #[] }] 24)) := ((Below.refl _ _).alloc (Nat.le_refl _) _).alloc (by simp) _
  have hr := heap_alloc_new (w.alloc (.cells #[.string (numS q), .string (denS q)] 24)) (.cells #[.string { data := #[] }, .string { data := #[] }] 24)
  rw [World.size_alloc] at hr
  have HR := Lib.hid hr
  have HL := Lib.hid hb
  have HT := Lib.hid (ht.below hb)
  have HT0 := Lib.hid ht
  clear hb hr ht hq
  go_enter Tryz.func216, Tryz.ntmps216
  go_wp2_with fail
  refine (T.out _).mono ?_
  rintro e W1 ⟨A1, L1, C1, A2, L2, C2, rfl, ⟨h1, h2⟩, hb⟩
  have N1 := Lib.hid h1
  have N2 := Lib.hid h2
  clear h1 h2
  replace HR := Lib.hid (keep_block HR.out hb)
  replace HT := Lib.hid (HT.out.below hb)
  replace HL := Lib.hid (HL.out.trans (hb.mono HL.out.size))
  clear hb
  have hb : Below W1.heap.size W1 (W1.alloc (.cells #[.bool true, .slice A1 L1 C1, .slice A2 L2 C2] 47)) := (Below.refl _ _).alloc (Nat.le_refl _) _
  have HX := Lib.hid (heap_alloc_new W1 (.cells #[.bool true, .slice A1 L1 C1, .slice A2 L2 C2] 47))
  have HW1 := Lib.hid HL.out.size
  have HLT := Lib.hid (heap_lt HR.out)
  replace HR := Lib.hid (keep_block HR.out hb)
  replace HT := Lib.hid (HT.out.below hb)
  replace N1 := Lib.hid (N1.out.below hb)
  replace N2 := Lib.hid (N2.out.below hb)
  replace HL := Lib.hid (HL.out.trans (hb.mono HL.out.size))
  clear hb
  obtain ⟨W2, hW2⟩ : ∃ Z, W1.alloc (.cells #[.bool true, .slice A1 L1 C1, .slice A2 L2 C2] 47) = Z := ⟨_, rfl⟩
  rw [hW2] at HX HR HT N1 N2 HL
  have EW2 := Lib.hid hW2
  clear hW2
  obtain ⟨⟨x0, x1, x2⟩, xf0, xf1, xf2⟩ := three_at HX.out
  go_wp2_with fail
  rw [EW2.out]
  refine (P1.out _ _ N1.out).mono ?_
  rintro e W3 ⟨A3, L3, C3, rfl, h3, hb⟩
  have N3 := Lib.hid h3
  clear h3 x0 x1 x2 xf0 xf1 xf2
  replace HR := Lib.hid (keep_block HR.out hb)
  replace HX := Lib.hid (keep_block HX.out hb)
  replace HT := Lib.hid (HT.out.below hb)
  replace N2 := Lib.hid (N2.out.below hb)
  replace HL := Lib.hid (HL.out.trans (hb.mono HL.out.size))
  clear hb
  obtain ⟨⟨x0, x1, x2⟩, xf0, xf1, xf2⟩ := three_at HX.out
  go_wp2_with fail
  refine (P2.out _ _ N2.out).mono ?_
  rintro e W4 ⟨A4, L4, C4, rfl, h4, hb⟩
  have N4 := Lib.hid h4
  clear h4 x0 x1 x2 xf0 xf1 xf2
  replace HR := Lib.hid (keep_block HR.out hb)
  replace HX := Lib.hid (keep_block HX.out hb)
  replace HT := Lib.hid (HT.out.below hb)
  replace N3 := Lib.hid (N3.out.below hb)
  replace HL := Lib.hid (HL.out.trans (hb.mono HL.out.size))
  clear hb
  obtain ⟨⟨x0, x1, x2⟩, xf0, xf1, xf2⟩ := three_at HX.out
  go_wp2_with fail
  refine (TW.out _ _ _ N3.out N4.out HT.out).mono ?_
  rintro e W5 ⟨rfl, hb⟩
  replace HR := Lib.hid (keep_block HR.out hb)
  replace HL := Lib.hid (HL.out.trans (hb.mono HL.out.size))
  clear hb
  obtain ⟨⟨r0, r1⟩, rf0, rf1⟩ := two_at HR.out
  obtain ⟨nb, e0, e1⟩ := frac_end (x := .string rx) (y := .string ry) HR.out HL.out (by omega)
  go_wp2
  refine bodyPost_ret (v := .tuple #[.agg #[.string rx, .string ry], .int .i64 rc]) (by simp [results, Tryz.results216, go_sem, e0, e1]) rfl ⟨rfl, nb⟩

set_option maxHeartbeats 4000000 in
set_option maxRecDepth 100000 in
theorem powerQ_np (q : Rat) (n : Int) (w : World) (hq : fits q = true) (hneg : n < 0) (hs : neg q = false) (hq0 : n < 0 → q ≠ 0) (hn0 : -1000000 ≤ n) (hn1 : n ≤ 1000000) (hl1 : (digs LB (up q ^ n.natAbs)).length ≤ 34) (hl2 : (digs LB (q.den ^ n.natAbs)).length ≤ 34) (ht : Tab w) :
    Calls Tryz.prog 216 #[fracV q, .int .i64 n] w fun e w' => e = .returned (wroteV (powR q n)) ∧ Below w.heap.size w w' := by
  have T := Lib.hid (fun W => read_s q W hq)
  have P1 := Lib.hid (fun W v h => power_s v (up q) n W h hn0 hn1 hl1)
  have P2 := Lib.hid (fun W v h => power_s v q.den n W h hn0 hn1 hl2)
  have TW := Lib.hid (fun W v1 v2 h1 h2 g => numWrite_any (neg q && decide (n.natAbs % 2 = 1)) v1 v2 (q.den ^ n.natAbs) (up q ^ n.natAbs) W (Nat.pos_iff_ne_zero.1 (Nat.pow_pos (Nat.pos_of_ne_zero (fun e => hq0 hneg ((up_zero q).1 e))))) h1 h2 g (by omega) (by omega))
  rw [ratOf_pow_inv q n.natAbs (hq0 hneg), ← powR_neg q n hneg] at TW
  rw [hs] at T TW
  have hodd := odd_abs n
  have Z := Lib.hid (fun W v h => zero_any v (up q) W h)
  rw [decide_eq_false (fun e => hq0 hneg ((up_zero q).1 e))] at Z
  obtain ⟨od, hod⟩ : ∃ b, decide (n.natAbs % 2 = 1) = b := ⟨_, rfl⟩
  rw [hod] at hodd TW
  simp only [Bool.false_and] at TW
  have hnot : ∀ (x : Bool) (w : World), (Op.unary .not (.bool x)).run Tryz.prog w = .ok (.bool (!x)) w := fun _ _ => rfl
  obtain ⟨rx, ry, rc, hw⟩ := wroteV_shape (powR q n)
  rw [hw] at TW ⊢
  obtain ⟨u, hu⟩ : ∃ u, up q ^ n.natAbs = u := ⟨_, rfl⟩
  obtain ⟨d, hd⟩ : ∃ d, q.den ^ n.natAbs = d := ⟨_, rfl⟩
  rw [hu] at P1 TW
  rw [hd] at P2 TW
  have d0 : decide (n < 0) = true := decide_eq_true hneg
  clear hw hod hu hd hl1 hl2 hs
  rw [fracV_is q] at T ⊢
  have hb : Below w.heap.size w ((w.alloc (.cells #[.string (numS q), .string (denS q)] 24)).alloc (.cells #[.string { data := #[] }, .string { data := #[] }] 24)) := ((Below.refl _ _).alloc (Nat.le_refl _) _).alloc (by simp) _
  have hr := heap_alloc_new (w.alloc (.cells #[.string (numS q), .string (denS q)] 24)) (.cells #[.string { data := #[] }, .string { data := #[] }] 24)
  rw [World.size_alloc] at hr
  have HR := Lib.hid hr
  have HL := Lib.hid hb
  have HT := Lib.hid (ht.below hb)
  have HT0 := Lib.hid ht
  clear hb hr ht hq
  go_enter Tryz.func216, Tryz.ntmps216
  go_wp2_with fail
  refine (T.out _).mono ?_
  rintro e W1 ⟨A1, L1, C1, A2, L2, C2, rfl, ⟨h1, h2⟩, hb⟩
  have N1 := Lib.hid h1
  have N2 := Lib.hid h2
  clear h1 h2
  replace HR := Lib.hid (keep_block HR.out hb)
  replace HT := Lib.hid (HT.out.below hb)
  replace HL := Lib.hid (HL.out.trans (hb.mono HL.out.size))
  clear hb
  have hb : Below W1.heap.size W1 (W1.alloc (.cells #[.bool false, .slice A1 L1 C1, .slice A2 L2 C2] 47)) := (Below.refl _ _).alloc (Nat.le_refl _) _
  have HX := Lib.hid (heap_alloc_new W1 (.cells #[.bool false, .slice A1 L1 C1, .slice A2 L2 C2] 47))
  have HW1 := Lib.hid HL.out.size
  have HLT := Lib.hid (heap_lt HR.out)
  replace HR := Lib.hid (keep_block HR.out hb)
  replace HT := Lib.hid (HT.out.below hb)
  replace N1 := Lib.hid (N1.out.below hb)
  replace N2 := Lib.hid (N2.out.below hb)
  replace HL := Lib.hid (HL.out.trans (hb.mono HL.out.size))
  clear hb
  obtain ⟨W2, hW2⟩ : ∃ Z, W1.alloc (.cells #[.bool false, .slice A1 L1 C1, .slice A2 L2 C2] 47) = Z := ⟨_, rfl⟩
  rw [hW2] at HX HR HT N1 N2 HL
  have EW2 := Lib.hid hW2
  clear hW2
  obtain ⟨⟨x0, x1, x2⟩, xf0, xf1, xf2⟩ := three_at HX.out
  go_wp2_with fail
  rw [EW2.out]
  refine (Z.out _ _ N1.out).mono ?_
  rintro e W3 ⟨rfl, rfl⟩
  have hne : w.heap.size + 1 ≠ W1.heap.size := Nat.ne_of_lt HLT.out
  have n1 : NatAt ((W3.setCell ⟨W1.heap.size, 1, none⟩ (.slice A2 L2 C2)).setCell ⟨W1.heap.size, 2, none⟩ (.slice A1 L1 C1)) (.slice A1 L1 C1) (up q) := N1.out.same (fun k hk => swap_other W3 W1.heap.size (.slice A2 L2 C2) (.slice A1 L1 C1) hk) (three_nolimb HX.out)
  have n2 : NatAt ((W3.setCell ⟨W1.heap.size, 1, none⟩ (.slice A2 L2 C2)).setCell ⟨W1.heap.size, 2, none⟩ (.slice A1 L1 C1)) (.slice A2 L2 C2) q.den := N2.out.same (fun k hk => swap_other W3 W1.heap.size (.slice A2 L2 C2) (.slice A1 L1 C1) hk) (three_nolimb HX.out)
  have hx2 := swap_at HX.out (.slice A2 L2 C2) (.slice A1 L1 C1)
  have hr2 := (swap_other W3 W1.heap.size (.slice A2 L2 C2) (.slice A1 L1 C1) hne).trans HR.out
  have hl2 := swap_below HL.out HW1.out (.slice A2 L2 C2) (.slice A1 L1 C1)
  obtain ⟨W4, hW4⟩ : ∃ Z, (W3.setCell ⟨W1.heap.size, 1, none⟩ (.slice A2 L2 C2)).setCell ⟨W1.heap.size, 2, none⟩ (.slice A1 L1 C1) = Z := ⟨_, rfl⟩
  rw [hW4] at n1 n2 hx2 hr2 hl2
  replace N1 := Lib.hid n1
  replace N2 := Lib.hid n2
  have HX2 := Lib.hid hx2
  replace HR := Lib.hid hr2
  replace HL := Lib.hid hl2
  replace HT := Lib.hid (HT0.out.below hl2)
  have EW4 := Lib.hid hW4
  clear n1 n2 hx2 hr2 hl2 hW4
  go_wp2_with fail
  rw [EW4.out]
  refine (P2.out _ _ N2.out).mono ?_
  rintro e W5 ⟨A3, L3, C3, rfl, h3, hb⟩
  have N3 := Lib.hid h3
  clear h3 x0 x1 x2 xf0 xf1 xf2
  replace HR := Lib.hid (keep_block HR.out hb)
  replace HX2 := Lib.hid (keep_block HX2.out hb)
  replace HT := Lib.hid (HT.out.below hb)
  replace N1 := Lib.hid (N1.out.below hb)
  replace HL := Lib.hid (HL.out.trans (hb.mono HL.out.size))
  clear hb
  obtain ⟨⟨x0, x1, x2⟩, xf0, xf1, xf2⟩ := three_at HX2.out
  go_wp2_with fail
  refine (P1.out _ _ N1.out).mono ?_
  rintro e W6 ⟨A4, L4, C4, rfl, h4, hb⟩
  have N4 := Lib.hid h4
  clear h4 x0 x1 x2 xf0 xf1 xf2
  replace HR := Lib.hid (keep_block HR.out hb)
  replace HX2 := Lib.hid (keep_block HX2.out hb)
  replace HT := Lib.hid (HT.out.below hb)
  replace N3 := Lib.hid (N3.out.below hb)
  replace HL := Lib.hid (HL.out.trans (hb.mono HL.out.size))
  clear hb
  obtain ⟨⟨x0, x1, x2⟩, xf0, xf1, xf2⟩ := three_at HX2.out
  go_wp2_with fail
  refine (TW.out _ _ _ N3.out N4.out HT.out).mono ?_
  rintro e W7 ⟨rfl, hb⟩
  replace HR := Lib.hid (keep_block HR.out hb)
  replace HL := Lib.hid (HL.out.trans (hb.mono HL.out.size))
  clear hb
  obtain ⟨⟨r0, r1⟩, rf0, rf1⟩ := two_at HR.out
  obtain ⟨nb, e0, e1⟩ := frac_end (x := .string rx) (y := .string ry) HR.out HL.out (by omega)
  go_wp2
  refine bodyPost_ret (v := .tuple #[.agg #[.string rx, .string ry], .int .i64 rc]) (by simp [results, Tryz.results216, go_sem, e0, e1]) rfl ⟨rfl, nb⟩

set_option maxHeartbeats 4000000 in
set_option maxRecDepth 100000 in
theorem powerQ_nm (q : Rat) (n : Int) (w : World) (hq : fits q = true) (hneg : n < 0) (hs : neg q = true) (hq0 : n < 0 → q ≠ 0) (hn0 : -1000000 ≤ n) (hn1 : n ≤ 1000000) (hl1 : (digs LB (up q ^ n.natAbs)).length ≤ 34) (hl2 : (digs LB (q.den ^ n.natAbs)).length ≤ 34) (ht : Tab w) :
    Calls Tryz.prog 216 #[fracV q, .int .i64 n] w fun e w' => e = .returned (wroteV (powR q n)) ∧ Below w.heap.size w w' := by
  have T := Lib.hid (fun W => read_s q W hq)
  have P1 := Lib.hid (fun W v h => power_s v (up q) n W h hn0 hn1 hl1)
  have P2 := Lib.hid (fun W v h => power_s v q.den n W h hn0 hn1 hl2)
  have TW := Lib.hid (fun W v1 v2 h1 h2 g => numWrite_any (neg q && decide (n.natAbs % 2 = 1)) v1 v2 (q.den ^ n.natAbs) (up q ^ n.natAbs) W (Nat.pos_iff_ne_zero.1 (Nat.pow_pos (Nat.pos_of_ne_zero (fun e => hq0 hneg ((up_zero q).1 e))))) h1 h2 g (by omega) (by omega))
  rw [ratOf_pow_inv q n.natAbs (hq0 hneg), ← powR_neg q n hneg] at TW
  rw [hs] at T TW
  have hodd := odd_abs n
  have Z := Lib.hid (fun W v h => zero_any v (up q) W h)
  rw [decide_eq_false (fun e => hq0 hneg ((up_zero q).1 e))] at Z
  obtain ⟨od, hod⟩ : ∃ b, decide (n.natAbs % 2 = 1) = b := ⟨_, rfl⟩
  rw [hod] at hodd TW
  simp only [Bool.true_and] at TW
  have hnot : ∀ (x : Bool) (w : World), (Op.unary .not (.bool x)).run Tryz.prog w = .ok (.bool (!x)) w := fun _ _ => rfl
  obtain ⟨rx, ry, rc, hw⟩ := wroteV_shape (powR q n)
  rw [hw] at TW ⊢
  obtain ⟨u, hu⟩ : ∃ u, up q ^ n.natAbs = u := ⟨_, rfl⟩
  obtain ⟨d, hd⟩ : ∃ d, q.den ^ n.natAbs = d := ⟨_, rfl⟩
  rw [hu] at P1 TW
  rw [hd] at P2 TW
  have d0 : decide (n < 0) = true := decide_eq_true hneg
  clear hw hod hu hd hl1 hl2 hs
  rw [fracV_is q] at T ⊢
  have hb : Below w.heap.size w ((w.alloc (.cells #[.string (numS q), .string (denS q)] 24)).alloc (.cells #[.string { data := #[] }, .string { data := #[] }] 24)) := ((Below.refl _ _).alloc (Nat.le_refl _) _).alloc (by simp) _
  have hr := heap_alloc_new (w.alloc (.cells #[.string (numS q), .string (denS q)] 24)) (.cells #[.string { data := #[] }, .string { data := #[] }] 24)
  rw [World.size_alloc] at hr
  have HR := Lib.hid hr
  have HL := Lib.hid hb
  have HT := Lib.hid (ht.below hb)
  have HT0 := Lib.hid ht
  clear hb hr ht hq
  go_enter Tryz.func216, Tryz.ntmps216
  go_wp2_with fail
  refine (T.out _).mono ?_
  rintro e W1 ⟨A1, L1, C1, A2, L2, C2, rfl, ⟨h1, h2⟩, hb⟩
  have N1 := Lib.hid h1
  have N2 := Lib.hid h2
  clear h1 h2
  replace HR := Lib.hid (keep_block HR.out hb)
  replace HT := Lib.hid (HT.out.below hb)
  replace HL := Lib.hid (HL.out.trans (hb.mono HL.out.size))
  clear hb
  have hb : Below W1.heap.size W1 (W1.alloc (.cells #[.bool true, .slice A1 L1 C1, .slice A2 L2 C2] 47)) := (Below.refl _ _).alloc (Nat.le_refl _) _
  have HX := Lib.hid (heap_alloc_new W1 (.cells #[.bool true, .slice A1 L1 C1, .slice A2 L2 C2] 47))
  have HW1 := Lib.hid HL.out.size
  have HLT := Lib.hid (heap_lt HR.out)
  replace HR := Lib.hid (keep_block HR.out hb)
  replace HT := Lib.hid (HT.out.below hb)
  replace N1 := Lib.hid (N1.out.below hb)
  replace N2 := Lib.hid (N2.out.below hb)
  replace HL := Lib.hid (HL.out.trans (hb.mono HL.out.size))
  clear hb
  obtain ⟨W2, hW2⟩ : ∃ Z, W1.alloc (.cells #[.bool true, .slice A1 L1 C1, .slice A2 L2 C2] 47) = Z := ⟨_, rfl⟩
  rw [hW2] at HX HR HT N1 N2 HL
  have EW2 := Lib.hid hW2
  clear hW2
  obtain ⟨⟨x0, x1, x2⟩, xf0, xf1, xf2⟩ := three_at HX.out
  go_wp2_with fail
  rw [EW2.out]
  refine (Z.out _ _ N1.out).mono ?_
  rintro e W3 ⟨rfl, rfl⟩
  have hne : w.heap.size + 1 ≠ W1.heap.size := Nat.ne_of_lt HLT.out
  have n1 : NatAt ((W3.setCell ⟨W1.heap.size, 1, none⟩ (.slice A2 L2 C2)).setCell ⟨W1.heap.size, 2, none⟩ (.slice A1 L1 C1)) (.slice A1 L1 C1) (up q) := N1.out.same (fun k hk => swap_other W3 W1.heap.size (.slice A2 L2 C2) (.slice A1 L1 C1) hk) (three_nolimb HX.out)
  have n2 : NatAt ((W3.setCell ⟨W1.heap.size, 1, none⟩ (.slice A2 L2 C2)).setCell ⟨W1.heap.size, 2, none⟩ (.slice A1 L1 C1)) (.slice A2 L2 C2) q.den := N2.out.same (fun k hk => swap_other W3 W1.heap.size (.slice A2 L2 C2) (.slice A1 L1 C1) hk) (three_nolimb HX.out)
  have hx2 := swap_at HX.out (.slice A2 L2 C2) (.slice A1 L1 C1)
  have hr2 := (swap_other W3 W1.heap.size (.slice A2 L2 C2) (.slice A1 L1 C1) hne).trans HR.out
  have hl2 := swap_below HL.out HW1.out (.slice A2 L2 C2) (.slice A1 L1 C1)
  obtain ⟨W4, hW4⟩ : ∃ Z, (W3.setCell ⟨W1.heap.size, 1, none⟩ (.slice A2 L2 C2)).setCell ⟨W1.heap.size, 2, none⟩ (.slice A1 L1 C1) = Z := ⟨_, rfl⟩
  rw [hW4] at n1 n2 hx2 hr2 hl2
  replace N1 := Lib.hid n1
  replace N2 := Lib.hid n2
  have HX2 := Lib.hid hx2
  replace HR := Lib.hid hr2
  replace HL := Lib.hid hl2
  replace HT := Lib.hid (HT0.out.below hl2)
  have EW4 := Lib.hid hW4
  clear n1 n2 hx2 hr2 hl2 hW4
  go_wp2_with fail
  rw [EW4.out]
  refine (P2.out _ _ N2.out).mono ?_
  rintro e W5 ⟨A3, L3, C3, rfl, h3, hb⟩
  have N3 := Lib.hid h3
  clear h3 x0 x1 x2 xf0 xf1 xf2
  replace HR := Lib.hid (keep_block HR.out hb)
  replace HX2 := Lib.hid (keep_block HX2.out hb)
  replace HT := Lib.hid (HT.out.below hb)
  replace N1 := Lib.hid (N1.out.below hb)
  replace HL := Lib.hid (HL.out.trans (hb.mono HL.out.size))
  clear hb
  obtain ⟨⟨x0, x1, x2⟩, xf0, xf1, xf2⟩ := three_at HX2.out
  go_wp2_with fail
  refine (P1.out _ _ N1.out).mono ?_
  rintro e W6 ⟨A4, L4, C4, rfl, h4, hb⟩
  have N4 := Lib.hid h4
  clear h4 x0 x1 x2 xf0 xf1 xf2
  replace HR := Lib.hid (keep_block HR.out hb)
  replace HX2 := Lib.hid (keep_block HX2.out hb)
  replace HT := Lib.hid (HT.out.below hb)
  replace N3 := Lib.hid (N3.out.below hb)
  replace HL := Lib.hid (HL.out.trans (hb.mono HL.out.size))
  clear hb
  obtain ⟨⟨x0, x1, x2⟩, xf0, xf1, xf2⟩ := three_at HX2.out
  go_wp2_with fail
  refine (TW.out _ _ _ N3.out N4.out HT.out).mono ?_
  rintro e W7 ⟨rfl, hb⟩
  replace HR := Lib.hid (keep_block HR.out hb)
  replace HL := Lib.hid (HL.out.trans (hb.mono HL.out.size))
  clear hb
  obtain ⟨⟨r0, r1⟩, rf0, rf1⟩ := two_at HR.out
  obtain ⟨nb, e0, e1⟩ := frac_end (x := .string rx) (y := .string ry) HR.out HL.out (by omega)
  go_wp2
  refine bodyPost_ret (v := .tuple #[.agg #[.string rx, .string ry], .int .i64 rc]) (by simp [results, Tryz.results216, go_sem, e0, e1]) rfl ⟨rfl, nb⟩

theorem powerQ_any (q : Rat) (n : Int) (w : World) (hq : fits q = true) (hq0 : n < 0 → q ≠ 0) (hn0 : -1000000 ≤ n) (hn1 : n ≤ 1000000) (hl1 : (digs LB (up q ^ n.natAbs)).length ≤ 34) (hl2 : (digs LB (q.den ^ n.natAbs)).length ≤ 34) (ht : Tab w) :
    Calls Tryz.prog 216 #[fracV q, .int .i64 n] w fun e w' => e = .returned (wroteV (powR q n)) ∧ Below w.heap.size w w' := by
  by_cases hneg : n < 0
  · cases hs : neg q with
    | true => exact powerQ_nm q n w hq hneg hs hq0 hn0 hn1 hl1 hl2 ht
    | false => exact powerQ_np q n w hq hneg hs hq0 hn0 hn1 hl1 hl2 ht
  · cases hs : neg q with
    | true => exact powerQ_pm q n w hq hneg hs hn0 hn1 hl1 hl2 ht
    | false => exact powerQ_pp q n w hq hneg hs hn0 hn1 hl1 hl2 ht
/-- bounds in digits are bounds in limbs -/
theorem limbs34 {n : Nat} (h : n < 10 ^ 300) : (digs LB n).length ≤ 34 := digs_len_le LB_two (Nat.lt_of_lt_of_le h (by decide +kernel))
end Go.Proofs.YtkbhlkinlcmgoaaGreatDoor.Num

/- package exact's rounding. Conditions: the fraction is valid, at most 100 places; strconv's table of powers of ten lies as it is laid. -/
namespace Go.Proofs.YtkbhlkinlcmgoaaGreatDoor.Num
open Go.RowKit Go.Lib

theorem ten_s (n : Nat) (w : World) (hn : n ≤ 1000000) :
    Calls Tryz.prog 47 #[.int .i64 (n : Int)] w fun e w' => ∃ A L C, e = .returned (.slice A L C) ∧ NatAt w' (.slice A L C) (10 ^ n) ∧ Below w.heap.size w w' := calls_shaped (ten_any n w hn)
theorem ten_limbs {n : Nat} (h : n ≤ 100) : (digs LB (10 ^ n)).length ≤ 12 := digs_len_le LB_two (Nat.lt_of_le_of_lt (Nat.pow_le_pow_right (by decide) h) (by decide +kernel))
theorem cells3 {W : World} {p : Nat} {x y z : Value} {T : TypeId} (h : W.heap[p]? = some (.cells #[x, y, z] T (0, 0))) : W.cell? ⟨p, 0, none⟩ = some x ∧ W.cell? ⟨p, 1, none⟩ = some y ∧ W.cell? ⟨p, 2, none⟩ = some z := ⟨Lib.cell_of_heap h 0, Lib.cell_of_heap h 1, Lib.cell_of_heap h 2⟩
theorem put3_below {B G : Nat} (h : B ≤ G) (W : World) (x y z : Value) : Below B W (((W.setCell ⟨G, 0, none⟩ x).setCell ⟨G, 1, none⟩ y).setCell ⟨G, 2, none⟩ z) :=
  (((Below.refl _ _).setCell (p := ⟨G, 0, none⟩) h x).setCell (p := ⟨G, 1, none⟩) h y).setCell (p := ⟨G, 2, none⟩) h z
/-- a number's limbs stay where no limb's block is written -/
theorem NatAt.same {W W' : World} {A : Option Addr} {L C g n : Nat} (h : NatAt W (.slice A L C) n) (hn : ∀ k, k ≠ g → W'.heap[k]? = W.heap[k]?) (hg : ∀ i v, W.cell? ⟨g, i, none⟩ = some (.int .u32 v) → False) : NatAt W' (.slice A L C) n := LimbsAt.same h hn hg
set_option maxHeartbeats 8000000 in
set_option maxRecDepth 100000 in
theorem scaled_p (m : Bool) (A1 A2 : Option Addr) (L1 C1 L2 C2 : Nat) (a b : Nat) (p : Int) (w : World) (h1 : NatAt w (.slice A1 L1 C1) a) (h2 : NatAt w (.slice A2 L2 C2) b) (hp : ¬ p < 0) (hp1 : p.natAbs ≤ 100) (hl1 : (digs LB a).length ≤ 10000) :
    Calls Tryz.prog 29 #[.agg #[.bool m, .slice A1 L1 C1, .slice A2 L2 C2], .int .i64 p] w fun e w' => ∃ B1 M1 D1 B2 M2 D2, e = .returned (.agg #[.bool m, .slice B1 M1 D1, .slice B2 M2 D2]) ∧ NatAt w' (.slice B1 M1 D1) (a * tenUp p) ∧ NatAt w' (.slice B2 M2 D2) (b * tenDn p) ∧ Below w.heap.size w w' := by
  have d0 : decide (p < 0) = false := decide_eq_false hp
  obtain ⟨k, hk⟩ : ∃ k : Nat, p.toNat = k := ⟨_, rfl⟩
  have hk100 : k ≤ 100 := by omega
  have hwr : IntKind.i64.wrap (-p) = -p := IntWalk.i64_in _ (by omega)
  have TTen := Lib.hid (fun W => ten_s k W (by omega))
  rw [show (k : Int) = p by omega] at TTen
  have TMul := Lib.hid (fun W v2 g1 g2 => calls_shaped (times_any (.slice A1 L1 C1) v2 a (10 ^ k) W g1 g2 (by omega) (by have := ten_limbs hk100; omega)))
  have HVa := Lib.hid (show a * tenUp p = a * 10 ^ k from by unfold tenUp; rw [hk])
  have HVb := Lib.hid (show b * tenDn p = b from by unfold tenDn; rw [show (-p).toNat = 0 by omega]; simp)
  have hb : Below w.heap.size w ((w.alloc (.cells #[.bool m, .slice A1 L1 C1, .slice A2 L2 C2] 47)).alloc (.cells #[.bool false, .slice none 0 0, .slice none 0 0] 47)) := ((Below.refl _ _).alloc (Nat.le_refl _) _).alloc (by simp) _
  obtain ⟨hx, hr, _⟩ := two_new w (.cells #[.bool m, .slice A1 L1 C1, .slice A2 L2 C2] 47) (.cells #[.bool false, .slice none 0 0, .slice none 0 0] 47)
  have HX := Lib.hid (drew_block hx)
  have HR := Lib.hid (drew_block hr)
  have HL := Lib.hid hb.drew
  have N1 := Lib.hid (h1.below hb.drew)
  have N2 := Lib.hid (h2.below hb.drew)
  obtain ⟨W0, hW0⟩ : ∃ Z, (w.alloc (.cells #[.bool m, .slice A1 L1 C1, .slice A2 L2 C2] 47)).alloc (.cells #[.bool false, .slice none 0 0, .slice none 0 0] 47) = Z := ⟨_, rfl⟩
  rw [hW0] at HX HR HL N1 N2
  have EW0 := Lib.hid hW0
  clear hb hx hr h1 h2 hl1 hW0 hp hp1
  obtain ⟨⟨x0, x1, x2⟩, xf0, xf1, xf2⟩ := three_at HX.out
  go_enter Tryz.func29, Tryz.ntmps29
  go_wp2_with fail
  rw [EW0.out]
  go_region_with ((first | (go_at_call 47; (with_reducible refine (TTen.out _).mono ?_); rintro e V1 ⟨A3, L3, C3, rfl, h3, hb⟩; have N3 := Lib.hid h3; clear h3; replace N1 := Lib.hid (N1.out.below hb); replace N2 := Lib.hid (N2.out.below hb); replace HX := Lib.hid (keep_block HX.out hb); replace HR := Lib.hid (keep_block HR.out hb); replace HL := Lib.hid (HL.out.trans (hb.mono HL.out.size)); clear hb x0 x1 x2 xf0 xf1 xf2; obtain ⟨⟨x0, x1, x2⟩, xf0, xf1, xf2⟩ := three_at HX.out) | (go_at_call 27; (with_reducible refine (TMul.out _ _ N1.out N3.out).mono ?_); rintro e V2 ⟨A4, L4, C4, rfl, h4, hb⟩; have N4 := Lib.hid h4; clear h4; replace N1 := Lib.hid (N1.out.below hb); replace N2 := Lib.hid (N2.out.below hb); replace HX := Lib.hid (keep_block HX.out hb); replace HR := Lib.hid (keep_block HR.out hb); replace HL := Lib.hid (HL.out.trans (hb.mono HL.out.size)); clear hb x0 x1 x2 xf0 xf1 xf2; obtain ⟨⟨x0, x1, x2⟩, xf0, xf1, xf2⟩ := three_at HX.out)))
  all_goals
    have HX2 := Lib.hid (heap_setCell_at HX.out 1 (.slice A4 L4 C4))
    have hne : w.heap.size + 1 ≠ w.heap.size := by omega
    have HR2 := Lib.hid ((Below.heap_setCell V2 ⟨w.heap.size, 1, none⟩ (.slice A4 L4 C4) (w.heap.size + 1) hne).trans HR.out)
    have HL2 := Lib.hid (HL.out.setCell (p := ⟨w.heap.size, 1, none⟩) (Nat.le_refl _) (.slice A4 L4 C4))
    have M4 := Lib.hid (N4.out.same (fun k hk => Below.heap_setCell V2 ⟨w.heap.size, 1, none⟩ (.slice A4 L4 C4) k hk) (three_nolimb HX.out))
    have M1 := Lib.hid (N2.out.same (fun k hk => Below.heap_setCell V2 ⟨w.heap.size, 1, none⟩ (.slice A4 L4 C4) k hk) (three_nolimb HX.out))
    obtain ⟨V3, hV3⟩ : ∃ Z, V2.setCell ⟨w.heap.size, 1, none⟩ (.slice A4 L4 C4) = Z := ⟨_, rfl⟩
    rw [hV3] at HX2 HR2 HL2 M4 M1
    rw [hV3]
    clear x0 x1 x2 xf0 xf1 xf2 hV3
    obtain ⟨⟨x0, x1, x2⟩, xf0, xf1, xf2⟩ := three_at HX2.out
    obtain ⟨⟨r0, r1, r2⟩, rf0, rf1, rf2⟩ := three_at HR2.out
    have hF := set3_at HR2.out (.bool m) (.slice A4 L4 C4) (.slice A2 L2 C2)
    obtain ⟨⟨e0, e1, e2⟩, _⟩ := three_at hF
    have HL3 := Lib.hid (HL2.out.trans (put3_below (Nat.le_succ _) V3 (.bool m) (.slice A4 L4 C4) (.slice A2 L2 C2)))
    have K4 := Lib.hid (M4.out.same (fun k hk => set3_other V3 (w.heap.size + 1) (.bool m) (.slice A4 L4 C4) (.slice A2 L2 C2) hk) (three_nolimb HR2.out))
    have K1 := Lib.hid (M1.out.same (fun k hk => set3_other V3 (w.heap.size + 1) (.bool m) (.slice A4 L4 C4) (.slice A2 L2 C2) hk) (three_nolimb HR2.out))
    clear hF
    go_wp2
    refine bodyPost_ret (v := .agg #[.bool m, .slice A4 L4 C4, .slice A2 L2 C2]) (by simp [results, Tryz.results29, go_sem, e0, e1, e2]) rfl ⟨_, _, _, _, _, _, rfl, by rw [HVa.out]; exact K4.out, by rw [HVb.out]; exact K1.out, HL3.out⟩

set_option maxHeartbeats 8000000 in
set_option maxRecDepth 100000 in
theorem scaled_n (m : Bool) (A1 A2 : Option Addr) (L1 C1 L2 C2 : Nat) (a b : Nat) (p : Int) (w : World) (h1 : NatAt w (.slice A1 L1 C1) a) (h2 : NatAt w (.slice A2 L2 C2) b) (hp : p < 0) (hp1 : p.natAbs ≤ 100) (hl1 : (digs LB b).length ≤ 10000) :
    Calls Tryz.prog 29 #[.agg #[.bool m, .slice A1 L1 C1, .slice A2 L2 C2], .int .i64 p] w fun e w' => ∃ B1 M1 D1 B2 M2 D2, e = .returned (.agg #[.bool m, .slice B1 M1 D1, .slice B2 M2 D2]) ∧ NatAt w' (.slice B1 M1 D1) (a * tenUp p) ∧ NatAt w' (.slice B2 M2 D2) (b * tenDn p) ∧ Below w.heap.size w w' := by
  have d0 : decide (p < 0) = true := decide_eq_true hp
  obtain ⟨k, hk⟩ : ∃ k : Nat, (-p).toNat = k := ⟨_, rfl⟩
  have hk100 : k ≤ 100 := by omega
  have hwr : IntKind.i64.wrap (-p) = -p := IntWalk.i64_in _ (by omega)
  have TTen := Lib.hid (fun W => ten_s k W (by omega))
  rw [show (k : Int) = -p by omega] at TTen
  have TMul := Lib.hid (fun W v2 g1 g2 => calls_shaped (times_any (.slice A2 L2 C2) v2 b (10 ^ k) W g1 g2 (by omega) (by have := ten_limbs hk100; omega)))
  have HVa := Lib.hid (show a * tenUp p = a from by unfold tenUp; rw [show p.toNat = 0 by omega]; simp)
  have HVb := Lib.hid (show b * tenDn p = b * 10 ^ k from by unfold tenDn; rw [hk])
  have hb : Below w.heap.size w ((w.alloc (.cells #[.bool m, .slice A1 L1 C1, .slice A2 L2 C2] 47)).alloc (.cells #[.bool false, .slice none 0 0, .slice none 0 0] 47)) := ((Below.refl _ _).alloc (Nat.le_refl _) _).alloc (by simp) _
  obtain ⟨hx, hr, _⟩ := two_new w (.cells #[.bool m, .slice A1 L1 C1, .slice A2 L2 C2] 47) (.cells #[.bool false, .slice none 0 0, .slice none 0 0] 47)
  have HX := Lib.hid (drew_block hx)
  have HR := Lib.hid (drew_block hr)
  have HL := Lib.hid hb.drew
  have N1 := Lib.hid (h1.below hb.drew)
  have N2 := Lib.hid (h2.below hb.drew)
  obtain ⟨W0, hW0⟩ : ∃ Z, (w.alloc (.cells #[.bool m, .slice A1 L1 C1, .slice A2 L2 C2] 47)).alloc (.cells #[.bool false, .slice none 0 0, .slice none 0 0] 47) = Z := ⟨_, rfl⟩
  rw [hW0] at HX HR HL N1 N2
  have EW0 := Lib.hid hW0
  clear hb hx hr h1 h2 hl1 hW0 hp hp1
  obtain ⟨⟨x0, x1, x2⟩, xf0, xf1, xf2⟩ := three_at HX.out
  go_enter Tryz.func29, Tryz.ntmps29
  go_wp2_with fail
  rw [EW0.out]
  go_region_with ((first | (go_at_call 47; (with_reducible refine (TTen.out _).mono ?_); rintro e V1 ⟨A3, L3, C3, rfl, h3, hb⟩; have N3 := Lib.hid h3; clear h3; replace N1 := Lib.hid (N1.out.below hb); replace N2 := Lib.hid (N2.out.below hb); replace HX := Lib.hid (keep_block HX.out hb); replace HR := Lib.hid (keep_block HR.out hb); replace HL := Lib.hid (HL.out.trans (hb.mono HL.out.size)); clear hb x0 x1 x2 xf0 xf1 xf2; obtain ⟨⟨x0, x1, x2⟩, xf0, xf1, xf2⟩ := three_at HX.out) | (go_at_call 27; (with_reducible refine (TMul.out _ _ N2.out N3.out).mono ?_); rintro e V2 ⟨A4, L4, C4, rfl, h4, hb⟩; have N4 := Lib.hid h4; clear h4; replace N1 := Lib.hid (N1.out.below hb); replace N2 := Lib.hid (N2.out.below hb); replace HX := Lib.hid (keep_block HX.out hb); replace HR := Lib.hid (keep_block HR.out hb); replace HL := Lib.hid (HL.out.trans (hb.mono HL.out.size)); clear hb x0 x1 x2 xf0 xf1 xf2; obtain ⟨⟨x0, x1, x2⟩, xf0, xf1, xf2⟩ := three_at HX.out)))
  all_goals
    have HX2 := Lib.hid (heap_setCell_at HX.out 2 (.slice A4 L4 C4))
    have hne : w.heap.size + 1 ≠ w.heap.size := by omega
    have HR2 := Lib.hid ((Below.heap_setCell V2 ⟨w.heap.size, 2, none⟩ (.slice A4 L4 C4) (w.heap.size + 1) hne).trans HR.out)
    have HL2 := Lib.hid (HL.out.setCell (p := ⟨w.heap.size, 2, none⟩) (Nat.le_refl _) (.slice A4 L4 C4))
    have M4 := Lib.hid (N4.out.same (fun k hk => Below.heap_setCell V2 ⟨w.heap.size, 2, none⟩ (.slice A4 L4 C4) k hk) (three_nolimb HX.out))
    have M1 := Lib.hid (N1.out.same (fun k hk => Below.heap_setCell V2 ⟨w.heap.size, 2, none⟩ (.slice A4 L4 C4) k hk) (three_nolimb HX.out))
    obtain ⟨V3, hV3⟩ : ∃ Z, V2.setCell ⟨w.heap.size, 2, none⟩ (.slice A4 L4 C4) = Z := ⟨_, rfl⟩
    rw [hV3] at HX2 HR2 HL2 M4 M1
    rw [hV3]
    clear x0 x1 x2 xf0 xf1 xf2 hV3
    obtain ⟨⟨x0, x1, x2⟩, xf0, xf1, xf2⟩ := three_at HX2.out
    obtain ⟨⟨r0, r1, r2⟩, rf0, rf1, rf2⟩ := three_at HR2.out
    have hF := set3_at HR2.out (.bool m) (.slice A1 L1 C1) (.slice A4 L4 C4)
    obtain ⟨⟨e0, e1, e2⟩, _⟩ := three_at hF
    have HL3 := Lib.hid (HL2.out.trans (put3_below (Nat.le_succ _) V3 (.bool m) (.slice A1 L1 C1) (.slice A4 L4 C4)))
    have K4 := Lib.hid (M4.out.same (fun k hk => set3_other V3 (w.heap.size + 1) (.bool m) (.slice A1 L1 C1) (.slice A4 L4 C4) hk) (three_nolimb HR2.out))
    have K1 := Lib.hid (M1.out.same (fun k hk => set3_other V3 (w.heap.size + 1) (.bool m) (.slice A1 L1 C1) (.slice A4 L4 C4) hk) (three_nolimb HR2.out))
    clear hF
    go_wp2
    refine bodyPost_ret (v := .agg #[.bool m, .slice A1 L1 C1, .slice A4 L4 C4]) (by simp [results, Tryz.results29, go_sem, e0, e1, e2]) rfl ⟨_, _, _, _, _, _, rfl, by rw [HVa.out]; exact K1.out, by rw [HVb.out]; exact K4.out, HL3.out⟩

theorem scaled_any (m : Bool) (A1 A2 : Option Addr) (L1 C1 L2 C2 : Nat) (a b : Nat) (p : Int) (w : World) (h1 : NatAt w (.slice A1 L1 C1) a) (h2 : NatAt w (.slice A2 L2 C2) b) (hp1 : p.natAbs ≤ 100) (hl1 : (digs LB a).length ≤ 10000) (hl2 : (digs LB b).length ≤ 10000) :
    Calls Tryz.prog 29 #[.agg #[.bool m, .slice A1 L1 C1, .slice A2 L2 C2], .int .i64 p] w fun e w' => ∃ B1 M1 D1 B2 M2 D2, e = .returned (.agg #[.bool m, .slice B1 M1 D1, .slice B2 M2 D2]) ∧ NatAt w' (.slice B1 M1 D1) (a * tenUp p) ∧ NatAt w' (.slice B2 M2 D2) (b * tenDn p) ∧ Below w.heap.size w w' := by
  by_cases hp : p < 0
  · exact scaled_n m A1 A2 L1 C1 L2 C2 a b p w h1 h2 hp hp1 hl2
  · exact scaled_p m A1 A2 L1 C1 L2 C2 a b p w h1 h2 hp hp1 hl1

set_option maxHeartbeats 8000000 in
set_option maxRecDepth 100000 in
theorem rounded_any (m : Bool) (A1 A2 : Option Addr) (L1 C1 L2 C2 : Nat) (a b : Nat) (w : World) (h1 : NatAt w (.slice A1 L1 C1) a) (h2 : NatAt w (.slice A2 L2 C2) b) (hb0 : b ≠ 0) (hl1 : (digs LB a).length ≤ 10000) (hl2 : (digs LB b).length ≤ 10000) :
    Calls Tryz.prog 30 #[.agg #[.bool m, .slice A1 L1 C1, .slice A2 L2 C2]] w fun e w' => ∃ B1 M1 D1 B2 M2 D2, e = .returned (.agg #[.bool m, .slice B1 M1 D1, .slice B2 M2 D2]) ∧ NatAt w' (.slice B1 M1 D1) (roundNum a b) ∧ NatAt w' (.slice B2 M2 D2) 1 ∧ Below w.heap.size w w' := by
  have l1 := digs_len_add hl1 hl1
  have l2 := digs_len_add (k := 10001) l1 (by omega : (digs LB b).length ≤ 10001)
  have l3 := digs_len_add hl2 hl2
  have TP1 := Lib.hid (fun W g => calls_shaped (plus_any (.slice A1 L1 C1) (.slice A1 L1 C1) a a W g g (by omega) (by omega)))
  have TP2 := Lib.hid (fun W v g1 g2 => calls_shaped (plus_any v (.slice A2 L2 C2) (a + a) b W g1 g2 (by omega) (by omega)))
  have TP3 := Lib.hid (fun W g => calls_shaped (plus_any (.slice A2 L2 C2) (.slice A2 L2 C2) b b W g g (by omega) (by omega)))
  have TD := Lib.hid (fun W v1 v2 g1 g2 => divide_any v1 v2 (a + a + b) (b + b) W g1 g2 (by omega) (by omega) (by omega))
  rw [show (a + a + b) / (b + b) = roundNum a b from rfl] at TD
  have hb : Below w.heap.size w ((w.alloc (.cells #[.bool m, .slice A1 L1 C1, .slice A2 L2 C2] 47)).alloc (.cells #[.bool false, .slice none 0 0, .slice none 0 0] 47)) := ((Below.refl _ _).alloc (Nat.le_refl _) _).alloc (by simp) _
  obtain ⟨hx, hr, _⟩ := two_new w (.cells #[.bool m, .slice A1 L1 C1, .slice A2 L2 C2] 47) (.cells #[.bool false, .slice none 0 0, .slice none 0 0] 47)
  have HX := Lib.hid (drew_block hx)
  have HR := Lib.hid (drew_block hr)
  have HL := Lib.hid hb.drew
  have N1 := Lib.hid (h1.below hb.drew)
  have N2 := Lib.hid (h2.below hb.drew)
  obtain ⟨W0, hW0⟩ : ∃ Z, (w.alloc (.cells #[.bool m, .slice A1 L1 C1, .slice A2 L2 C2] 47)).alloc (.cells #[.bool false, .slice none 0 0, .slice none 0 0] 47) = Z := ⟨_, rfl⟩
  rw [hW0] at HX HR HL N1 N2
  have EW0 := Lib.hid hW0
  clear hb hx hr h1 h2 hl1 hl2 hW0 hb0 l1 l2 l3
  go_enter Tryz.func30, Tryz.ntmps30
  go_wp2_with fail
  rw [EW0.out]
  go_region_held3 (fun Z => Z.cell? ⟨w.heap.size, 0, none⟩ = some (.bool m) ∧ Z.cell? ⟨w.heap.size, 1, none⟩ = some (.slice A1 L1 C1) ∧ Z.cell? ⟨w.heap.size, 2, none⟩ = some (.slice A2 L2 C2))
    (first | (with_reducible exact cells3 HX.out) | fail)
    ((first | (go_at_call 48; (first | ((with_reducible refine (TP1.out _ N1.out).mono ?_); rintro e V1 ⟨A3, L3, C3, rfl, h3, hb⟩; have N3 := Lib.hid h3; clear h3; replace N1 := Lib.hid (N1.out.below hb); replace N2 := Lib.hid (N2.out.below hb); replace HX := Lib.hid (keep_block HX.out hb); replace HR := Lib.hid (keep_block HR.out hb); replace HL := Lib.hid (HL.out.trans (hb.mono HL.out.size)); clear hb) | ((with_reducible refine (TP2.out _ _ N3.out N2.out).mono ?_); rintro e V2 ⟨A4, L4, C4, rfl, h4, hb⟩; have N4 := Lib.hid h4; clear h4; replace N1 := Lib.hid (N1.out.below hb); replace N2 := Lib.hid (N2.out.below hb); replace HX := Lib.hid (keep_block HX.out hb); replace HR := Lib.hid (keep_block HR.out hb); replace HL := Lib.hid (HL.out.trans (hb.mono HL.out.size)); clear hb) | ((with_reducible refine (TP3.out _ N2.out).mono ?_); rintro e V3 ⟨A5, L5, C5, rfl, h5, hb⟩; have N5 := Lib.hid h5; clear h5; replace N4 := Lib.hid (N4.out.below hb); replace N1 := Lib.hid (N1.out.below hb); replace N2 := Lib.hid (N2.out.below hb); replace HX := Lib.hid (keep_block HX.out hb); replace HR := Lib.hid (keep_block HR.out hb); replace HL := Lib.hid (HL.out.trans (hb.mono HL.out.size)); clear hb))) | (go_at_call 38; (with_reducible refine (TD.out _ _ _ N4.out N5.out).mono ?_); rintro e V4 ⟨vq, vr, rfl, h6, h7, hb⟩; obtain ⟨A6, L6, C6, rfl⟩ := h6.shape; obtain ⟨A7, L7, C7, rfl⟩ := h7.shape; have N6 := Lib.hid h6; clear h6 h7; replace N1 := Lib.hid (N1.out.below hb); replace N2 := Lib.hid (N2.out.below hb); replace HX := Lib.hid (keep_block HX.out hb); replace HR := Lib.hid (keep_block HR.out hb); replace HL := Lib.hid (HL.out.trans (hb.mono HL.out.size)); clear hb)))
  obtain ⟨⟨x0, x1, x2⟩, xf0, xf1, xf2⟩ := three_at HX.out
  have hb : Below V4.heap.size V4 (V4.alloc (.cells #[.int .u32 1] 64)) := (Below.refl _ _).alloc (Nat.le_refl _) _
  have N8 := Lib.hid (one_new V4 64)
  replace N6 := Lib.hid (N6.out.below hb)
  replace HX := Lib.hid (keep_block HX.out hb)
  replace HR := Lib.hid (keep_block HR.out hb)
  replace HL := Lib.hid (HL.out.trans (hb.mono HL.out.size))
  clear hb
  obtain ⟨⟨r0, r1, r2⟩, rf0, rf1, rf2⟩ := three_at HR.out
  have hF := set3_at HR.out (.bool m) (.slice A6 L6 C6) (.slice (some ⟨V4.heap.size, 0, none⟩) 1 1)
  obtain ⟨⟨e0, e1, e2⟩, _⟩ := three_at hF
  have HL3 := Lib.hid (HL.out.trans (put3_below (Nat.le_succ _) (V4.alloc (.cells #[.int .u32 1] 64)) (.bool m) (.slice A6 L6 C6) (.slice (some ⟨V4.heap.size, 0, none⟩) 1 1)))
  have K6 := Lib.hid (N6.out.same (fun k hk => set3_other (V4.alloc (.cells #[.int .u32 1] 64)) (w.heap.size + 1) (.bool m) (.slice A6 L6 C6) (.slice (some ⟨V4.heap.size, 0, none⟩) 1 1) hk) (three_nolimb HR.out))
  have K8 := Lib.hid (N8.out.same (fun k hk => set3_other (V4.alloc (.cells #[.int .u32 1] 64)) (w.heap.size + 1) (.bool m) (.slice A6 L6 C6) (.slice (some ⟨V4.heap.size, 0, none⟩) 1 1) hk) (three_nolimb HR.out))
  clear hF
  go_wp2
  refine bodyPost_ret (v := .agg #[.bool m, .slice A6 L6 C6, .slice (some ⟨V4.heap.size, 0, none⟩) 1 1]) (by simp [results, Tryz.results30, go_sem, e0, e1, e2]) rfl ⟨_, _, _, _, _, _, rfl, K6.out, K8.out, HL3.out⟩

set_option maxHeartbeats 8000000 in
set_option maxRecDepth 100000 in
theorem round_any (q : Rat) (p : Int) (w : World) (hq : fits q = true) (hp : p.natAbs ≤ 100) (ht : Tab w) :
    Calls Tryz.prog 14 #[fracV q, .int .i64 p] w fun e w' => e = .returned (wroteV (roundR q p)) ∧ Below w.heap.size w w' := by
  have T := Lib.hid (fun W => read_s q W hq)
  have hl := fits_limbs hq
  have hk1 : p.toNat ≤ 100 := by omega
  have hk2 : (-p).toNat ≤ 100 := by omega
  have t1 : (digs LB (tenUp p)).length ≤ 12 := ten_limbs hk1
  have t2 : (digs LB (tenDn p)).length ≤ 12 := ten_limbs hk2
  have m1 := digs_len_mul hl.1 t1
  have m2 := digs_len_mul hl.2 t2
  have d2 : q.den * tenDn p ≠ 0 := Nat.mul_ne_zero q.den_nz (Nat.pos_iff_ne_zero.1 (tenDn_pos p))
  have m3 : (digs LB (roundNum (up q * tenUp p) (q.den * tenDn p))).length ≤ 400 := by
    have h1 := digs_len_add (k := 312) (by omega : (digs LB (up q * tenUp p)).length ≤ 312) (by omega : (digs LB (up q * tenUp p)).length ≤ 312)
    have h2 := digs_len_add (k := 313) h1 (by omega : (digs LB (q.den * tenDn p)).length ≤ 313)
    have h3 := div_limbs (g := q.den * tenDn p + q.den * tenDn p) h2
    exact Nat.le_trans h3 (by omega)
  have T1 := Lib.hid (fun W A1 L1 C1 A2 L2 C2 g1 g2 => scaled_any (neg q) A1 A2 L1 C1 L2 C2 (up q) q.den p W g1 g2 hp (by omega) (by omega))
  have T2 := Lib.hid (fun W A1 L1 C1 A2 L2 C2 g1 g2 => rounded_any (neg q) A1 A2 L1 C1 L2 C2 (up q * tenUp p) (q.den * tenDn p) W g1 g2 d2 (by omega) (by omega))
  have T3 := Lib.hid (fun W A1 L1 C1 A2 L2 C2 g1 g2 => scaled_any (neg q) A1 A2 L1 C1 L2 C2 (roundNum (up q * tenUp p) (q.den * tenDn p)) 1 (-p) W g1 g2 (by omega) (by omega) (by have := limbs_one; omega))
  rw [show tenUp (-p) = tenDn p from rfl, show tenDn (-p) = tenUp p from by unfold tenDn tenUp; rw [Int.neg_neg]] at T3
  have m4 := digs_len_mul m3 t2
  have m5 := digs_len_mul (show (digs LB 1).length ≤ 1 by have := limbs_one; omega) t1
  have TW := Lib.hid (fun W v1 v2 h1 h2 g => numWrite_any (neg q) v1 v2 (roundNum (up q * tenUp p) (q.den * tenDn p) * tenDn p) (1 * tenUp p) W (by have := tenUp_pos p; omega) h1 h2 g (by omega) (by omega))
  rw [show ratOf (neg q) (roundNum (up q * tenUp p) (q.den * tenDn p) * tenDn p) (1 * tenUp p) = roundR q p from rfl] at TW
  obtain ⟨rx, ry, rc, hw⟩ := wroteV_shape (roundR q p)
  rw [hw] at TW ⊢
  obtain ⟨x1, hx1⟩ : ∃ x, up q * tenUp p = x := ⟨_, rfl⟩
  obtain ⟨x2, hx2⟩ : ∃ x, q.den * tenDn p = x := ⟨_, rfl⟩
  rw [hx1, hx2] at T1 T2 T3 TW
  obtain ⟨x3, hx3⟩ : ∃ x, roundNum x1 x2 = x := ⟨_, rfl⟩
  rw [hx3] at T2 T3 TW
  obtain ⟨x4, hx4⟩ : ∃ x, x3 * tenDn p = x := ⟨_, rfl⟩
  rw [hx4] at T3 TW
  obtain ⟨x5, hx5⟩ : ∃ x, 1 * tenUp p = x := ⟨_, rfl⟩
  rw [hx5] at T3 TW
  have da : decide (p < -100) = false := decide_eq_false (by omega)
  have db : decide (100 < p) = false := decide_eq_false (by omega)
  have hwr : IntKind.i64.wrap (-p) = -p := IntWalk.i64_in _ (by omega)
  rw [fracV_is q] at T ⊢
  have hb : Below w.heap.size w ((w.alloc (.cells #[.string (numS q), .string (denS q)] 24)).alloc (.cells #[.string { data := #[] }, .string { data := #[] }] 24)) := ((Below.refl _ _).alloc (Nat.le_refl _) _).alloc (by simp) _
  have hr := heap_alloc_new (w.alloc (.cells #[.string (numS q), .string (denS q)] 24)) (.cells #[.string { data := #[] }, .string { data := #[] }] 24)
  rw [World.size_alloc] at hr
  have HR := Lib.hid hr
  have HL := Lib.hid hb
  have HT := Lib.hid (ht.below hb)
  clear hb hr ht hq hp hl hk1 hk2 t1 t2 m1 m2 m3 m4 m5 d2 hw hx1 hx2 hx3 hx4 hx5
  go_enter Tryz.func14, Tryz.ntmps14
  go_wp2_with fail
  refine (T.out _).mono ?_
  rintro e W1 ⟨A1, L1, C1, A2, L2, C2, rfl, ⟨h1, h2⟩, hb⟩
  have N1 := Lib.hid h1
  have N2 := Lib.hid h2
  clear h1 h2
  replace HR := Lib.hid (keep_block HR.out hb)
  replace HT := Lib.hid (HT.out.below hb)
  replace HL := Lib.hid (HL.out.trans (hb.mono HL.out.size))
  clear hb
  obtain ⟨ng, hng⟩ : ∃ b, neg q = b := ⟨_, rfl⟩
  rw [hng] at T1 T2 T3 TW ⊢
  clear hng
  have hb : Below W1.heap.size W1 (W1.alloc (.cells #[.bool ng, .slice A1 L1 C1, .slice A2 L2 C2] 47)) := (Below.refl _ _).alloc (Nat.le_refl _) _
  have HX := Lib.hid (heap_alloc_new W1 (.cells #[.bool ng, .slice A1 L1 C1, .slice A2 L2 C2] 47))
  replace HR := Lib.hid (keep_block HR.out hb)
  replace HT := Lib.hid (HT.out.below hb)
  replace N1 := Lib.hid (N1.out.below hb)
  replace N2 := Lib.hid (N2.out.below hb)
  replace HL := Lib.hid (HL.out.trans (hb.mono HL.out.size))
  clear hb
  obtain ⟨⟨x0, x1, x2⟩, xf0, xf1, xf2⟩ := three_at HX.out
  go_wp2_with fail
  refine (T1.out _ _ _ _ _ _ _ N1.out N2.out).mono ?_
  rintro e W2 ⟨A3, L3, C3, A4, L4, C4, rfl, h3, h4, hb⟩
  have N3 := Lib.hid h3
  have N4 := Lib.hid h4
  clear h3 h4 x0 x1 x2 xf0 xf1 xf2
  replace HR := Lib.hid (keep_block HR.out hb)
  replace HT := Lib.hid (HT.out.below hb)
  replace HL := Lib.hid (HL.out.trans (hb.mono HL.out.size))
  clear hb
  go_wp2_with fail
  refine (T2.out _ _ _ _ _ _ _ N3.out N4.out).mono ?_
  rintro e W3 ⟨A5, L5, C5, A6, L6, C6, rfl, h3, h4, hb⟩
  have N5 := Lib.hid h3
  have N6 := Lib.hid h4
  clear h3 h4
  replace HR := Lib.hid (keep_block HR.out hb)
  replace HT := Lib.hid (HT.out.below hb)
  replace HL := Lib.hid (HL.out.trans (hb.mono HL.out.size))
  clear hb
  go_wp2_with fail
  refine (T3.out _ _ _ _ _ _ _ N5.out N6.out).mono ?_
  rintro e W4 ⟨A7, L7, C7, A8, L8, C8, rfl, h3, h4, hb⟩
  have N7 := Lib.hid h3
  have N8 := Lib.hid h4
  clear h3 h4
  replace HR := Lib.hid (keep_block HR.out hb)
  replace HT := Lib.hid (HT.out.below hb)
  replace HL := Lib.hid (HL.out.trans (hb.mono HL.out.size))
  clear hb
  go_wp2_with fail
  refine (TW.out _ _ _ N7.out N8.out HT.out).mono ?_
  rintro e W5 ⟨rfl, hb⟩
  replace HR := Lib.hid (keep_block HR.out hb)
  replace HL := Lib.hid (HL.out.trans (hb.mono HL.out.size))
  clear hb
  obtain ⟨⟨r0, r1⟩, rf0, rf1⟩ := two_at HR.out
  obtain ⟨nb, e0, e1⟩ := frac_end (x := .string rx) (y := .string ry) HR.out HL.out (by omega)
  go_wp2
  refine bodyPost_ret (v := .tuple #[.agg #[.string rx, .string ry], .int .i64 rc]) (by simp [results, Tryz.results14, go_sem, e0, e1]) rfl ⟨rfl, nb⟩
end Go.Proofs.YtkbhlkinlcmgoaaGreatDoor.Num
