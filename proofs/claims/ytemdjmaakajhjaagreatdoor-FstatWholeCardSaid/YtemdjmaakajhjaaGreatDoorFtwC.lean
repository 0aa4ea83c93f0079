/- Numbers as texts of digits, fractions, values and the functions of fmath: contracts of the program's functions, joined from smaller texts. Conditions stand at each theorem. -/
import Derived.Test.YtemdjmaakajhjaaGreatDoorFtwB
import Derived.Test.YtemdjmaakajhjaaGreatDoorNumH
import Derived.Test.YtemdjmaakajhjaaGreatDoorFtcA

/- Probabilities of all cases: their sum is 1; how long they are. Plain: no program. -/
namespace Go.Proofs.YtemdjmaakajhjaaGreatDoor.Num

/-- binomial coefficients by a quotient -/
def chooseF (n k : Nat) : Nat := desc n k / desc k k
theorem desc_pos : ∀ k, 0 < desc k k
  | 0 => Nat.one_pos
  | k + 1 => by rw [desc_succ]; exact Nat.mul_pos (by omega) (desc_pos k)
theorem choose_fast (n k : Nat) : choose n k = chooseF n k := by
  unfold chooseF
  rw [desc_choose n k, Nat.mul_div_cancel _ (desc_pos k)]
/-- one case of n, with a chance of p tenths, over 10^n -/
def binT (n p i : Nat) : Nat := choose n i * (p ^ i * (10 - p) ^ (n - i))
def binF (n p i : Nat) : Nat := chooseF n i * (p ^ i * (10 - p) ^ (n - i))
/-- one case of drawing n of 30 of which m are marked, over the number of all draws -/
def hypT (n m k : Nat) : Nat := choose m k * choose (30 - m) (n - k)
def hypF (n m k : Nat) : Nat := chooseF m k * chooseF (30 - m) (n - k)
/-- the first k terms -/
def uptoN (f : Nat → Nat) : Nat → Nat
  | 0 => 0
  | k + 1 => uptoN f k + f k
theorem uptoN_congr {f g : Nat → Nat} (h : ∀ i, f i = g i) : ∀ k, uptoN f k = uptoN g k
  | 0 => rfl
  | k + 1 => by show uptoN f k + f k = _; rw [uptoN_congr h k, h k]; rfl
theorem uptoN_mono (f : Nat → Nat) {i k : Nat} (h : i ≤ k) : uptoN f i ≤ uptoN f k := by
  induction h with
  | refl => exact Nat.le_refl _
  | step _ ih => exact Nat.le_trans ih (Nat.le_add_right _ _)
theorem bin_all : ∀ n, n < 21 → ∀ p, p < 11 → uptoN (binF n p) (n + 1) = 10 ^ n := by decide +kernel
theorem hyp_all : ∀ n, n < 21 → ∀ m, m < 21 → uptoN (hypF n m) (n + 1) = chooseF 30 n := by decide +kernel
theorem bin_sum {n p : Nat} (hn : n ≤ 20) (hp : p ≤ 10) : uptoN (binT n p) (n + 1) = 10 ^ n := by
  rw [uptoN_congr (g := binF n p) (fun i => by unfold binT binF; rw [choose_fast])]
  exact bin_all n (by omega) p (by omega)
theorem hyp_sum {n m : Nat} (hn : n ≤ 20) (hm : m ≤ 20) : uptoN (hypT n m) (n + 1) = choose 30 n := by
  rw [uptoN_congr (g := hypF n m) (fun i => by unfold hypT hypF; rw [choose_fast, choose_fast]), choose_fast]
  exact hyp_all n (by omega) m (by omega)
theorem hyp_zero {n m k : Nat} (h : m < k ∨ 30 - m < n - k) : hypT n m k = 0 := by
  unfold hypT
  rcases h with h | h
  · rw [choose_more _ _ h, Nat.zero_mul]
  · rw [choose_more _ _ h, Nat.mul_zero]

def tenthR (p : Nat) : Rat := ((p : Int) : Rat) / ((10 : Int) : Rat)
def binR (n p i : Nat) : Rat := ((binT n p i : Nat) : Rat) / ((10 ^ n : Nat) : Rat)
def binsR (n p k : Nat) : Rat := ((uptoN (binT n p) k : Nat) : Rat) / ((10 ^ n : Nat) : Rat)
def hypR (n m k : Nat) : Rat := ((hypT n m k : Nat) : Rat) / ((choose 30 n : Nat) : Rat)
def hypsR (n m k : Nat) : Rat := ((uptoN (hypT n m) k : Nat) : Rat) / ((choose 30 n : Nat) : Rat)
theorem binsR_zero (n p : Nat) : binsR n p 0 = 0 := by unfold binsR; show ((0 : Nat) : Rat) / _ = 0; rw [Rat.div_def]; exact Rat.zero_mul _
theorem hypsR_zero (n m : Nat) : hypsR n m 0 = 0 := by unfold hypsR; show ((0 : Nat) : Rat) / _ = 0; rw [Rat.div_def]; exact Rat.zero_mul _
theorem binsR_succ (n p k : Nat) : binsR n p (k + 1) = binsR n p k + binR n p k := by
  unfold binsR binR
  show ((uptoN (binT n p) k + binT n p k : Nat) : Rat) / _ = _
  rw [Rat.natCast_add]; grind
theorem hypsR_succ (n m k : Nat) : hypsR n m (k + 1) = hypsR n m k + hypR n m k := by
  unfold hypsR hypR
  show ((uptoN (hypT n m) k + hypT n m k : Nat) : Rat) / _ = _
  rw [Rat.natCast_add]; grind
theorem binsR_all {n p : Nat} (hn : n ≤ 20) (hp : p ≤ 10) : binsR n p (n + 1) = 1 := by
  unfold binsR
  rw [bin_sum hn hp]
  have := nat_ne (b := 10 ^ n) (Nat.pos_iff_ne_zero.1 (Nat.pow_pos (by decide)))
  grind
theorem choose30_ne {n : Nat} (hn : n ≤ 20) : choose 30 n ≠ 0 := by
  rw [choose_fast]
  exact (by decide +kernel : ∀ n, n < 21 → chooseF 30 n ≠ 0) n (by omega)
theorem hypsR_all {n m : Nat} (hn : n ≤ 20) (hm : m ≤ 20) : hypsR n m (n + 1) = 1 := by
  unfold hypsR
  rw [hyp_sum hn hm]
  have := nat_ne (choose30_ne hn)
  grind
theorem one_tenth {p : Nat} (hp : p ≤ 10) : 1 - tenthR p = tenthR (10 - p) := by
  unfold tenthR
  rw [show ((10 - p : Nat) : Int) = 10 - (p : Int) by omega, Rat.intCast_sub]
  have : ((10 : Int) : Rat) ≠ 0 := int_ne (by decide)
  grind
theorem tenth_pow (p k : Nat) : tenthR p ^ k = ((p ^ k : Nat) : Rat) / ((10 ^ k : Nat) : Rat) := by
  have h10 : ((10 : Nat) : Rat) ≠ 0 := nat_ne (by decide)
  induction k with
  | zero => rw [Rat.pow_zero]; show (1 : Rat) = ((1 : Nat) : Rat) / ((1 : Nat) : Rat); grind
  | succ k ih =>
    have h1 := nat_ne (b := 10 ^ k) (Nat.pos_iff_ne_zero.1 (Nat.pow_pos (by decide)))
    rw [Rat.pow_succ, ih, Nat.pow_succ, Nat.pow_succ, Rat.natCast_mul, Rat.natCast_mul]
    unfold tenthR
    rw [show ((p : Int) : Rat) = ((p : Nat) : Rat) from Rat.intCast_natCast p, show ((10 : Int) : Rat) = ((10 : Nat) : Rat) from rfl]
    grind
theorem pow10_ne (k : Nat) : ((10 ^ k : Nat) : Rat) ≠ 0 := nat_ne (Nat.pos_iff_ne_zero.1 (Nat.pow_pos (by decide)))
theorem powers_is {n p i : Nat} (hp : p ≤ 10) (hi : i ≤ n) : tenthR p ^ i * (1 - tenthR p) ^ (n - i) = ((p ^ i * (10 - p) ^ (n - i) : Nat) : Rat) / ((10 ^ n : Nat) : Rat) := by
  rw [one_tenth hp, tenth_pow, tenth_pow, Rat.natCast_mul]
  have e : (10 ^ n : Nat) = 10 ^ i * 10 ^ (n - i) := by rw [← Nat.pow_add]; congr 1; omega
  have h1 := pow10_ne i
  have h2 := pow10_ne (n - i)
  rw [e, Rat.natCast_mul]
  grind
theorem binR_is {n p i : Nat} (hp : p ≤ 10) (hi : i ≤ n) : ((choose n i : Nat) : Rat) * (tenthR p ^ i * (1 - tenthR p) ^ (n - i)) = binR n p i := by
  rw [powers_is hp hi]
  unfold binR binT
  rw [Rat.natCast_mul]; grind
theorem pow_le_of {a b k n : Nat} (ha : a ≤ b) (hk : k ≤ n) (hb : 0 < b) : a ^ k ≤ b ^ n := pow_mono ha hk hb
theorem powers_sm {n p i : Nat} (hp : p ≤ 10) (hi : i ≤ n) (hn : n ≤ 20) : Sm (tenthR p ^ i * (1 - tenthR p) ^ (n - i)) (10 ^ 40) (10 ^ 20) := by
  rw [powers_is hp hi]
  refine ⟨((p ^ i * (10 - p) ^ (n - i) : Nat) : Int), 10 ^ n, Nat.pos_iff_ne_zero.1 (Nat.pow_pos (by decide)), rfl, ?_, Nat.pow_le_pow_right (by decide) hn⟩
  rw [Int.natAbs_natCast, show (40 : Nat) = 20 + 20 from rfl, Nat.pow_add]
  exact Nat.mul_le_mul (pow_le_of (by omega) (by omega) (by decide)) (pow_le_of (by omega) (by omega) (by decide))
theorem tenth_pow_sm {p k : Nat} (hp : p ≤ 10) (hk : k ≤ 20) : Sm (tenthR p ^ k) (10 ^ 20) (10 ^ 20) := by
  rw [tenth_pow]
  refine ⟨((p ^ k : Nat) : Int), 10 ^ k, Nat.pos_iff_ne_zero.1 (Nat.pow_pos (by decide)), rfl, ?_, Nat.pow_le_pow_right (by decide) hk⟩
  rw [Int.natAbs_natCast]
  exact pow_le_of hp hk (by decide)
theorem binsR_sm {n p k : Nat} (hp : p ≤ 10) (hk : k ≤ n + 1) (hn : n ≤ 20) : Sm (binsR n p k) (10 ^ 20) (10 ^ 20) := by
  refine ⟨((uptoN (binT n p) k : Nat) : Int), 10 ^ n, Nat.pos_iff_ne_zero.1 (Nat.pow_pos (by decide)), rfl, ?_, Nat.pow_le_pow_right (by decide) hn⟩
  rw [Int.natAbs_natCast]
  refine Nat.le_trans (uptoN_mono _ hk) ?_
  rw [bin_sum hn hp]
  exact Nat.pow_le_pow_right (by decide) hn
theorem binR_sm {n p i : Nat} (hp : p ≤ 10) (hi : i ≤ n) (hn : n ≤ 20) : Sm (binR n p i) (10 ^ 20) (10 ^ 20) := by
  refine ⟨((binT n p i : Nat) : Int), 10 ^ n, Nat.pos_iff_ne_zero.1 (Nat.pow_pos (by decide)), rfl, ?_, Nat.pow_le_pow_right (by decide) hn⟩
  rw [Int.natAbs_natCast]
  refine Nat.le_trans (Nat.le_trans (Nat.le_add_left _ _) (uptoN_mono (binT n p) (show i + 1 ≤ n + 1 by omega))) ?_
  rw [bin_sum hn hp]
  exact Nat.pow_le_pow_right (by decide) hn
theorem hypsR_sm {n m k : Nat} (hm : m ≤ 20) (hk : k ≤ n + 1) (hn : n ≤ 20) : Sm (hypsR n m k) (2 ^ 200) (2 ^ 200) := by
  refine ⟨((uptoN (hypT n m) k : Nat) : Int), choose 30 n, choose30_ne hn, rfl, ?_, choose_small (by decide)⟩
  rw [Int.natAbs_natCast]
  refine Nat.le_trans (uptoN_mono _ hk) ?_
  rw [hyp_sum hn hm]
  exact choose_small (by decide)
end Go.Proofs.YtemdjmaakajhjaaGreatDoor.Num

/- Rounding and powers of fractions: plain laws, no program. No conditions. -/
namespace Go.Proofs.YtemdjmaakajhjaaGreatDoor.Num

/-- the nearest whole number, the greater one of two -/
def roundNum (n d : Nat) : Nat := (n + n + d) / (d + d)
/-- ten to a power, above and below the line -/
def tenUp (p : Int) : Nat := 10 ^ p.toNat
def tenDn (p : Int) : Nat := 10 ^ (-p).toNat
def tenR (p : Int) : Rat := ((tenUp p : Nat) : Rat) / ((tenDn p : Nat) : Rat)
/-- a fraction, rounded to decimal places -/
def roundR (q : Rat) (p : Int) : Rat := ratOf (neg q) (roundNum (up q * tenUp p) (q.den * tenDn p) * tenDn p) (1 * tenUp p)
/-- a fraction to a whole power -/
def powR (q : Rat) (n : Int) : Rat := if n < 0 then (q ^ n.natAbs)⁻¹ else q ^ n.natAbs

theorem tenUp_pos (p : Int) : 0 < tenUp p := Nat.pow_pos (by decide)
theorem tenDn_pos (p : Int) : 0 < tenDn p := Nat.pow_pos (by decide)
theorem nat_pos {n : Nat} (h : 0 < n) : (0 : Rat) < ((n : Nat) : Rat) := by
  have : ((0 : Nat) : Rat) < ((n : Nat) : Rat) := by exact_mod_cast h
  exact this
theorem div_pos {a b : Rat} (ha : 0 < a) (hb : 0 < b) : 0 < a / b := by
  rw [Rat.div_def]; exact Rat.mul_pos ha (Rat.inv_pos.2 hb)
theorem div_nonneg {a b : Rat} (ha : 0 ≤ a) (hb : 0 < b) : 0 ≤ a / b := by
  rw [Rat.div_def]; exact Rat.mul_nonneg ha (Rat.le_of_lt (Rat.inv_pos.2 hb))
theorem tenR_pos (p : Int) : 0 < tenR p := div_pos (nat_pos (tenUp_pos p)) (nat_pos (tenDn_pos p))
theorem rat_ne {a : Rat} (h : 0 < a) : a ≠ 0 := fun e => by rw [e] at h; exact absurd h (by decide)
theorem le_div {a b c : Rat} (hc : 0 < c) (h : a * c ≤ b) : a ≤ b / c := by
  have h5 := Rat.mul_le_mul_of_nonneg_right h (Rat.le_of_lt (Rat.inv_pos.2 hc))
  have hne := rat_ne hc
  have e : a * c * c⁻¹ = a := by grind
  rw [e] at h5
  rw [Rat.div_def]; exact h5
theorem div_le {a b c : Rat} (hc : 0 < c) (h : b ≤ a * c) : b / c ≤ a := by
  have h5 := Rat.mul_le_mul_of_nonneg_right h (Rat.le_of_lt (Rat.inv_pos.2 hc))
  have hne := rat_ne hc
  have e : a * c * c⁻¹ = a := by grind
  rw [e] at h5
  rw [Rat.div_def]; exact h5

/-- powers with a sign -/
theorem sign_pow (m : Bool) (a k : Nat) : (if m then -(a : Int) else a) ^ k = if (m && decide (k % 2 = 1)) then -((a ^ k : Nat) : Int) else ((a ^ k : Nat) : Int) := by
  cases m with
  | false => simp
  | true =>
    simp only [if_true, Bool.true_and, decide_eq_true_eq]
    induction k with
    | zero => simp
    | succ k ih =>
      rw [Int.pow_succ, ih, Nat.pow_succ]
      by_cases h : k % 2 = 1
      · rw [if_pos h, if_neg (by omega)]; simp [Int.neg_mul, Int.mul_neg]
      · rw [if_neg h, if_pos (by omega)]; simp [Int.mul_neg]
theorem ratOf_pow (q : Rat) (k : Nat) : ratOf (neg q && decide (k % 2 = 1)) (up q ^ k) (q.den ^ k) = q ^ k := by
  have h := Rat.mkRat_self (q ^ k)
  rw [Rat.num_pow, Rat.den_pow] at h
  have e : q.num = if neg q then -(up q : Int) else up q := by
    unfold neg up
    by_cases hn : q.num < 0
    · rw [decide_eq_true hn, if_pos rfl]; omega
    · rw [decide_eq_false hn]; simp; omega
  rw [e, sign_pow] at h
  exact h
theorem ratOf_pow_inv (q : Rat) (k : Nat) (h0 : q ≠ 0) : ratOf (neg q && decide (k % 2 = 1)) (q.den ^ k) (up q ^ k) = (q ^ k)⁻¹ := by
  have hu : up q ^ k ≠ 0 := Nat.pos_iff_ne_zero.1 (Nat.pow_pos (Nat.pos_of_ne_zero (fun e => h0 ((up_zero q).1 e))))
  rw [← ratOf_pow q k, ratOf_inv _ _ _ hu (Nat.pos_iff_ne_zero.1 (Nat.pow_pos (Nat.pos_of_ne_zero q.den_nz)))]

theorem ratOf_false (n d : Nat) : ratOf false n d = ((n : Nat) : Rat) / ((d : Nat) : Rat) := by
  unfold ratOf
  rw [Rat.mkRat_eq_div]
  simp [Rat.intCast_natCast]
/-- the absolute value -/
theorem absR_of (q : Rat) : absR q = ((up q : Nat) : Rat) / ((q.den : Nat) : Rat) := by
  rw [← ratOf_false]
  unfold absR
  have h := ratOf_self q
  by_cases hn : q < 0
  · rw [if_pos hn]
    rw [(neg_iff q).2 hn] at h
    conv => lhs; rw [← h, ratOf_negate]
    rfl
  · rw [if_neg hn]
    have : neg q = false := by
      cases hh : neg q
      · rfl
      · exact absurd ((neg_iff q).1 hh) hn
    rw [this] at h
    exact h.symm
theorem absR_nonneg (q : Rat) : 0 ≤ absR q := by
  unfold absR
  split
  · next h => have := Rat.le_of_lt h; grind
  · next h => exact Rat.not_lt.1 h
theorem tenR_pow (p : Int) : powR 10 p = tenR p := by
  unfold powR tenR tenUp tenDn
  have h10 : ((10 ^ p.natAbs : Nat) : Rat) = (10 : Rat) ^ p.natAbs := by rw [Rat.natCast_pow]; rfl
  by_cases h : p < 0
  · rw [if_pos h, ← h10, show p.toNat = 0 by omega, show (-p).toNat = p.natAbs by omega]
    rw [Rat.div_def]
    have : ((10 ^ 0 : Nat) : Rat) = 1 := rfl
    rw [this, Rat.one_mul]
  · rw [if_neg h, ← h10, show p.toNat = p.natAbs by omega, show (-p).toNat = 0 by omega]
    have : ((10 ^ 0 : Nat) : Rat) = 1 := rfl
    rw [this]; grind
/-- what stands to be rounded -/
theorem scaled_of (q : Rat) (p : Int) : absR q * tenR p = (((up q * tenUp p : Nat) : Int) : Rat) / ((q.den * tenDn p : Nat) : Rat) := by
  rw [absR_of]
  unfold tenR
  have h1 := nat_ne q.den_nz
  have h2 := nat_ne (Nat.pos_iff_ne_zero.1 (tenDn_pos p))
  rw [Rat.intCast_natCast, Rat.natCast_mul, Rat.natCast_mul]
  grind
theorem roundNum_floor (n d : Nat) (hd : d ≠ 0) : ((roundNum n d : Nat) : Int) = ((((n : Nat) : Int) : Rat) / ((d : Nat) : Rat) + 1 / 2).floor := by
  have h1 := nat_ne hd
  have e : (((n : Nat) : Int) : Rat) / ((d : Nat) : Rat) + 1 / 2 = (((n + n + d : Nat) : Int) : Rat) / ((d + d : Nat) : Rat) := by
    have h2 : (((d + d : Nat)) : Rat) ≠ 0 := nat_ne (by omega)
    rw [Rat.intCast_natCast, Rat.intCast_natCast, Rat.natCast_add, Rat.natCast_add, Rat.natCast_add]
    rw [Rat.natCast_add] at h2
    grind
  rw [e, floor_ratio _ _ (by omega)]
  unfold roundNum
  omega
/-- rounding, said with fractions -/
theorem roundR_of (q : Rat) (p : Int) : roundR q p = signedR ((((absR q * tenR p + 1 / 2).floor : Int) : Rat) / tenR p) q := by
  have hr := roundNum_floor (up q * tenUp p) (q.den * tenDn p) (Nat.mul_ne_zero q.den_nz (Nat.pos_iff_ne_zero.1 (tenDn_pos p)))
  rw [← scaled_of] at hr
  rw [← hr]
  unfold roundR signedR
  generalize roundNum (up q * tenUp p) (q.den * tenDn p) = m
  have h1 := nat_ne (Nat.pos_iff_ne_zero.1 (tenUp_pos p))
  have h2 := nat_ne (Nat.pos_iff_ne_zero.1 (tenDn_pos p))
  have e : ratOf false (m * tenDn p) (1 * tenUp p) = (((m : Nat) : Int) : Rat) / tenR p := by
    rw [ratOf_false, Nat.one_mul]
    unfold tenR
    rw [Rat.natCast_mul, Rat.intCast_natCast]
    grind
  by_cases hn : q < 0
  · rw [if_pos hn, (neg_iff q).2 hn, ← e, ratOf_negate]; rfl
  · have : neg q = false := by
      cases hh : neg q
      · rfl
      · exact absurd ((neg_iff q).1 hh) hn
    rw [if_neg hn, this, e]
/-- rounding away from zero (up) or towards it, to decimal places -/
def cutR (upw : Bool) (q : Rat) (p : Int) : Rat :=
  signedR ((if upw = true ∧ ((((absR q * tenR p).floor : Int) : Rat) ≠ absR q * tenR p) then (((absR q * tenR p).floor : Int) : Rat) + 1 else (((absR q * tenR p).floor : Int) : Rat)) / tenR p) q

theorem absR_signed {v q : Rat} (hv : 0 ≤ v) : absR (signedR v q) = v := by
  have h0 : ¬ v < 0 := Rat.not_lt.2 hv
  unfold absR signedR
  by_cases h : q < 0
  · rw [if_pos h]
    by_cases h2 : -v < 0
    · rw [if_pos h2, Rat.neg_neg]
    · rw [if_neg h2]
      have h3 : 0 ≤ -v := Rat.not_lt.1 h2
      grind
  · rw [if_neg h, if_neg h0]
theorem floor_nonneg {x : Rat} (h : 0 ≤ x) : (0 : Rat) ≤ ((x.floor : Int) : Rat) := by
  have : (0 : Int) ≤ x.floor := Rat.le_floor_iff.2 h
  exact_mod_cast this
theorem scaled_nonneg (q : Rat) (p : Int) : 0 ≤ absR q * tenR p := Rat.mul_nonneg (absR_nonneg q) (Rat.le_of_lt (tenR_pos p))
theorem abs_down (q : Rat) (p : Int) : absR (cutR false q p) = (((absR q * tenR p).floor : Int) : Rat) / tenR p := by
  unfold cutR
  rw [if_neg (fun h => absurd h.1 (by decide))]
  exact absR_signed (div_nonneg (floor_nonneg (scaled_nonneg q p)) (tenR_pos p))
theorem abs_up (q : Rat) (p : Int) : ∃ z : Int, absR (cutR true q p) = (z : Rat) / tenR p ∧ absR q * tenR p ≤ (z : Rat) ∧ (absR q * tenR p + 1 / 2).floor ≤ z := by
  have h0 := floor_nonneg (scaled_nonneg q p)
  unfold cutR
  generalize hy : absR q * tenR p = y at *
  by_cases h : (((y.floor : Int) : Rat) ≠ y)
  · rw [if_pos ⟨rfl, h⟩]
    refine ⟨y.floor + 1, ?_, ?_, ?_⟩
    · rw [absR_signed (div_nonneg (by grind) (tenR_pos p)), Rat.intCast_add]; rfl
    · exact Rat.le_of_lt (Rat.lt_floor_add_one y)
    · have h1 := Rat.lt_floor_add_one y
      have h2 : (y + 1 / 2).floor < y.floor + 2 := by
        rw [Rat.floor_lt_iff, Rat.intCast_add]
        rw [Rat.intCast_add] at h1
        have e1 : ((1 : Int) : Rat) = 1 := rfl
        have e2 : ((2 : Int) : Rat) = 2 := rfl
        rw [e1] at h1; rw [e2]
        grind
      omega
  · rw [if_neg (fun k => h k.2)]
    have h : ((y.floor : Int) : Rat) = y := Decidable.not_not.1 h
    refine ⟨y.floor, absR_signed (div_nonneg h0 (tenR_pos p)), by rw [h]; exact Rat.le_refl, ?_⟩
    have h2 : (y + 1 / 2).floor < y.floor + 1 := by
      rw [Rat.floor_lt_iff, Rat.intCast_add, h]
      have e1 : ((1 : Int) : Rat) = 1 := rfl
      rw [e1]
      grind
    omega
theorem abs_round (q : Rat) (p : Int) : absR (roundR q p) = (((absR q * tenR p + 1 / 2).floor : Int) : Rat) / tenR p := by
  rw [roundR_of]
  have := scaled_nonneg q p
  exact absR_signed (div_nonneg (floor_nonneg (by grind)) (tenR_pos p))
theorem div_mono {a b c : Rat} (hc : 0 < c) (h : a ≤ b) : a / c ≤ b / c := by
  have h5 := Rat.mul_le_mul_of_nonneg_right h (Rat.le_of_lt (Rat.inv_pos.2 hc))
  rw [Rat.div_def, Rat.div_def]; exact h5
theorem down_le (q : Rat) (p : Int) : absR (cutR false q p) ≤ absR q := by
  rw [abs_down]; exact div_le (tenR_pos p) (Rat.floor_le _)
theorem le_up (q : Rat) (p : Int) : absR q ≤ absR (cutR true q p) := by
  obtain ⟨z, e, h, _⟩ := abs_up q p
  rw [e]; exact le_div (tenR_pos p) h
theorem down_le_round (q : Rat) (p : Int) : absR (cutR false q p) ≤ absR (roundR q p) := by
  rw [abs_down, abs_round]
  refine div_mono (tenR_pos p) ?_
  have : (absR q * tenR p).floor ≤ (absR q * tenR p + 1 / 2).floor := Rat.floor_monotone (by grind)
  exact_mod_cast this
theorem round_le_up (q : Rat) (p : Int) : absR (roundR q p) ≤ absR (cutR true q p) := by
  obtain ⟨z, e, _, h⟩ := abs_up q p
  rw [e, abs_round]
  refine div_mono (tenR_pos p) ?_
  exact_mod_cast h
theorem round_again (q : Rat) (p : Int) : roundR (roundR q p) p = roundR q p := by
  have hp := tenR_pos p
  have hne := rat_ne hp
  have e : absR (roundR q p) * tenR p = (((absR q * tenR p + 1 / 2).floor : Int) : Rat) := by
    rw [abs_round]; grind
  rw [roundR_of (roundR q p) p, e]
  generalize hz : (absR q * tenR p + 1 / 2).floor = z at *
  have hz0 : 0 ≤ z := by
    rw [← hz, Rat.le_floor_iff]
    have := scaled_nonneg q p
    have e0 : ((0 : Int) : Rat) = 0 := rfl
    rw [e0]; grind
  have h1 : (((z : Int) : Rat) + 1 / 2).floor = z := by
    apply Int.le_antisymm
    · have : ((z : Rat) + 1 / 2).floor < z + 1 := by
        rw [Rat.floor_lt_iff, Rat.intCast_add]
        have e1 : ((1 : Int) : Rat) = 1 := rfl
        rw [e1]; grind
      omega
    · rw [Rat.le_floor_iff]; grind
  rw [h1, roundR_of q p, hz]
  by_cases h0 : z = 0
  · subst h0
    have : ((0 : Int) : Rat) / tenR p = 0 := by
      have e0 : ((0 : Int) : Rat) = 0 := rfl
      rw [e0]; grind
    rw [this]
    unfold signedR
    split <;> split <;> grind
  · have hv : 0 < ((z : Int) : Rat) / tenR p := div_pos (by
      have : (0 : Int) < z := by omega
      exact_mod_cast this) hp
    generalize ((z : Int) : Rat) / tenR p = v at hv
    unfold signedR
    by_cases hq : q < 0
    · rw [if_pos hq]
      have : -v < 0 := by grind
      rw [if_pos this]
    · rw [if_neg hq]
      have : ¬ v < 0 := by grind
      rw [if_neg this]
/-- the next multiple below, above -/
theorem limit_down (q y : Rat) (hy : 0 < y) : y * (((q / y).floor : Int) : Rat) ≤ q := by
  have h := Rat.mul_le_mul_of_nonneg_right (Rat.floor_le (q / y)) (Rat.le_of_lt hy)
  have hne := rat_ne hy
  have e : q / y * y = q := by grind
  rw [e] at h
  rw [Rat.mul_comm]; exact h
theorem limit_up (q y : Rat) (hy : 0 < y) : q ≤ -(y * ((((-q) / y).floor : Int) : Rat)) := by
  have h := limit_down (-q) y hy
  grind
end Go.Proofs.YtemdjmaakajhjaaGreatDoor.Num

/- package exact's powers of natural numbers. Conditions: the results have at most 34 limbs. -/
namespace Go.Proofs.YtemdjmaakajhjaaGreatDoor.Num
open Go.RowKit Go.Lib

theorem half_abs (m : Int) : (m.tdiv 2).natAbs = m.natAbs / 2 := by rw [Int.natAbs_tdiv]; rfl
theorem rest_abs (m : Int) : (m.tmod 2).natAbs = m.natAbs % 2 := by rw [Int.natAbs_tmod]; rfl
theorem pow_half (a o : Nat) (m : Int) : o * a ^ m.natAbs = (if m.tmod 2 = 0 then o else o * a) * (if m.tdiv 2 = 0 then a else a * a) ^ (m.tdiv 2).natAbs := by
  have h1 : m.natAbs = 2 * (m.tdiv 2).natAbs + (m.tmod 2).natAbs := by
    rw [half_abs, rest_abs]; omega
  have hr : (m.tmod 2).natAbs = if m.tmod 2 = 0 then 0 else 1 := by
    rw [rest_abs]
    have e : m.tmod 2 = 0 ↔ m.natAbs % 2 = 0 := by
      rw [← Int.natAbs_eq_zero, rest_abs]
    by_cases h : m.tmod 2 = 0
    · rw [if_pos h]; exact e.1 h
    · rw [if_neg h]
      have : ¬ m.natAbs % 2 = 0 := fun h' => h (e.2 h')
      omega
  rw [h1, hr]
  by_cases hq : m.tdiv 2 = 0
  · have hq' : (m.tdiv 2).natAbs = 0 := by rw [hq]; rfl
    rw [hq']
    by_cases h : m.tmod 2 = 0
    · rw [if_pos h, if_pos h]; simp
    · rw [if_neg h, if_neg h]; simp
  · rw [if_neg hq, Nat.pow_add, Nat.pow_mul, Nat.pow_two]
    by_cases h : m.tmod 2 = 0
    · rw [if_pos h, if_pos h, Nat.pow_zero, Nat.mul_one]
    · rw [if_neg h, if_neg h, Nat.pow_one, Nat.mul_comm ((a * a) ^ _) a, Nat.mul_assoc]
theorem le_of_prod {o x R : Nat} (h : o * x = R) (hx : x ≠ 0) : o ≤ R := by
  rw [← h]; exact Nat.le_mul_of_pos_right o (Nat.pos_of_ne_zero hx)
/-- the state of a power in the making: o times a to the n is R -/
structure PowI (R : Nat) (a o : Nat) (m : Int) : Prop where
  prod : o * a ^ m.natAbs = R
  two : m ≠ 0 → 2 ≤ a
  pos : o ≠ 0
theorem PowI.step {R a o : Nat} {m : Int} (h : PowI R a o m) (h0 : m ≠ 0) : PowI R (if m.tdiv 2 = 0 then a else a * a) (if m.tmod 2 = 0 then o else o * a) (m.tdiv 2) := by
  have h2 := h.two h0
  refine ⟨by rw [← pow_half]; exact h.prod, fun hq => ?_, ?_⟩
  · rw [if_neg hq]; exact Nat.le_trans h2 (Nat.le_mul_of_pos_left _ (by omega))
  · split
    · exact h.pos
    · exact Nat.mul_ne_zero h.pos (by omega)
theorem PowI.le {R a o : Nat} {m : Int} (h : PowI R a o m) (h2 : 2 ≤ a) : o ≤ R := le_of_prod h.prod (Nat.pos_iff_ne_zero.1 (Nat.pow_pos (by omega)))
theorem PowI.base_le {R a o : Nat} {m : Int} (h : PowI R a o m) (h0 : m ≠ 0) : a ≤ R := by
  rw [← h.prod]
  refine Nat.le_trans ?_ (Nat.le_mul_of_pos_left _ (Nat.pos_of_ne_zero h.pos))
  exact Nat.le_self_pow (by omega) a
theorem NatAt.len {W : World} {A : Option Addr} {L C x : Nat} (h : NatAt W (.slice A L C) x) : L = (digs LB x).length := by
  obtain ⟨A', C', e, _⟩ := LimbsAt.form h
  injection e

set_option maxHeartbeats 4000000 in
set_option maxRecDepth 100000 in
theorem power_any (v1 : Value) (a0 : Nat) (n : Int) (w : World) (h1 : NatAt w v1 a0) (hn0 : -1000000 ≤ n) (hn1 : n ≤ 1000000) (hl : (digs LB (a0 ^ n.natAbs)).length ≤ 34) :
    Calls Tryz.prog 280 #[v1, .int .i64 n] w fun e w' => ∃ v', e = .returned (.tuple #[v', .bool true]) ∧ NatAt w' v' (a0 ^ n.natAbs) ∧ Below w.heap.size w w' := by
  have H1 := Lib.hid h1
  have Z := Lib.hid (fun W => zero_any v1 a0 W)
  have O := Lib.hid (fun W => one_any v1 a0 W)
  clear h1
  by_cases hz : a0 = 0 ∧ n ≠ 0
  · have hR : a0 ^ n.natAbs = a0 := by
      rw [hz.1, Nat.zero_pow (by have := hz.2; omega)]
    rw [hR]
    rw [decide_eq_true hz.1] at Z
    have hn : (n != 0) = true := by rw [bne_iff_ne]; exact hz.2
    clear hl hR hz
    go_enter Tryz.func280, Tryz.ntmps280
    go_wp2_with fail
    refine (Z.out _ H1.out).mono ?_
    rintro e w ⟨rfl, rfl⟩
    go_wp2
    go_ret2
    exact ⟨_, rfl, H1.out, Below.refl _ _⟩
  by_cases ho : a0 = 1
  · have hR : a0 ^ n.natAbs = a0 := by rw [ho, Nat.one_pow]
    rw [hR]
    rw [decide_eq_false (show ¬ a0 = 0 by omega)] at Z
    rw [decide_eq_true ho] at O
    clear hl hR hz
    go_enter Tryz.func280, Tryz.ntmps280
    go_wp2_with fail
    refine (Z.out _ H1.out).mono ?_
    rintro e w ⟨rfl, rfl⟩
    go_wp2_with fail
    refine (O.out _ H1.out).mono ?_
    rintro e w ⟨rfl, rfl⟩
    go_wp2
    go_ret2
    exact ⟨_, rfl, H1.out, Below.refl _ _⟩
  rw [decide_eq_false ho] at O
  obtain ⟨R, hR⟩ : ∃ R, a0 ^ n.natAbs = R := ⟨_, rfl⟩
  rw [hR] at hl ⊢
  have HR := Lib.hid hl
  have HI : Hid (PowI R a0 1 n) := Lib.hid ⟨by rw [Nat.one_mul]; exact hR, fun h => by
    have : a0 ≠ 0 := fun h' => hz ⟨h', h⟩
    omega, by decide⟩
  have hb : Below w.heap.size w (w.alloc (.cells #[.int .u32 1] 64)) := (Below.refl _ _).alloc (Nat.le_refl _) _
  have HB0 := Lib.hid hb
  have HA0 := Lib.hid (H1.out.below hb)
  have HO0 := Lib.hid (one_new w 64)
  obtain ⟨W0, hW0⟩ : ∃ Z, w.alloc (.cells #[.int .u32 1] 64) = Z := ⟨_, rfl⟩
  rw [hW0] at HB0 HA0 HO0
  have EW0 := Lib.hid hW0
  clear hl hR ho hb hW0
  go_enter Tryz.func280, Tryz.ntmps280
  go_wp2_with fail
  refine (Z.out _ H1.out).mono ?_
  rintro e w ⟨rfl, rfl⟩
  by_cases hz0 : a0 = 0
  · have hn : n = 0 := Decidable.byContradiction fun h => hz ⟨hz0, h⟩
    have hn2 : (n != 0) = false := by rw [bne_eq_false_iff_eq]; exact hn
    have hd : decide (a0 = 0) = true := decide_eq_true hz0
    clear hn
    clear hz hz0
    rw [hd]
    go_wp2_with fail
    refine (O.out _ H1.out).mono ?_
    rintro e w ⟨rfl, rfl⟩
    go_wp2
    rw [EW0.out]
    go_loopg [0, 1, 6] n.natAbs (fun gh v0 v1 v6 wx => ∃ (a o : Nat) (m : Int), m.natAbs ≤ gh ∧ v1 = .int .i64 m ∧ NatAt wx v0 a ∧ NatAt wx v6 o ∧ PowI R a o m ∧ -1000000 ≤ m ∧ m ≤ 1000000 ∧ Below w.heap.size w wx)
    case atStart => exact ⟨a0, 1, n, Nat.le_refl _, rfl, HA0.out, HO0.out, HI.out, hn0, hn1, HB0.out⟩
    case round =>
      obtain ⟨a, o, m, hm, rfl, ha, ho, hi, hm0, hm1, hbel⟩ := hrel
      obtain ⟨A1, L1, C1, rfl⟩ := ha.shape
      obtain ⟨A6, L6, C6, rfl⟩ := ho.shape
      have HA := Lib.hid ha
      have HO := Lib.hid ho
      have HI2 := Lib.hid hi
      have HBL := Lib.hid hbel
      clear ha ho hi hbel
      by_cases h0 : m = 0
      · subst h0
        have hv := HI2.out.prod
        rw [show (0 : Int).natAbs = 0 from rfl, Nat.pow_zero, Nat.mul_one] at hv
        rw [hv] at HO
        clear hv
        go_wp2
        go_ret2
        exact ⟨_, rfl, HO.out, HBL.out⟩
      have hne : (m != 0) = true := by rw [bne_iff_ne]; exact h0
      have hl1 := HA.out.len
      have hl2 : L1 ≤ 34 := by
        rw [hl1]; exact Nat.le_trans (digs_len_mono LB_two (HI2.out.base_le h0)) HR.out
      have hl3 := HO.out.len
      have hl4 : L6 ≤ 34 := by
        rw [hl3]; exact Nat.le_trans (digs_len_mono LB_two (HI2.out.le (HI2.out.two h0))) HR.out
      have TT := Lib.hid (fun W b h => calls_shaped (times_any (.slice A6 L6 C6) (.slice A1 L1 C1) o a W b h (by omega) (by omega)))
      have TA := Lib.hid (fun W h => calls_shaped (times_any (.slice A1 L1 C1) (.slice A1 L1 C1) a a W h h (by omega) (by omega)))
      have d1 : decide (34 < (L1 : Int)) = false := decide_eq_false (by omega)
      have hq3 : -1000000 ≤ m.tdiv 2 ∧ m.tdiv 2 ≤ 1000000 := by have := half_abs m; omega
      clear hl1 hl2 hl3 hl4
      by_cases ho : m.tmod 2 = 0
      · by_cases hh : m.tdiv 2 = 0
        · exfalso
          have := half_abs m
          have := rest_abs m
          omega
        · have q1 : (m.tmod 2 != 0) = false := by rw [bne_eq_false_iff_eq]; exact ho
          have q2 : (m.tdiv 2 != 0) = true := by rw [bne_iff_ne]; exact hh
          have HST := Lib.hid (HI2.out.step h0)
          rw [if_neg hh, if_pos ho] at HST
          have hl6 := HO.out.len
          have hl7 : L6 ≤ 34 := by
            rw [hl6]
            have := HST.out.le (by have h2 := HI2.out.two h0; first | exact h2 | exact Nat.le_trans h2 (Nat.le_mul_of_pos_left _ (by omega)))
            exact Nat.le_trans (digs_len_mono LB_two this) HR.out
          have d6 : decide (34 < (L6 : Int)) = false := decide_eq_false (by omega)
          clear hl6
          go_wp2_with fail
          refine (TA.out _ HA.out).mono ?_
          rintro e w3 ⟨A7, L7, C7, rfl, ha2, hb⟩
          replace HO := Lib.hid (HO.out.below hb)
          replace HBL := Lib.hid (HBL.out.trans (hb.mono HBL.out.size))
          have HA := Lib.hid ha2
          clear ha2 hb
          go_wp2
          go_roundg (gk - 1)
          case measure => omega
          case rel => exact ⟨_, _, m.tdiv 2, by have := half_abs m; omega, by go_num, HA.out, HO.out, HST.out, hq3.1, hq3.2, HBL.out⟩
      · by_cases hh : m.tdiv 2 = 0
        · have q1 : (m.tmod 2 != 0) = true := by rw [bne_iff_ne]; exact ho
          have q2 : (m.tdiv 2 != 0) = false := by rw [bne_eq_false_iff_eq]; exact hh
          have HST := Lib.hid (HI2.out.step h0)
          rw [if_pos hh, if_neg ho] at HST
          go_wp2_with fail
          refine (TT.out _ HO.out HA.out).mono ?_
          rintro e w2 ⟨A6, L6, C6, rfl, ho2, hb⟩
          replace HA := Lib.hid (HA.out.below hb)
          replace HBL := Lib.hid (HBL.out.trans (hb.mono HBL.out.size))
          have HO := Lib.hid ho2
          clear ho2 hb
          have hl6 := HO.out.len
          have hl7 : L6 ≤ 34 := by
            rw [hl6]
            have := HST.out.le (by have h2 := HI2.out.two h0; first | exact h2 | exact Nat.le_trans h2 (Nat.le_mul_of_pos_left _ (by omega)))
            exact Nat.le_trans (digs_len_mono LB_two this) HR.out
          have d6 : decide (34 < (L6 : Int)) = false := decide_eq_false (by omega)
          clear hl6
          go_wp2
          go_roundg (gk - 1)
          case measure => omega
          case rel => exact ⟨_, _, m.tdiv 2, by have := half_abs m; omega, by go_num, HA.out, HO.out, HST.out, hq3.1, hq3.2, HBL.out⟩
        · have q1 : (m.tmod 2 != 0) = true := by rw [bne_iff_ne]; exact ho
          have q2 : (m.tdiv 2 != 0) = true := by rw [bne_iff_ne]; exact hh
          have HST := Lib.hid (HI2.out.step h0)
          rw [if_neg hh, if_neg ho] at HST
          go_wp2_with fail
          refine (TT.out _ HO.out HA.out).mono ?_
          rintro e w2 ⟨A6, L6, C6, rfl, ho2, hb⟩
          replace HA := Lib.hid (HA.out.below hb)
          replace HBL := Lib.hid (HBL.out.trans (hb.mono HBL.out.size))
          have HO := Lib.hid ho2
          clear ho2 hb
          have hl6 := HO.out.len
          have hl7 : L6 ≤ 34 := by
            rw [hl6]
            have := HST.out.le (by have h2 := HI2.out.two h0; first | exact h2 | exact Nat.le_trans h2 (Nat.le_mul_of_pos_left _ (by omega)))
            exact Nat.le_trans (digs_len_mono LB_two this) HR.out
          have d6 : decide (34 < (L6 : Int)) = false := decide_eq_false (by omega)
          clear hl6
          go_wp2_with fail
          refine (TA.out _ HA.out).mono ?_
          rintro e w3 ⟨A7, L7, C7, rfl, ha2, hb⟩
          replace HO := Lib.hid (HO.out.below hb)
          replace HBL := Lib.hid (HBL.out.trans (hb.mono HBL.out.size))
          have HA := Lib.hid ha2
          clear ha2 hb
          go_wp2
          go_roundg (gk - 1)
          case measure => omega
          case rel => exact ⟨_, _, m.tdiv 2, by have := half_abs m; omega, by go_num, HA.out, HO.out, HST.out, hq3.1, hq3.2, HBL.out⟩
  · have hd : decide (a0 = 0) = false := decide_eq_false hz0
    clear hz hz0
    rw [hd]
    go_wp2_with fail
    refine (O.out _ H1.out).mono ?_
    rintro e w ⟨rfl, rfl⟩
    go_wp2
    rw [EW0.out]
    go_loopg [0, 1, 6] n.natAbs (fun gh v0 v1 v6 wx => ∃ (a o : Nat) (m : Int), m.natAbs ≤ gh ∧ v1 = .int .i64 m ∧ NatAt wx v0 a ∧ NatAt wx v6 o ∧ PowI R a o m ∧ -1000000 ≤ m ∧ m ≤ 1000000 ∧ Below w.heap.size w wx)
    case atStart => exact ⟨a0, 1, n, Nat.le_refl _, rfl, HA0.out, HO0.out, HI.out, hn0, hn1, HB0.out⟩
    case round =>
      obtain ⟨a, o, m, hm, rfl, ha, ho, hi, hm0, hm1, hbel⟩ := hrel
      obtain ⟨A1, L1, C1, rfl⟩ := ha.shape
      obtain ⟨A6, L6, C6, rfl⟩ := ho.shape
      have HA := Lib.hid ha
      have HO := Lib.hid ho
      have HI2 := Lib.hid hi
      have HBL := Lib.hid hbel
      clear ha ho hi hbel
      by_cases h0 : m = 0
      · subst h0
        have hv := HI2.out.prod
        rw [show (0 : Int).natAbs = 0 from rfl, Nat.pow_zero, Nat.mul_one] at hv
        rw [hv] at HO
        clear hv
        go_wp2
        go_ret2
        exact ⟨_, rfl, HO.out, HBL.out⟩
      have hne : (m != 0) = true := by rw [bne_iff_ne]; exact h0
      have hl1 := HA.out.len
      have hl2 : L1 ≤ 34 := by
        rw [hl1]; exact Nat.le_trans (digs_len_mono LB_two (HI2.out.base_le h0)) HR.out
      have hl3 := HO.out.len
      have hl4 : L6 ≤ 34 := by
        rw [hl3]; exact Nat.le_trans (digs_len_mono LB_two (HI2.out.le (HI2.out.two h0))) HR.out
      have TT := Lib.hid (fun W b h => calls_shaped (times_any (.slice A6 L6 C6) (.slice A1 L1 C1) o a W b h (by omega) (by omega)))
      have TA := Lib.hid (fun W h => calls_shaped (times_any (.slice A1 L1 C1) (.slice A1 L1 C1) a a W h h (by omega) (by omega)))
      have d1 : decide (34 < (L1 : Int)) = false := decide_eq_false (by omega)
      have hq3 : -1000000 ≤ m.tdiv 2 ∧ m.tdiv 2 ≤ 1000000 := by have := half_abs m; omega
      clear hl1 hl2 hl3 hl4
      by_cases ho : m.tmod 2 = 0
      · by_cases hh : m.tdiv 2 = 0
        · exfalso
          have := half_abs m
          have := rest_abs m
          omega
        · have q1 : (m.tmod 2 != 0) = false := by rw [bne_eq_false_iff_eq]; exact ho
          have q2 : (m.tdiv 2 != 0) = true := by rw [bne_iff_ne]; exact hh
          have HST := Lib.hid (HI2.out.step h0)
          rw [if_neg hh, if_pos ho] at HST
          have hl6 := HO.out.len
          have hl7 : L6 ≤ 34 := by
            rw [hl6]
            have := HST.out.le (by have h2 := HI2.out.two h0; first | exact h2 | exact Nat.le_trans h2 (Nat.le_mul_of_pos_left _ (by omega)))
            exact Nat.le_trans (digs_len_mono LB_two this) HR.out
          have d6 : decide (34 < (L6 : Int)) = false := decide_eq_false (by omega)
          clear hl6
          go_wp2_with fail
          refine (TA.out _ HA.out).mono ?_
          rintro e w3 ⟨A7, L7, C7, rfl, ha2, hb⟩
          replace HO := Lib.hid (HO.out.below hb)
          replace HBL := Lib.hid (HBL.out.trans (hb.mono HBL.out.size))
          have HA := Lib.hid ha2
          clear ha2 hb
          go_wp2
          go_roundg (gk - 1)
          case measure => omega
          case rel => exact ⟨_, _, m.tdiv 2, by have := half_abs m; omega, by go_num, HA.out, HO.out, HST.out, hq3.1, hq3.2, HBL.out⟩
      · by_cases hh : m.tdiv 2 = 0
        · have q1 : (m.tmod 2 != 0) = true := by rw [bne_iff_ne]; exact ho
          have q2 : (m.tdiv 2 != 0) = false := by rw [bne_eq_false_iff_eq]; exact hh
          have HST := Lib.hid (HI2.out.step h0)
          rw [if_pos hh, if_neg ho] at HST
          go_wp2_with fail
          refine (TT.out _ HO.out HA.out).mono ?_
          rintro e w2 ⟨A6, L6, C6, rfl, ho2, hb⟩
          replace HA := Lib.hid (HA.out.below hb)
          replace HBL := Lib.hid (HBL.out.trans (hb.mono HBL.out.size))
          have HO := Lib.hid ho2
          clear ho2 hb
          have hl6 := HO.out.len
          have hl7 : L6 ≤ 34 := by
            rw [hl6]
            have := HST.out.le (by have h2 := HI2.out.two h0; first | exact h2 | exact Nat.le_trans h2 (Nat.le_mul_of_pos_left _ (by omega)))
            exact Nat.le_trans (digs_len_mono LB_two this) HR.out
          have d6 : decide (34 < (L6 : Int)) = false := decide_eq_false (by omega)
          clear hl6
          go_wp2
          go_roundg (gk - 1)
          case measure => omega
          case rel => exact ⟨_, _, m.tdiv 2, by have := half_abs m; omega, by go_num, HA.out, HO.out, HST.out, hq3.1, hq3.2, HBL.out⟩
        · have q1 : (m.tmod 2 != 0) = true := by rw [bne_iff_ne]; exact ho
          have q2 : (m.tdiv 2 != 0) = true := by rw [bne_iff_ne]; exact hh
          have HST := Lib.hid (HI2.out.step h0)
          rw [if_neg hh, if_neg ho] at HST
          go_wp2_with fail
          refine (TT.out _ HO.out HA.out).mono ?_
          rintro e w2 ⟨A6, L6, C6, rfl, ho2, hb⟩
          replace HA := Lib.hid (HA.out.below hb)
          replace HBL := Lib.hid (HBL.out.trans (hb.mono HBL.out.size))
          have HO := Lib.hid ho2
          clear ho2 hb
          have hl6 := HO.out.len
          have hl7 : L6 ≤ 34 := by
            rw [hl6]
            have := HST.out.le (by have h2 := HI2.out.two h0; first | exact h2 | exact Nat.le_trans h2 (Nat.le_mul_of_pos_left _ (by omega)))
            exact Nat.le_trans (digs_len_mono LB_two this) HR.out
          have d6 : decide (34 < (L6 : Int)) = false := decide_eq_false (by omega)
          clear hl6
          go_wp2_with fail
          refine (TA.out _ HA.out).mono ?_
          rintro e w3 ⟨A7, L7, C7, rfl, ha2, hb⟩
          replace HO := Lib.hid (HO.out.below hb)
          replace HBL := Lib.hid (HBL.out.trans (hb.mono HBL.out.size))
          have HA := Lib.hid ha2
          clear ha2 hb
          go_wp2
          go_roundg (gk - 1)
          case measure => omega
          case rel => exact ⟨_, _, m.tdiv 2, by have := half_abs m; omega, by go_num, HA.out, HO.out, HST.out, hq3.1, hq3.2, HBL.out⟩
end Go.Proofs.YtemdjmaakajhjaaGreatDoor.Num

/- package exact's powers of fractions. Conditions: the results have at most 34 limbs; strconv's table of powers of ten lies as it is laid. -/
namespace Go.Proofs.YtemdjmaakajhjaaGreatDoor.Num
open Go.RowKit Go.Lib

theorem power_s (v1 : Value) (a0 : Nat) (n : Int) (w : World) (h1 : NatAt w v1 a0) (hn0 : -1000000 ≤ n) (hn1 : n ≤ 1000000) (hl : (digs LB (a0 ^ n.natAbs)).length ≤ 34) :
    Calls Tryz.prog 280 #[v1, .int .i64 n] w fun e w' => ∃ A L C, e = .returned (.tuple #[.slice A L C, .bool true]) ∧ NatAt w' (.slice A L C) (a0 ^ n.natAbs) ∧ Below w.heap.size w w' :=
  (power_any v1 a0 n w h1 hn0 hn1 hl).mono fun e w' ⟨v', he, h, hb⟩ => by
    obtain ⟨A, L, C, rfl⟩ := h.shape
    exact ⟨A, L, C, he, h, hb⟩
theorem odd_abs (n : Int) : (n.tmod 2 != 0) = decide (n.natAbs % 2 = 1) := by
  have h := rest_abs n
  rw [Bool.eq_iff_iff, bne_iff_ne, decide_eq_true_iff]
  omega
theorem odd_mod (n : Int) (h : ¬ n < 0) : (n % 2 != 0) = decide (n.natAbs % 2 = 1) := by
  rw [Bool.eq_iff_iff, bne_iff_ne, decide_eq_true_iff]
  omega
theorem powR_neg (q : Rat) (n : Int) (h : n < 0) : powR q n = (q ^ n.natAbs)⁻¹ := if_pos h
theorem powR_pos (q : Rat) (n : Int) (h : ¬ n < 0) : powR q n = q ^ n.natAbs := if_neg h
theorem swap_at {W : World} {b : Nat} {x y z : Value} {T : TypeId} (h : W.heap[b]? = some (.cells #[x, y, z] T (0, 0))) (y' z' : Value) : ((W.setCell ⟨b, 1, none⟩ y').setCell ⟨b, 2, none⟩ z').heap[b]? = some (.cells #[x, y', z'] T (0, 0)) := by
  have h1 := heap_setCell_at h 1 y'
  have h2 := heap_setCell_at h1 2 z'
  rw [h2]; rfl
theorem swap_below {w W : World} {b : Nat} (hb : Below w.heap.size w W) (hge : w.heap.size ≤ b) (y' z' : Value) : Below w.heap.size w ((W.setCell ⟨b, 1, none⟩ y').setCell ⟨b, 2, none⟩ z') :=
  (hb.setCell (p := ⟨b, 1, none⟩) hge _).setCell (p := ⟨b, 2, none⟩) hge _
theorem swap_other (W : World) (b : Nat) (y' z' : Value) {k : Nat} (hk : k ≠ b) : ((W.setCell ⟨b, 1, none⟩ y').setCell ⟨b, 2, none⟩ z').heap[k]? = W.heap[k]? :=
  (Below.heap_setCell _ ⟨b, 2, none⟩ z' k hk).trans (Below.heap_setCell W ⟨b, 1, none⟩ y' k hk)
theorem LimbsAt.same {W W' : World} {A : Option Addr} {L C g : Nat} {l : List Nat} (h : LimbsAt W (.slice A L C) l) (hn : ∀ k, k ≠ g → W'.heap[k]? = W.heap[k]?) (hg : ∀ i v, W.cell? ⟨g, i, none⟩ = some (.int .u32 v) → False) : LimbsAt W' (.slice A L C) l := by
  obtain ⟨A', C', e, hC, hc⟩ := h
  refine ⟨A', C', e, hC, fun i hi => ?_⟩
  obtain ⟨b, o, ha, hcell⟩ := hc i hi
  refine ⟨b, o, ha, ?_⟩
  have hne : b ≠ g := by
    rintro rfl
    exact hg _ _ hcell
  rw [World.cell?_of_block (hn b hne)]
  exact hcell
/-- the block of a number holds no limbs -/
theorem three_nolimb {W : World} {b : Nat} {m : Bool} {A1 A2 : Option Addr} {L1 C1 L2 C2 : Nat} {T : TypeId} (h : W.heap[b]? = some (.cells #[.bool m, .slice A1 L1 C1, .slice A2 L2 C2] T (0, 0))) : ∀ i v, W.cell? ⟨b, i, none⟩ = some (.int .u32 v) → False := by
  intro i v hc
  rw [Lib.cell_of_heap h i] at hc
  match i with
  | 0 => cases hc
  | 1 => cases hc
  | 2 => cases hc
  | i + 3 => simp at hc

set_option maxHeartbeats 4000000 in
set_option maxRecDepth 100000 in
theorem powerQ_pp (q : Rat) (n : Int) (w : World) (hq : fits q = true) (hneg : ¬ n < 0) (hs : neg q = false) (hn0 : -1000000 ≤ n) (hn1 : n ≤ 1000000) (hl1 : (digs LB (up q ^ n.natAbs)).length ≤ 34) (hl2 : (digs LB (q.den ^ n.natAbs)).length ≤ 34) (ht : Tab w) :
    Calls Tryz.prog 191 #[fracV q, .int .i64 n] w fun e w' => e = .returned (wroteV (powR q n)) ∧ Below w.heap.size w w' := by
  have T := Lib.hid (fun W => read_s q W hq)
  have P1 := Lib.hid (fun W v h => power_s v (up q) n W h hn0 hn1 hl1)
  have P2 := Lib.hid (fun W v h => power_s v q.den n W h hn0 hn1 hl2)
  have TW := Lib.hid (fun W v1 v2 h1 h2 g => numWrite_any (neg q && decide (n.natAbs % 2 = 1)) v1 v2 (up q ^ n.natAbs) (q.den ^ n.natAbs) W (Nat.pos_iff_ne_zero.1 (Nat.pow_pos (Nat.pos_of_ne_zero q.den_nz))) h1 h2 g (by omega) (by omega))
  rw [ratOf_pow, ← powR_pos q n hneg] at TW
  rw [hs] at T TW
  have hodd := odd_mod n hneg
  obtain ⟨od, hod⟩ : ∃ b, decide (n.natAbs % 2 = 1) = b := ⟨_, rfl⟩
  rw [hod] at hodd TW
  simp only [Bool.false_and] at TW
  have hnot : ∀ (x : Bool) (w : World), (Op.unary .not (.bool x)).run Tryz.prog w = .ok (.bool (!x)) w := fun _ _ => rfl
  obtain ⟨rx, ry, rc, hw⟩ := wroteV_shape (powR q n)
  rw [hw] at TW ⊢
  obtain ⟨u, hu⟩ : ∃ u, up q ^ n.natAbs = u := ⟨_, rfl⟩
  obtain ⟨d, hd⟩ : ∃ d, q.den ^ n.natAbs = d := ⟨_, rfl⟩
  rw [hu] at P1 TW
  rw [hd] at P2 TW
  have d0 : decide (n < 0) = false := decide_eq_false hneg
  clear hw hod hu hd hl1 hl2 hs
  rw [fracV_is q] at T ⊢
  have hb : Below w.heap.size w ((w.alloc (.cells #[.string (numS q), .string (denS q)] 24)).alloc (.cells #[.string { data := #[] }, .string { data := #[] }] 24)) := ((Below.refl _ _).alloc (Nat.le_refl _) _).alloc (by simp) _
  have hr := heap_alloc_new (w.alloc (.cells #[.string (numS q), .string (denS q)] 24)) (.cells #[.string { data := #[] }, .string { data := #[] }] 24)
  rw [World.size_alloc] at hr
  have HR := Lib.hid hr
  have HL := Lib.hid hb
  have HT := Lib.hid (ht.below hb)
  have HT0 := Lib.hid ht
  clear hb hr ht hq
  go_enter Tryz.func191, Tryz.ntmps191
  go_wp2_with fail
  refine (T.out _).mono ?_
  rintro e W1 ⟨A1, L1, C1, A2, L2, C2, rfl, ⟨h1, h2⟩, hb⟩
  have N1 := Lib.hid h1
  have N2 := Lib.hid h2
  clear h1 h2
  replace HR := Lib.hid (keep_block HR.out hb)
  replace HT := Lib.hid (HT.out.below hb)
  replace HL := Lib.hid (HL.out.trans (hb.mono HL.out.size))
  clear hb
  have hb : Below W1.heap.size W1 (W1.alloc (.cells #[.bool false, .slice A1 L1 C1, .slice A2 L2 C2] 53)) := (Below.refl _ _).alloc (Nat.le_refl _) _
  have HX := Lib.hid (heap_alloc_new W1 (.cells #[.bool false, .slice A1 L1 C1, .slice A2 L2 C2] 53))
  have HW1 := Lib.hid HL.out.size
  have HLT := Lib.hid (heap_lt HR.out)
  replace HR := Lib.hid (keep_block HR.out hb)
  replace HT := Lib.hid (HT.out.below hb)
  replace N1 := Lib.hid (N1.out.below hb)
  replace N2 := Lib.hid (N2.out.below hb)
  replace HL := Lib.hid (HL.out.trans (hb.mono HL.out.size))
  clear hb
  obtain ⟨W2, hW2⟩ : ∃ Z, W1.alloc (.cells #[.bool false, .slice A1 L1 C1, .slice A2 L2 C2] 53) = Z := ⟨_, rfl⟩
  rw [hW2] at HX HR HT N1 N2 HL
  have EW2 := Lib.hid hW2
  clear hW2
  obtain ⟨⟨x0, x1, x2⟩, xf0, xf1, xf2⟩ := three_at HX.out
  go_wp2_with fail
  rw [EW2.out]
  refine (P1.out _ _ N1.out).mono ?_
  rintro e W3 ⟨A3, L3, C3, rfl, h3, hb⟩
  have N3 := Lib.hid h3
  clear h3 x0 x1 x2 xf0 xf1 xf2
  replace HR := Lib.hid (keep_block HR.out hb)
  replace HX := Lib.hid (keep_block HX.out hb)
  replace HT := Lib.hid (HT.out.below hb)
  replace N2 := Lib.hid (N2.out.below hb)
  replace HL := Lib.hid (HL.out.trans (hb.mono HL.out.size))
  clear hb
  obtain ⟨⟨x0, x1, x2⟩, xf0, xf1, xf2⟩ := three_at HX.out
  go_wp2_with fail
  refine (P2.out _ _ N2.out).mono ?_
  rintro e W4 ⟨A4, L4, C4, rfl, h4, hb⟩
  have N4 := Lib.hid h4
  clear h4 x0 x1 x2 xf0 xf1 xf2
  replace HR := Lib.hid (keep_block HR.out hb)
  replace HX := Lib.hid (keep_block HX.out hb)
  replace HT := Lib.hid (HT.out.below hb)
  replace N3 := Lib.hid (N3.out.below hb)
  replace HL := Lib.hid (HL.out.trans (hb.mono HL.out.size))
  clear hb
  obtain ⟨⟨x0, x1, x2⟩, xf0, xf1, xf2⟩ := three_at HX.out
  go_wp2_with fail
  refine (TW.out _ _ _ N3.out N4.out HT.out).mono ?_
  rintro e W5 ⟨rfl, hb⟩
  replace HR := Lib.hid (keep_block HR.out hb)
  replace HL := Lib.hid (HL.out.trans (hb.mono HL.out.size))
  clear hb
  obtain ⟨⟨r0, r1⟩, rf0, rf1⟩ := two_at HR.out
  obtain ⟨nb, e0, e1⟩ := frac_end (x := .string rx) (y := .string ry) HR.out HL.out (by omega)
  go_wp2
  refine bodyPost_ret (v := .tuple #[.agg #[.string rx, .string ry], .int .i64 rc]) (by simp [results, Tryz.results191, go_sem, e0, e1]) rfl ⟨rfl, nb⟩

set_option maxHeartbeats 4000000 in
set_option maxRecDepth 100000 in
theorem powerQ_pm (q : Rat) (n : Int) (w : World) (hq : fits q = true) (hneg : ¬ n < 0) (hs : neg q = true) (hn0 : -1000000 ≤ n) (hn1 : n ≤ 1000000) (hl1 : (digs LB (up q ^ n.natAbs)).length ≤ 34) (hl2 : (digs LB (q.den ^ n.natAbs)).length ≤ 34) (ht : Tab w) :
    Calls Tryz.prog 191 #[fracV q, .int .i64 n] w fun e w' => e = .returned (wroteV (powR q n)) ∧ Below w.heap.size w w' := by
  have T := Lib.hid (fun W => read_s q W hq)
  have P1 := Lib.hid (fun W v h => power_s v (up q) n W h hn0 hn1 hl1)
  have P2 := Lib.hid (fun W v h => power_s v q.den n W h hn0 hn1 hl2)
  have TW := Lib.hid (fun W v1 v2 h1 h2 g => numWrite_any (neg q && decide (n.natAbs % 2 = 1)) v1 v2 (up q ^ n.natAbs) (q.den ^ n.natAbs) W (Nat.pos_iff_ne_zero.1 (Nat.pow_pos (Nat.pos_of_ne_zero q.den_nz))) h1 h2 g (by omega) (by omega))
  rw [ratOf_pow, ← powR_pos q n hneg] at TW
  rw [hs] at T TW
  have hodd := odd_mod n hneg
  obtain ⟨od, hod⟩ : ∃ b, decide (n.natAbs % 2 = 1) = b := ⟨_, rfl⟩
  rw [hod] at hodd TW
  simp only [Bool.true_and] at TW
  have hnot : ∀ (x : Bool) (w : World), (Op.unary .not (.bool x)).run Tryz.prog w = .ok (.bool (!x)) w := fun _ _ => rfl
  obtain ⟨rx, ry, rc, hw⟩ := wroteV_shape (powR q n)
  rw [hw] at TW ⊢
  obtain ⟨u, hu⟩ : ∃ u, up q ^ n.natAbs = u := ⟨_, rfl⟩
  obtain ⟨d, hd⟩ : ∃ d, q.den ^ n.natAbs = d := ⟨_, rfl⟩
  rw [hu] at P1 TW
  rw [hd] at P2 TW
  have d0 : decide (n < 0) = false := decide_eq_false hneg
  clear hw hod hu hd hl1 hl2 hs
  rw [fracV_is q] at T ⊢
  have hb : Below w.heap.size w ((w.alloc (.cells #[.string (numS q), .string (denS q)] 24)).alloc (.cells #[.string { data := #[] }, .string { data := #[] }] 24)) := ((Below.refl _ _).alloc (Nat.le_refl _) _).alloc (by simp) _
  have hr := heap_alloc_new (w.alloc (.cells #[.string (numS q), .string (denS q)] 24)) (.cells #[.string { data := #[] }, .string { data := #[] }] 24)
  rw [World.size_alloc] at hr
  have HR := Lib.hid hr
  have HL := Lib.hid hb
  have HT := Lib.hid (ht.below hb)
  have HT0 := Lib.hid ht
  clear hb hr ht hq
  go_enter Tryz.func191, Tryz.ntmps191
  go_wp2_with fail
  refine (T.out _).mono ?_
  rintro e W1 ⟨A1, L1, C1, A2, L2, C2, rfl, ⟨h1, h2⟩, hb⟩
  have N1 := Lib.hid h1
  have N2 := Lib.hid h2
  clear h1 h2
  replace HR := Lib.hid (keep_block HR.out hb)
  replace HT := Lib.hid (HT.out.below hb)
  replace HL := Lib.hid (HL.out.trans (hb.mono HL.out.size))
  clear hb
  have hb : Below W1.heap.size W1 (W1.alloc (.cells #[.bool true, .slice A1 L1 C1, .slice A2 L2 C2] 53)) := (Below.refl _ _).alloc (Nat.le_refl _) _
  have HX := Lib.hid (heap_alloc_new W1 (.cells #[.bool true, .slice A1 L1 C1, .slice A2 L2 C2] 53))
  have HW1 := Lib.hid HL.out.size
  have HLT := Lib.hid (heap_lt HR.out)
  replace HR := Lib.hid (keep_block HR.out hb)
  replace HT := Lib.hid (HT.out.below hb)
  replace N1 := Lib.hid (N1.out.below hb)
  replace N2 := Lib.hid (N2.out.below hb)
  replace HL := Lib.hid (HL.out.trans (hb.mono HL.out.size))
  clear hb
  obtain ⟨W2, hW2⟩ : ∃ Z, W1.alloc (.cells #[.bool true, .slice A1 L1 C1, .slice A2 L2 C2] 53) = Z := ⟨_, rfl⟩
  rw [hW2] at HX HR HT N1 N2 HL
  have EW2 := Lib.hid hW2
  clear hW2
  obtain ⟨⟨x0, x1, x2⟩, xf0, xf1, xf2⟩ := three_at HX.out
  go_wp2_with fail
  rw [EW2.out]
  refine (P1.out _ _ N1.out).mono ?_
  rintro e W3 ⟨A3, L3, C3, rfl, h3, hb⟩
  have N3 := Lib.hid h3
  clear h3 x0 x1 x2 xf0 xf1 xf2
  replace HR := Lib.hid (keep_block HR.out hb)
  replace HX := Lib.hid (keep_block HX.out hb)
  replace HT := Lib.hid (HT.out.below hb)
  replace N2 := Lib.hid (N2.out.below hb)
  replace HL := Lib.hid (HL.out.trans (hb.mono HL.out.size))
  clear hb
  obtain ⟨⟨x0, x1, x2⟩, xf0, xf1, xf2⟩ := three_at HX.out
  go_wp2_with fail
  refine (P2.out _ _ N2.out).mono ?_
  rintro e W4 ⟨A4, L4, C4, rfl, h4, hb⟩
  have N4 := Lib.hid h4
  clear h4 x0 x1 x2 xf0 xf1 xf2
  replace HR := Lib.hid (keep_block HR.out hb)
  replace HX := Lib.hid (keep_block HX.out hb)
  replace HT := Lib.hid (HT.out.below hb)
  replace N3 := Lib.hid (N3.out.below hb)
  replace HL := Lib.hid (HL.out.trans (hb.mono HL.out.size))
  clear hb
  obtain ⟨⟨x0, x1, x2⟩, xf0, xf1, xf2⟩ := three_at HX.out
  go_wp2_with fail
  refine (TW.out _ _ _ N3.out N4.out HT.out).mono ?_
  rintro e W5 ⟨rfl, hb⟩
  replace HR := Lib.hid (keep_block HR.out hb)
  replace HL := Lib.hid (HL.out.trans (hb.mono HL.out.size))
  clear hb
  obtain ⟨⟨r0, r1⟩, rf0, rf1⟩ := two_at HR.out
  obtain ⟨nb, e0, e1⟩ := frac_end (x := .string rx) (y := .string ry) HR.out HL.out (by omega)
  go_wp2
  refine bodyPost_ret (v := .tuple #[.agg #[.string rx, .string ry], .int .i64 rc]) (by simp [results, Tryz.results191, go_sem, e0, e1]) rfl ⟨rfl, nb⟩

set_option maxHeartbeats 4000000 in
set_option maxRecDepth 100000 in
theorem powerQ_np (q : Rat) (n : Int) (w : World) (hq : fits q = true) (hneg : n < 0) (hs : neg q = false) (hq0 : n < 0 → q ≠ 0) (hn0 : -1000000 ≤ n) (hn1 : n ≤ 1000000) (hl1 : (digs LB (up q ^ n.natAbs)).length ≤ 34) (hl2 : (digs LB (q.den ^ n.natAbs)).length ≤ 34) (ht : Tab w) :
    Calls Tryz.prog 191 #[fracV q, .int .i64 n] w fun e w' => e = .returned (wroteV (powR q n)) ∧ Below w.heap.size w w' := by
  have T := Lib.hid (fun W => read_s q W hq)
  have P1 := Lib.hid (fun W v h => power_s v (up q) n W h hn0 hn1 hl1)
  have P2 := Lib.hid (fun W v h => power_s v q.den n W h hn0 hn1 hl2)
  have TW := Lib.hid (fun W v1 v2 h1 h2 g => numWrite_any (neg q && decide (n.natAbs % 2 = 1)) v1 v2 (q.den ^ n.natAbs) (up q ^ n.natAbs) W (Nat.pos_iff_ne_zero.1 (Nat.pow_pos (Nat.pos_of_ne_zero (fun e => hq0 hneg ((up_zero q).1 e))))) h1 h2 g (by omega) (by omega))
  rw [ratOf_pow_inv q n.natAbs (hq0 hneg), ← powR_neg q n hneg] at TW
  rw [hs] at T TW
  have hodd := odd_abs n
  have Z := Lib.hid (fun W v h => zero_any v (up q) W h)
  rw [decide_eq_false (fun e => hq0 hneg ((up_zero q).1 e))] at Z
  obtain ⟨od, hod⟩ : ∃ b, decide (n.natAbs % 2 = 1) = b := ⟨_, rfl⟩
  rw [hod] at hodd TW
  simp only [Bool.false_and] at TW
  have hnot : ∀ (x : Bool) (w : World), (Op.unary .not (.bool x)).run Tryz.prog w = .ok (.bool (!x)) w := fun _ _ => rfl
  obtain ⟨rx, ry, rc, hw⟩ := wroteV_shape (powR q n)
  rw [hw] at TW ⊢
  obtain ⟨u, hu⟩ : ∃ u, up q ^ n.natAbs = u := ⟨_, rfl⟩
  obtain ⟨d, hd⟩ : ∃ d, q.den ^ n.natAbs = d := ⟨_, rfl⟩
  rw [hu] at P1 TW
  rw [hd] at P2 TW
  have d0 : decide (n < 0) = true := decide_eq_true hneg
  clear hw hod hu hd hl1 hl2 hs
  rw [fracV_is q] at T ⊢
  have hb : Below w.heap.size w ((w.alloc (.cells #[.string (numS q), .string (denS q)] 24)).alloc (.cells #[.string { data := #[] }, .string { data := #[] }] 24)) := ((Below.refl _ _).alloc (Nat.le_refl _) _).alloc (by simp) _
  have hr := heap_alloc_new (w.alloc (.cells #[.string (numS q), .string (denS q)] 24)) (.cells #[.string { data := #[] }, .string { data := #[] }] 24)
  rw [World.size_alloc] at hr
  have HR := Lib.hid hr
  have HL := Lib.hid hb
  have HT := Lib.hid (ht.below hb)
  have HT0 := Lib.hid ht
  clear hb hr ht hq
  go_enter Tryz.func191, Tryz.ntmps191
  go_wp2_with fail
  refine (T.out _).mono ?_
  rintro e W1 ⟨A1, L1, C1, A2, L2, C2, rfl, ⟨h1, h2⟩, hb⟩
  have N1 := Lib.hid h1
  have N2 := Lib.hid h2
  clear h1 h2
  replace HR := Lib.hid (keep_block HR.out hb)
  replace HT := Lib.hid (HT.out.below hb)
  replace HL := Lib.hid (HL.out.trans (hb.mono HL.out.size))
  clear hb
  have hb : Below W1.heap.size W1 (W1.alloc (.cells #[.bool false, .slice A1 L1 C1, .slice A2 L2 C2] 53)) := (Below.refl _ _).alloc (Nat.le_refl _) _
  have HX := Lib.hid (heap_alloc_new W1 (.cells #[.bool false, .slice A1 L1 C1, .slice A2 L2 C2] 53))
  have HW1 := Lib.hid HL.out.size
  have HLT := Lib.hid (heap_lt HR.out)
  replace HR := Lib.hid (keep_block HR.out hb)
  replace HT := Lib.hid (HT.out.below hb)
  replace N1 := Lib.hid (N1.out.below hb)
  replace N2 := Lib.hid (N2.out.below hb)
  replace HL := Lib.hid (HL.out.trans (hb.mono HL.out.size))
  clear hb
  obtain ⟨W2, hW2⟩ : ∃ Z, W1.alloc (.cells #[.bool false, .slice A1 L1 C1, .slice A2 L2 C2] 53) = Z := ⟨_, rfl⟩
  rw [hW2] at HX HR HT N1 N2 HL
  have EW2 := Lib.hid hW2
  clear hW2
  obtain ⟨⟨x0, x1, x2⟩, xf0, xf1, xf2⟩ := three_at HX.out
  go_wp2_with fail
  rw [EW2.out]
  refine (Z.out _ _ N1.out).mono ?_
  rintro e W3 ⟨rfl, rfl⟩
  have hne : w.heap.size + 1 ≠ W1.heap.size := Nat.ne_of_lt HLT.out
  have n1 : NatAt ((W3.setCell ⟨W1.heap.size, 1, none⟩ (.slice A2 L2 C2)).setCell ⟨W1.heap.size, 2, none⟩ (.slice A1 L1 C1)) (.slice A1 L1 C1) (up q) := N1.out.same (fun k hk => swap_other W3 W1.heap.size (.slice A2 L2 C2) (.slice A1 L1 C1) hk) (three_nolimb HX.out)
  have n2 : NatAt ((W3.setCell ⟨W1.heap.size, 1, none⟩ (.slice A2 L2 C2)).setCell ⟨W1.heap.size, 2, none⟩ (.slice A1 L1 C1)) (.slice A2 L2 C2) q.den := N2.out.same (fun k hk => swap_other W3 W1.heap.size (.slice A2 L2 C2) (.slice A1 L1 C1) hk) (three_nolimb HX.out)
  have hx2 := swap_at HX.out (.slice A2 L2 C2) (.slice A1 L1 C1)
  have hr2 := (swap_other W3 W1.heap.size (.slice A2 L2 C2) (.slice A1 L1 C1) hne).trans HR.out
  have hl2 := swap_below HL.out HW1.out (.slice A2 L2 C2) (.slice A1 L1 C1)
  obtain ⟨W4, hW4⟩ : ∃ Z, (W3.setCell ⟨W1.heap.size, 1, none⟩ (.slice A2 L2 C2)).setCell ⟨W1.heap.size, 2, none⟩ (.slice A1 L1 C1) = Z := ⟨_, rfl⟩
  rw [hW4] at n1 n2 hx2 hr2 hl2
  replace N1 := Lib.hid n1
  replace N2 := Lib.hid n2
  have HX2 := Lib.hid hx2
  replace HR := Lib.hid hr2
  replace HL := Lib.hid hl2
  replace HT := Lib.hid (HT0.out.below hl2)
  have EW4 := Lib.hid hW4
  clear n1 n2 hx2 hr2 hl2 hW4
  go_wp2_with fail
  rw [EW4.out]
  refine (P2.out _ _ N2.out).mono ?_
  rintro e W5 ⟨A3, L3, C3, rfl, h3, hb⟩
  have N3 := Lib.hid h3
  clear h3 x0 x1 x2 xf0 xf1 xf2
  replace HR := Lib.hid (keep_block HR.out hb)
  replace HX2 := Lib.hid (keep_block HX2.out hb)
  replace HT := Lib.hid (HT.out.below hb)
  replace N1 := Lib.hid (N1.out.below hb)
  replace HL := Lib.hid (HL.out.trans (hb.mono HL.out.size))
  clear hb
  obtain ⟨⟨x0, x1, x2⟩, xf0, xf1, xf2⟩ := three_at HX2.out
  go_wp2_with fail
  refine (P1.out _ _ N1.out).mono ?_
  rintro e W6 ⟨A4, L4, C4, rfl, h4, hb⟩
  have N4 := Lib.hid h4
  clear h4 x0 x1 x2 xf0 xf1 xf2
  replace HR := Lib.hid (keep_block HR.out hb)
  replace HX2 := Lib.hid (keep_block HX2.out hb)
  replace HT := Lib.hid (HT.out.below hb)
  replace N3 := Lib.hid (N3.out.below hb)
  replace HL := Lib.hid (HL.out.trans (hb.mono HL.out.size))
  clear hb
  obtain ⟨⟨x0, x1, x2⟩, xf0, xf1, xf2⟩ := three_at HX2.out
  go_wp2_with fail
  refine (TW.out _ _ _ N3.out N4.out HT.out).mono ?_
  rintro e W7 ⟨rfl, hb⟩
  replace HR := Lib.hid (keep_block HR.out hb)
  replace HL := Lib.hid (HL.out.trans (hb.mono HL.out.size))
  clear hb
  obtain ⟨⟨r0, r1⟩, rf0, rf1⟩ := two_at HR.out
  obtain ⟨nb, e0, e1⟩ := frac_end (x := .string rx) (y := .string ry) HR.out HL.out (by omega)
  go_wp2
  refine bodyPost_ret (v := .tuple #[.agg #[.string rx, .string ry], .int .i64 rc]) (by simp [results, Tryz.results191, go_sem, e0, e1]) rfl ⟨rfl, nb⟩

set_option maxHeartbeats 4000000 in
set_option maxRecDepth 100000 in
theorem powerQ_nm (q : Rat) (n : Int) (w : World) (hq : fits q = true) (hneg : n < 0) (hs : neg q = true) (hq0 : n < 0 → q ≠ 0) (hn0 : -1000000 ≤ n) (hn1 : n ≤ 1000000) (hl1 : (digs LB (up q ^ n.natAbs)).length ≤ 34) (hl2 : (digs LB (q.den ^ n.natAbs)).length ≤ 34) (ht : Tab w) :
    Calls Tryz.prog 191 #[fracV q, .int .i64 n] w fun e w' => e = .returned (wroteV (powR q n)) ∧ Below w.heap.size w w' := by
  have T := Lib.hid (fun W => read_s q W hq)
  have P1 := Lib.hid (fun W v h => power_s v (up q) n W h hn0 hn1 hl1)
  have P2 := Lib.hid (fun W v h => power_s v q.den n W h hn0 hn1 hl2)
  have TW := Lib.hid (fun W v1 v2 h1 h2 g => numWrite_any (neg q && decide (n.natAbs % 2 = 1)) v1 v2 (q.den ^ n.natAbs) (up q ^ n.natAbs) W (Nat.pos_iff_ne_zero.1 (Nat.pow_pos (Nat.pos_of_ne_zero (fun e => hq0 hneg ((up_zero q).1 e))))) h1 h2 g (by omega) (by omega))
  rw [ratOf_pow_inv q n.natAbs (hq0 hneg), ← powR_neg q n hneg] at TW
  rw [hs] at T TW
  have hodd := odd_abs n
  have Z := Lib.hid (fun W v h => zero_any v (up q) W h)
  rw [decide_eq_false (fun e => hq0 hneg ((up_zero q).1 e))] at Z
  obtain ⟨od, hod⟩ : ∃ b, decide (n.natAbs % 2 = 1) = b := ⟨_, rfl⟩
  rw [hod] at hodd TW
  simp only [Bool.true_and] at TW
  have hnot : ∀ (x : Bool) (w : World), (Op.unary .not (.bool x)).run Tryz.prog w = .ok (.bool (!x)) w := fun _ _ => rfl
  obtain ⟨rx, ry, rc, hw⟩ := wroteV_shape (powR q n)
  rw [hw] at TW ⊢
  obtain ⟨u, hu⟩ : ∃ u, up q ^ n.natAbs = u := ⟨_, rfl⟩
  obtain ⟨d, hd⟩ : ∃ d, q.den ^ n.natAbs = d := ⟨_, rfl⟩
  rw [hu] at P1 TW
  rw [hd] at P2 TW
  have d0 : decide (n < 0) = true := decide_eq_true hneg
  clear hw hod hu hd hl1 hl2 hs
  rw [fracV_is q] at T ⊢
  have hb : Below w.heap.size w ((w.alloc (.cells #[.string (numS q), .string (denS q)] 24)).alloc (.cells #[.string { data := #[] }, .string { data := #[] }] 24)) := ((Below.refl _ _).alloc (Nat.le_refl _) _).alloc (by simp) _
  have hr := heap_alloc_new (w.alloc (.cells #[.string (numS q), .string (denS q)] 24)) (.cells #[.string { data := #[] }, .string { data := #[] }] 24)
  rw [World.size_alloc] at hr
  have HR := Lib.hid hr
  have HL := Lib.hid hb
  have HT := Lib.hid (ht.below hb)
  have HT0 := Lib.hid ht
  clear hb hr ht hq
  go_enter Tryz.func191, Tryz.ntmps191
  go_wp2_with fail
  refine (T.out _).mono ?_
  rintro e W1 ⟨A1, L1, C1, A2, L2, C2, rfl, ⟨h1, h2⟩, hb⟩
  have N1 := Lib.hid h1
  have N2 := Lib.hid h2
  clear h1 h2
  replace HR := Lib.hid (keep_block HR.out hb)
  replace HT := Lib.hid (HT.out.below hb)
  replace HL := Lib.hid (HL.out.trans (hb.mono HL.out.size))
  clear hb
  have hb : Below W1.heap.size W1 (W1.alloc (.cells #[.bool true, .slice A1 L1 C1, .slice A2 L2 C2] 53)) := (Below.refl _ _).alloc (Nat.le_refl _) _
  have HX := Lib.hid (heap_alloc_new W1 (.cells #[.bool true, .slice A1 L1 C1, .slice A2 L2 C2] 53))
  have HW1 := Lib.hid HL.out.size
  have HLT := Lib.hid (heap_lt HR.out)
  replace HR := Lib.hid (keep_block HR.out hb)
  replace HT := Lib.hid (HT.out.below hb)
  replace N1 := Lib.hid (N1.out.below hb)
  replace N2 := Lib.hid (N2.out.below hb)
  replace HL := Lib.hid (HL.out.trans (hb.mono HL.out.size))
  clear hb
  obtain ⟨W2, hW2⟩ : ∃ Z, W1.alloc (.cells #[.bool true, .slice A1 L1 C1, .slice A2 L2 C2] 53) = Z := ⟨_, rfl⟩
  rw [hW2] at HX HR HT N1 N2 HL
  have EW2 := Lib.hid hW2
  clear hW2
  obtain ⟨⟨x0, x1, x2⟩, xf0, xf1, xf2⟩ := three_at HX.out
  go_wp2_with fail
  rw [EW2.out]
  refine (Z.out _ _ N1.out).mono ?_
  rintro e W3 ⟨rfl, rfl⟩
  have hne : w.heap.size + 1 ≠ W1.heap.size := Nat.ne_of_lt HLT.out
  have n1 : NatAt ((W3.setCell ⟨W1.heap.size, 1, none⟩ (.slice A2 L2 C2)).setCell ⟨W1.heap.size, 2, none⟩ (.slice A1 L1 C1)) (.slice A1 L1 C1) (up q) := N1.out.same (fun k hk => swap_other W3 W1.heap.size (.slice A2 L2 C2) (.slice A1 L1 C1) hk) (three_nolimb HX.out)
  have n2 : NatAt ((W3.setCell ⟨W1.heap.size, 1, none⟩ (.slice A2 L2 C2)).setCell ⟨W1.heap.size, 2, none⟩ (.slice A1 L1 C1)) (.slice A2 L2 C2) q.den := N2.out.same (fun k hk => swap_other W3 W1.heap.size (.slice A2 L2 C2) (.slice A1 L1 C1) hk) (three_nolimb HX.out)
  have hx2 := swap_at HX.out (.slice A2 L2 C2) (.slice A1 L1 C1)
  have hr2 := (swap_other W3 W1.heap.size (.slice A2 L2 C2) (.slice A1 L1 C1) hne).trans HR.out
  have hl2 := swap_below HL.out HW1.out (.slice A2 L2 C2) (.slice A1 L1 C1)
  obtain ⟨W4, hW4⟩ : ∃ Z, (W3.setCell ⟨W1.heap.size, 1, none⟩ (.slice A2 L2 C2)).setCell ⟨W1.heap.size, 2, none⟩ (.slice A1 L1 C1) = Z := ⟨_, rfl⟩
  rw [hW4] at n1 n2 hx2 hr2 hl2
  replace N1 := Lib.hid n1
  replace N2 := Lib.hid n2
  have HX2 := Lib.hid hx2
  replace HR := Lib.hid hr2
  replace HL := Lib.hid hl2
  replace HT := Lib.hid (HT0.out.below hl2)
  have EW4 := Lib.hid hW4
  clear n1 n2 hx2 hr2 hl2 hW4
  go_wp2_with fail
  rw [EW4.out]
  refine (P2.out _ _ N2.out).mono ?_
  rintro e W5 ⟨A3, L3, C3, rfl, h3, hb⟩
  have N3 := Lib.hid h3
  clear h3 x0 x1 x2 xf0 xf1 xf2
  replace HR := Lib.hid (keep_block HR.out hb)
  replace HX2 := Lib.hid (keep_block HX2.out hb)
  replace HT := Lib.hid (HT.out.below hb)
  replace N1 := Lib.hid (N1.out.below hb)
  replace HL := Lib.hid (HL.out.trans (hb.mono HL.out.size))
  clear hb
  obtain ⟨⟨x0, x1, x2⟩, xf0, xf1, xf2⟩ := three_at HX2.out
  go_wp2_with fail
  refine (P1.out _ _ N1.out).mono ?_
  rintro e W6 ⟨A4, L4, C4, rfl, h4, hb⟩
  have N4 := Lib.hid h4
  clear h4 x0 x1 x2 xf0 xf1 xf2
  replace HR := Lib.hid (keep_block HR.out hb)
  replace HX2 := Lib.hid (keep_block HX2.out hb)
  replace HT := Lib.hid (HT.out.below hb)
  replace N3 := Lib.hid (N3.out.below hb)
  replace HL := Lib.hid (HL.out.trans (hb.mono HL.out.size))
  clear hb
  obtain ⟨⟨x0, x1, x2⟩, xf0, xf1, xf2⟩ := three_at HX2.out
  go_wp2_with fail
  refine (TW.out _ _ _ N3.out N4.out HT.out).mono ?_
  rintro e W7 ⟨rfl, hb⟩
  replace HR := Lib.hid (keep_block HR.out hb)
  replace HL := Lib.hid (HL.out.trans (hb.mono HL.out.size))
  clear hb
  obtain ⟨⟨r0, r1⟩, rf0, rf1⟩ := two_at HR.out
  obtain ⟨nb, e0, e1⟩ := frac_end (x := .string rx) (y := .string ry) HR.out HL.out (by omega)
  go_wp2
  refine bodyPost_ret (v := .tuple #[.agg #[.string rx, .string ry], .int .i64 rc]) (by simp [results, Tryz.results191, go_sem, e0, e1]) rfl ⟨rfl, nb⟩

theorem powerQ_any (q : Rat) (n : Int) (w : World) (hq : fits q = true) (hq0 : n < 0 → q ≠ 0) (hn0 : -1000000 ≤ n) (hn1 : n ≤ 1000000) (hl1 : (digs LB (up q ^ n.natAbs)).length ≤ 34) (hl2 : (digs LB (q.den ^ n.natAbs)).length ≤ 34) (ht : Tab w) :
    Calls Tryz.prog 191 #[fracV q, .int .i64 n] w fun e w' => e = .returned (wroteV (powR q n)) ∧ Below w.heap.size w w' := by
  by_cases hneg : n < 0
  · cases hs : neg q with
    | true => exact powerQ_nm q n w hq hneg hs hq0 hn0 hn1 hl1 hl2 ht
    | false => exact powerQ_np q n w hq hneg hs hq0 hn0 hn1 hl1 hl2 ht
  · cases hs : neg q with
    | true => exact powerQ_pm q n w hq hneg hs hn0 hn1 hl1 hl2 ht
    | false => exact powerQ_pp q n w hq hneg hs hn0 hn1 hl1 hl2 ht
/-- bounds in digits are bounds in limbs -/
theorem limbs34 {n : Nat} (h : n < 10 ^ 300) : (digs LB n).length ≤ 34 := digs_len_le LB_two (Nat.lt_of_lt_of_le h (by decide +kernel))
end Go.Proofs.YtemdjmaakajhjaaGreatDoor.Num

/- package fstat: binomial coefficients, BINOMDIST and HYPGEOMDIST at whole numbers. Conditions: at most 20 tries, chances in tenths, 30 in all; the tables lie as they are laid. -/
namespace Go.Proofs.YtemdjmaakajhjaaGreatDoor.Num.Ft
open Go.RowKit Go.Lib Go.MapKept Num

theorem nat_fits {n A : Nat} (h : n ≤ A) (hA : A < 10 ^ 300) : fits ((n : Nat) : Rat) = true := by
  have e : ((n : Nat) : Rat) = (((n : Nat) : Int) : Rat) := (Rat.intCast_natCast n).symm
  rw [e]
  exact (Sm.int ((n : Nat) : Int) (A := A) (by rw [Int.natAbs_natCast]; exact h)).fits hA (by decide +kernel)
/-- a binomial coefficient -/
theorem choose_num {n k : Nat} (hk : k ≤ n) (hn : n ≤ 30) : Fun2 273 (.int .i64 (n : Int)) (.int .i64 (k : Int)) (fracV ((choose n k : Nat) : Rat)) := fun W g => by
  have h31 : ∀ i, i ≤ k → choose (n - k + i) i * (n - k + (i + 1)) ≤ 2 ^ 200 * 31 := fun i hi => Nat.mul_le_mul (choose_small (by omega)) (by omega)
  have fS : ∀ i, i ≤ k → fits ((choose (n - k + i) i : Nat) : Rat) = true := fun i hi => nat_fits (A := 2 ^ 200) (choose_small (by omega)) (by decide +kernel)
  have T := choose_walk n k 1 (fun i => ((choose (n - k + i) i : Nat) : Rat)) (fun i => ((n - k + (i + 1) : Nat) : Rat)) (fun i => ((i + 1 : Nat) : Rat)) (fun i => ((choose (n - k + i) i : Nat) : Rat) * ((n - k + (i + 1) : Nat) : Rat)) W (by omega) hk
    (c_of (n := 1) (by decide)) (by show ((choose (n - k + 0) 0 : Nat) : Rat) = 1; rw [choose_zero]; rfl)
    (fun i hi => ⟨by
      have e : (n : Int) - (k : Int) + ((i : Int) + 1) = ((n - k + (i + 1) : Nat) : Int) := by omega
      rw [e]
      have := c_of (n := ((n - k + (i + 1) : Nat) : Int)) (by omega)
      rw [Rat.intCast_natCast] at this
      exact this, by
      have e : (i : Int) + 1 = ((i + 1 : Nat) : Int) := by omega
      rw [e]
      have := c_of (n := ((i + 1 : Nat) : Int)) (by omega)
      rw [Rat.intCast_natCast] at this
      exact this⟩)
    (fun i hi => by
      have fP : fits ((n - k + (i + 1) : Nat) : Rat) = true := nat_fits (A := 100) (by omega) (by decide +kernel)
      have fQ : fits ((i + 1 : Nat) : Rat) = true := nat_fits (A := 100) (by omega) (by decide +kernel)
      have fM : fits (((choose (n - k + i) i : Nat) : Rat) * ((n - k + (i + 1) : Nat) : Rat)) = true := by
        rw [← Rat.natCast_mul]
        exact nat_fits (h31 i (by omega)) (by decide +kernel)
      exact ⟨c_mul (fS i (by omega)) fP fM rfl, c_div fM fQ (nat_ne (by omega)) (fS (i + 1) (by omega)) (choose_step (n - k) i)⟩) g
  have e : n - k + k = n := by omega
  rw [e] at T
  exact T
/-- a power -/
theorem c_power {q : Rat} {k : Nat} (hk : k ≤ 1000) (hq : fits q = true) (hr : fits (q ^ k) = true) (h1 : up q ^ k < 10 ^ 300) (h2 : q.den ^ k < 10 ^ 300) : Fun2 158 (fracV q) (.int .i64 (k : Int)) (fracV (q ^ k)) := fun W g =>
  power_walk q (q ^ k) (k : Int) W (fun W g => by
    have T := powerQ_any q (k : Int) W hq (fun h => absurd h (by omega)) (by omega) (by omega) (by rw [Int.natAbs_natCast]; exact limbs34 h1) (by rw [Int.natAbs_natCast]; exact limbs34 h2) g.tab
    have e : powR q (k : Int) = q ^ k := by unfold powR; rw [if_neg (by omega), Int.natAbs_natCast]
    rw [e, wroteV_ok hr] at T
    exact T) (fun W g => must_ok (q ^ k) W) g
theorem tenth_facts : ∀ p, p < 11 → fits (tenthR p) = true ∧ up (tenthR p) ≤ 10 ∧ (tenthR p).den ≤ 10 ∧ 0 ≤ cmpR (tenthR p) 0 ∧ cmpR (tenthR p) 1 ≤ 0 := by decide +kernel
theorem c_tenth {p k : Nat} (hp : p ≤ 10) (hk : k ≤ 20) : Fun2 158 (fracV (tenthR p)) (.int .i64 (k : Int)) (fracV (tenthR p ^ k)) := by
  obtain ⟨a, b, c, _, _⟩ := tenth_facts p (by omega)
  exact c_power (by omega) a ((tenth_pow_sm hp hk).fits (by decide +kernel) (by decide +kernel)) (Nat.lt_of_le_of_lt (pow_mono b hk (by decide)) (by decide +kernel)) (Nat.lt_of_le_of_lt (pow_mono c hk (by decide)) (by decide +kernel))
section
variable {n p k : Nat} (hn : n ≤ 20) (hp : p ≤ 10) (hk : k ≤ n)
include hn hp hk
theorem bin_parts (j : Nat) (hj : j ≤ k) : Fun2 273 (.int .i64 (n : Int)) (.int .i64 (j : Int)) (fracV ((choose n j : Nat) : Rat)) ∧ Fun2 158 (fracV (tenthR p)) (.int .i64 (j : Int)) (fracV (tenthR p ^ j)) ∧ Fun2 158 (fracV (1 - tenthR p)) (.int .i64 ((n : Int) - (j : Int))) (fracV ((1 - tenthR p) ^ (n - j))) := by
  refine ⟨choose_num (by omega) (by omega), c_tenth hp (by omega), ?_⟩
  rw [one_tenth hp, show (n : Int) - (j : Int) = ((n - j : Nat) : Int) by omega]
  exact c_tenth (by omega) (by omega)
theorem bin_prods (j : Nat) (hj : j ≤ k) : Fun2 144 (fracV (tenthR p ^ j)) (fracV ((1 - tenthR p) ^ (n - j))) (fracV (tenthR p ^ j * (1 - tenthR p) ^ (n - j))) ∧ Fun2 144 (fracV ((choose n j : Nat) : Rat)) (fracV (tenthR p ^ j * (1 - tenthR p) ^ (n - j))) (fracV (binR n p j)) := by
  have fA := (tenth_pow_sm (p := p) (k := j) hp (by omega)).fits (by decide +kernel) (by decide +kernel)
  have fB : fits ((1 - tenthR p) ^ (n - j)) = true := by
    rw [one_tenth hp]
    exact (tenth_pow_sm (p := 10 - p) (k := n - j) (by omega) (by omega)).fits (by decide +kernel) (by decide +kernel)
  have fP := (powers_sm (n := n) (p := p) (i := j) hp (by omega) hn).fits (by decide +kernel) (by decide +kernel)
  have fC : fits ((choose n j : Nat) : Rat) = true := nat_fits (A := 2 ^ 200) (choose_small (by omega)) (by decide +kernel)
  have fR := (binR_sm (n := n) (p := p) (i := j) hp (by omega) hn).fits (by decide +kernel) (by decide +kernel)
  exact ⟨c_mul fA fB fP rfl, c_mul fC fP fR (binR_is hp (by omega))⟩
omit hk in
theorem bins_fits {j : Nat} (hj : j ≤ n + 1) : fits (binsR n p j) = true := (binsR_sm hp hj hn).fits (by decide +kernel) (by decide +kernel)
theorem f_binom_one (q0 q1 : Rat) (b g C : Nat) (W : World) (hq0 : fits q0 = true) (hq1 : fits q1 = true) (hw0 : q0.floor = (k : Int)) (hw1 : q1.floor = (n : Int)) (ha : ArgsAt W b (some ⟨g, 0, none⟩) 4 C 0) (hne : g ≠ b) (hc0 : NumCells W g (0 + 0 * 9) q0) (hc1 : NumCells W g (0 + 1 * 9) q1) (hc2 : NumCells W g (0 + 2 * 9) (tenthR p)) (hc3 : CellsAt W g (0 + 3 * 9) (.int .i64 3) (.string { data := #[] }) (.string { data := #[] }) (.string { data := #[] }) (.bool false) (.int .i64 0) (.int .i64 0) (.int .i64 0) (.slice none 0 0)) (hE : EnvY W) (hP : Past b) :
    Calls Tryz.prog 182 #[.pointer (some ⟨b, 0, none⟩)] W fun e w' => e = .returned (fracV (binR n p k)) ∧ W.grownBy w' (some b) := by
  obtain ⟨f, _, _, s0, s1⟩ := tenth_facts p (by omega)
  obtain ⟨fr, _⟩ := tenth_facts (10 - p) (by omega)
  have fR := (binR_sm (n := n) (p := p) (i := k) hp hk hn).fits (by decide +kernel) (by decide +kernel)
  have T := binom_one n k q0 q1 (tenthR p) 1 0 (1 - tenthR p) _ _ (fun j => if j = k then 0 else binR n p k) (fun j => ((choose n j : Nat) : Rat)) (fun j => tenthR p ^ j) (fun j => (1 - tenthR p) ^ (n - j)) (fun j => tenthR p ^ j * (1 - tenthR p) ^ (n - j)) (fun j => binR n p j) b g C W hn hk hq0 hq1 f hw0 hw1
    (c_of (n := 1) (by decide)) (c_of (n := 0) (by decide)) (c_sign f) s0 (c_compare f f1) s1 (c_sub f1 f (by rw [one_tenth hp]; exact fr) rfl) (if_pos rfl)
    (fun j hj0 hj => bin_parts hn hp hk j hj)
    (fun j hj0 hj => by
      have e : j = k := by omega
      subst e
      have h := bin_prods hn hp hk j hj
      refine ⟨h.1, h.2, ?_⟩
      show Fun2 _ (fracV (if j = j then 0 else binR n p j)) _ (fracV (if j + 1 = j then 0 else binR n p j))
      rw [if_pos rfl, if_neg (by omega)]
      exact c_add f0 fR fR (Rat.zero_add _)) ha hne hc0 hc1 hc2 hc3 hE hP
  rw [if_neg (by omega)] at T
  exact T
theorem f_binom_all (q0 q1 : Rat) (b g C : Nat) (W : World) (hq0 : fits q0 = true) (hq1 : fits q1 = true) (hw0 : q0.floor = (k : Int)) (hw1 : q1.floor = (n : Int)) (ha : ArgsAt W b (some ⟨g, 0, none⟩) 4 C 0) (hne : g ≠ b) (hc0 : NumCells W g (0 + 0 * 9) q0) (hc1 : NumCells W g (0 + 1 * 9) q1) (hc2 : NumCells W g (0 + 2 * 9) (tenthR p)) (hc3 : CellsAt W g (0 + 3 * 9) (.int .i64 3) (.string { data := #[] }) (.string { data := #[] }) (.string { data := #[] }) (.bool true) (.int .i64 0) (.int .i64 0) (.int .i64 0) (.slice none 0 0)) (hE : EnvY W) (hP : Past b) :
    Calls Tryz.prog 182 #[.pointer (some ⟨b, 0, none⟩)] W fun e w' => e = .returned (fracV (binsR n p (k + 1))) ∧ W.grownBy w' (some b) := by
  obtain ⟨f, _, _, s0, s1⟩ := tenth_facts p (by omega)
  obtain ⟨fr, _⟩ := tenth_facts (10 - p) (by omega)
  exact binom_all n k q0 q1 (tenthR p) 1 0 (1 - tenthR p) _ _ (fun j => binsR n p j) (fun j => ((choose n j : Nat) : Rat)) (fun j => tenthR p ^ j) (fun j => (1 - tenthR p) ^ (n - j)) (fun j => tenthR p ^ j * (1 - tenthR p) ^ (n - j)) (fun j => binR n p j) b g C W hn hk hq0 hq1 f hw0 hw1
    (c_of (n := 1) (by decide)) (c_of (n := 0) (by decide)) (c_sign f) s0 (c_compare f f1) s1 (c_sub f1 f (by rw [one_tenth hp]; exact fr) rfl) (binsR_zero n p)
    (fun j hj0 hj => bin_parts hn hp hk j hj)
    (fun j hj0 hj => by
      have h := bin_prods hn hp hk j hj
      exact ⟨h.1, h.2, c_add (bins_fits hn hp (by omega)) ((binR_sm (n := n) (p := p) (i := j) hp (by omega) hn).fits (by decide +kernel) (by decide +kernel)) (bins_fits hn hp (by omega)) (binsR_succ n p j).symm⟩) ha hne hc0 hc1 hc2 hc3 hE hP
end
theorem hypR_is (n m k : Nat) : ((choose m k : Nat) : Rat) * ((choose (30 - m) (n - k) : Nat) : Rat) / ((choose 30 n : Nat) : Rat) = hypR n m k := by
  unfold hypR hypT
  rw [Rat.natCast_mul]
theorem f_hyper {n m k : Nat} (hn : n ≤ 20) (hk : k ≤ n) (hm : m ≤ 20) (hkm : k ≤ m) (hnk : n - k ≤ 30 - m) (q0 q1 q2 q3 : Rat) (b g C : Nat) (W : World) (hq0 : fits q0 = true) (hq1 : fits q1 = true) (hq2 : fits q2 = true) (hq3 : fits q3 = true) (hw0 : q0.floor = (k : Int)) (hw1 : q1.floor = (n : Int)) (hw2 : q2.floor = (m : Int)) (hw3 : q3.floor = (30 : Int)) (ha : ArgsAt W b (some ⟨g, 0, none⟩) 4 C 0) (hne : g ≠ b) (hc0 : NumCells W g (0 + 0 * 9) q0) (hc1 : NumCells W g (0 + 1 * 9) q1) (hc2 : NumCells W g (0 + 2 * 9) q2) (hc3 : NumCells W g (0 + 3 * 9) q3) (hE : EnvY W) (hP : Past b) :
    Calls Tryz.prog 183 #[.pointer (some ⟨b, 0, none⟩)] W fun e w' => e = .returned (fracV (hypR n m k)) ∧ W.grownBy w' (some b) := by
  have fx : fits ((choose m k : Nat) : Rat) = true := nat_fits (A := 2 ^ 200) (choose_small (by omega)) (by decide +kernel)
  have fy : fits ((choose (30 - m) (n - k) : Nat) : Rat) = true := nat_fits (A := 2 ^ 200) (choose_small (by omega)) (by decide +kernel)
  have fv : fits ((choose 30 n : Nat) : Rat) = true := nat_fits (A := 2 ^ 200) (choose_small (by decide)) (by decide +kernel)
  have fz : fits (((choose m k : Nat) : Rat) * ((choose (30 - m) (n - k) : Nat) : Rat)) = true := by
    rw [← Rat.natCast_mul]
    exact nat_fits (A := 2 ^ 200 * 2 ^ 200) (Nat.mul_le_mul (choose_small (by omega)) (choose_small (by omega))) (by decide +kernel)
  have hr : Sm (hypR n m k) (2 ^ 200 * 2 ^ 200) (2 ^ 200) := by
    refine ⟨((hypT n m k : Nat) : Int), choose 30 n, choose30_ne hn, ?_, ?_, choose_small (by decide)⟩
    · unfold hypR; rw [Rat.intCast_natCast]
    · rw [Int.natAbs_natCast]
      exact Nat.mul_le_mul (choose_small (by omega)) (choose_small (by omega))
  exact hyper_walk n k m q0 q1 q2 q3 _ _ _ _ _ b g C W hn hk hm hkm hnk hq0 hq1 hq2 hq3 hw0 hw1 hw2 hw3 (choose_num hkm (by omega))
    (by rw [show (30 : Int) - (m : Int) = ((30 - m : Nat) : Int) by omega, show (n : Int) - (k : Int) = ((n - k : Nat) : Int) by omega]; exact choose_num hnk (by omega))
    (c_mul fx fy fz rfl) (choose_num (n := 30) (by omega) (by decide)) (c_div fz fv (nat_ne (choose30_ne hn)) (hr.fits (by decide +kernel) (by decide +kernel)) (hypR_is n m k)) ha hne hc0 hc1 hc2 hc3 hE hP
/-- the law's stat at a row of single values -/
theorem stat_s (i : Nat) (r : Row) (hi : i < allRows.length) (hr : allRows[i] = r) (hraw : isRaw r.fn = false) (hkd : r.kinds = { data := #[115] }) (hfr : ∀ j (hj : j < i), (allRows[i].name == (allRows[j]'(by omega)).name) = false) (hnum : r.num = false) (eF : ∀ args w, (callFunc r.fn args).run Tryz.prog w = .ok (.enter r.fn args) w) (vs : List Val) (ab ao C : Nat) (q : Rat) (w : World) (h0 : 0 < vs.length) (h9 : vs.length ≤ 300) (hc1 : r.least ≤ vs.length) (hc2 : (vs.length : Int) ≤ r.most) (hno : ∀ v ∈ vs, (v.k == 5) = false) (hv : ValsAt w ab ao vs) (hE : Env w) (hq : fits q = true)
    (hC : ∀ v ∈ vs, ∀ W, Env W → Calls Tryz.prog 39 #[v.agg] W fun e w' => e = .returned (.int .i64 0) ∧ Below W.heap.size W w')
    (hF : ∀ W b g cap, Env W → Past b → ArgsAt W b (some ⟨g, 0, none⟩) vs.length cap 0 → ValsAt W g 0 vs → g ≠ b → Calls Tryz.prog r.fn #[.pointer (some ⟨b, 0, none⟩)] W fun e w' => e = .returned (fracV q) ∧ W.grownBy w' (some b)) :
    Calls Tryz.prog 9 #[.string r.name, .slice (some ⟨ab, ao, none⟩) vs.length C] w fun e w' => e = .returned (numVal q) ∧ Below w.heap.size w w' :=
  math_of r.name (.slice (some ⟨ab, ao, none⟩) vs.length C) (numVal' q) w ⟨_, _, _, rfl⟩ (fun W b hb hT =>
    run_s_val i r hi hr hraw hkd hfr vs b ab ao C (numVal' q) W h0 h9 hc1 hc2 hno (hv.below hb) (hE.below hb) hT ⟨rfl, rfl, rfl, rfl, rfl⟩ (fun W g => check_num q W hq g)
      (fun v hv' W' h => hC v hv' W' ((hE.below hb).below h))
      (fun W' e g cap _ hE' hfn hva => entryn2_val r g cap e vs q W' hnum hfn eF hE' hva hq (fun W'' b' _ hE'' hP _ _ ha hva' hne =>
        hF W'' b' g cap hE'' hP ha hva' hne) h0))
theorem floor_nat (n : Nat) : (((n : Nat) : Int) : Rat).floor = (n : Int) := Rat.floor_intCast _
theorem check_num' (q : Rat) (hq : fits q = true) (W : World) (g : Env W) : Calls Tryz.prog 39 #[(numVal' q).agg] W fun e w' => e = .returned (.int .i64 0) ∧ Below W.heap.size W w' := check_num q W hq g
/-- BINOMDIST -/
theorem s_BINOM (o : Bool) {n p k : Nat} (hn : n ≤ 20) (hp : p ≤ 10) (hk : k ≤ n) (ab ao C : Nat) (w : World) (hv : ValsAt w ab ao [numVal' ((k : Int) : Rat), numVal' ((n : Int) : Rat), numVal' (tenthR p), boolVal' o]) (hE : Env w) :
    Calls Tryz.prog 9 #[.string { data := #[66, 73, 78, 79, 77, 68, 73, 83, 84] }, .slice (some ⟨ab, ao, none⟩) 4 C] w fun e w' => e = .returned (numVal (if o = true then binsR n p (k + 1) else binR n p k)) ∧ Below w.heap.size w w' := by
  have fk : fits ((k : Int) : Rat) = true := fits_int _ (by omega)
  have fn : fits ((n : Int) : Rat) = true := fits_int _ (by omega)
  have fx := (tenth_facts p (by omega)).1
  refine stat_s 33 ⟨{ data := #[66, 73, 78, 79, 77, 68, 73, 83, 84] }, 4, 4, { data := #[115] }, false, 182⟩ (by decide) rfl (by kernel_rfl) rfl (fr_of 33 (by decide) (by kernel_rfl)) rfl (enters_of Tryz.func182 (by kernel_rfl) rfl) [numVal' ((k : Int) : Rat), numVal' ((n : Int) : Rat), numVal' (tenthR p), boolVal' o] ab ao C _ w (show 0 < 4 by decide) (show 4 ≤ 300 by decide) (show (4 : Int) ≤ 4 by decide) (show (4 : Int) ≤ 4 by decide) ?_ hv hE ?_ ?_ ?_
  · intro v hv'
    simp only [List.mem_cons, List.not_mem_nil, or_false] at hv'
    rcases hv' with rfl | rfl | rfl | rfl <;> rfl
  · cases o
    · exact (binR_sm (n := n) (p := p) (i := k) hp hk hn).fits (by decide +kernel) (by decide +kernel)
    · exact bins_fits hn hp (by omega)
  · intro v hv' W g
    simp only [List.mem_cons, List.not_mem_nil, or_false] at hv'
    rcases hv' with rfl | rfl | rfl | rfl
    · exact check_num' _ fk W g
    · exact check_num' _ fn W g
    · exact check_num' _ fx W g
    · exact check_B o W
  · intro W b g cap hE' hP ha hva hne
    have c0 := hva.at 0 (show 0 < 4 by decide)
    have c1 := hva.at 1 (show 1 < 4 by decide)
    have c2 := hva.at 2 (show 2 < 4 by decide)
    have c3 := hva.at 3 (show 3 < 4 by decide)
    cases o
    · exact f_binom_one hn hp hk _ _ b g cap W fk fn (floor_nat k) (floor_nat n) ha hne c0 c1 c2 c3 hE' hP
    · exact f_binom_all hn hp hk _ _ b g cap W fk fn (floor_nat k) (floor_nat n) ha hne c0 c1 c2 c3 hE' hP
/-- HYPGEOMDIST, 30 in all -/
theorem s_HYPER {n m k : Nat} (hn : n ≤ 20) (hk : k ≤ n) (hm : m ≤ 20) (hkm : k ≤ m) (hnk : n - k ≤ 30 - m) (ab ao C : Nat) (w : World) (hv : ValsAt w ab ao [numVal' ((k : Int) : Rat), numVal' ((n : Int) : Rat), numVal' ((m : Int) : Rat), numVal' ((30 : Int) : Rat)]) (hE : Env w) :
    Calls Tryz.prog 9 #[.string { data := #[72, 89, 80, 71, 69, 79, 77, 68, 73, 83, 84] }, .slice (some ⟨ab, ao, none⟩) 4 C] w fun e w' => e = .returned (numVal (hypR n m k)) ∧ Below w.heap.size w w' := by
  have fk : fits ((k : Int) : Rat) = true := fits_int _ (by omega)
  have fn : fits ((n : Int) : Rat) = true := fits_int _ (by omega)
  have fm : fits ((m : Int) : Rat) = true := fits_int _ (by omega)
  have f30 : fits ((30 : Int) : Rat) = true := fits_int _ (by decide)
  refine stat_s 34 ⟨{ data := #[72, 89, 80, 71, 69, 79, 77, 68, 73, 83, 84] }, 4, 4, { data := #[115] }, false, 183⟩ (by decide) rfl (by kernel_rfl) rfl (fr_of 34 (by decide) (by kernel_rfl)) rfl (enters_of Tryz.func183 (by kernel_rfl) rfl) [numVal' ((k : Int) : Rat), numVal' ((n : Int) : Rat), numVal' ((m : Int) : Rat), numVal' ((30 : Int) : Rat)] ab ao C _ w (show 0 < 4 by decide) (show 4 ≤ 300 by decide) (show (4 : Int) ≤ 4 by decide) (show (4 : Int) ≤ 4 by decide) ?_ hv hE ?_ ?_ ?_
  · intro v hv'
    simp only [List.mem_cons, List.not_mem_nil, or_false] at hv'
    rcases hv' with rfl | rfl | rfl | rfl <;> rfl
  · have hr : Sm (hypR n m k) (2 ^ 200 * 2 ^ 200) (2 ^ 200) := by
      refine ⟨((hypT n m k : Nat) : Int), choose 30 n, choose30_ne hn, ?_, ?_, choose_small (by decide)⟩
      · unfold hypR; rw [Rat.intCast_natCast]
      · rw [Int.natAbs_natCast]
        exact Nat.mul_le_mul (choose_small (by omega)) (choose_small (by omega))
    exact hr.fits (by decide +kernel) (by decide +kernel)
  · intro v hv' W g
    simp only [List.mem_cons, List.not_mem_nil, or_false] at hv'
    rcases hv' with rfl | rfl | rfl | rfl
    · exact check_num' _ fk W g
    · exact check_num' _ fn W g
    · exact check_num' _ fm W g
    · exact check_num' _ f30 W g
  · intro W b g cap hE' hP ha hva hne
    exact f_hyper hn hk hm hkm hnk _ _ _ _ b g cap W fk fn fm f30 (floor_nat k) (floor_nat n) (floor_nat m) (Rat.floor_intCast 30) ha hne (hva.at 0 (show 0 < 4 by decide)) (hva.at 1 (show 1 < 4 by decide)) (hva.at 2 (show 2 < 4 by decide)) (hva.at 3 (show 3 < 4 by decide)) hE' hP
end Go.Proofs.YtemdjmaakajhjaaGreatDoor.Num.Ft
