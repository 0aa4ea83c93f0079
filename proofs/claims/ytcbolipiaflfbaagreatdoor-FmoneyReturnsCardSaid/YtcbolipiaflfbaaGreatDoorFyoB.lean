/- Numbers as texts of digits, fractions, values and the functions of fmath: contracts of the program's functions, joined from smaller texts. Conditions stand at each theorem. -/
import Derived.Test.YtcbolipiaflfbaaGreatDoorFyaA
import Derived.Test.YtcbolipiaflfbaaGreatDoorNumD
import Derived.Test.YtcbolipiaflfbaaGreatDoorFynA
import Derived.Test.YtcbolipiaflfbaaGreatDoorFyaB
import Derived.Test.YtcbolipiaflfbaaGreatDoorFynB
import Derived.Test.YtcbolipiaflfbaaGreatDoorFyoA

/- Present values and the rate of return. Plain: no program. -/
namespace Go.Proofs.YtcbolipiaflfbaaGreatDoor.Num

/-- the sum of values, each divided by one power more of g -/
def presentR (g : Rat) : List Rat → Rat
  | [] => 0
  | x :: l => presentR g l / g + x
/-- 1 + n millionths -/
def gR (n : Int) : Rat := 1 + (n : Rat) / ((1000000 : Int) : Rat)
theorem gR_is (n : Int) : gR n = ((1000000 + n : Int) : Rat) / ((1000000 : Int) : Rat) := by
  unfold gR
  have h : ((1000000 : Int) : Rat) ≠ 0 := int_ne (by decide)
  rw [Rat.intCast_add]
  grind
theorem gR_sd {n : Int} (h0 : -999999 ≤ n) (h1 : n ≤ 1000000000) : SD (gR n) 10 6 := by
  rw [gR_is]
  exact sd_of (Sm.ratio (1000000 + n) 1000000 (by decide) (A := 10000000000) (B := 1000000) (by omega) (by decide)) (by decide) (by decide)
theorem gR_pos {n : Int} (h0 : -999999 ≤ n) : 0 < gR n := by
  rw [gR_is, Rat.div_def]
  refine Rat.mul_pos ?_ ?_
  · have : (0 : Int) < 1000000 + n := by omega
    exact Rat.intCast_pos.2 this
  · rw [Rat.inv_pos]; decide
theorem gR_ne {n : Int} (h0 : -999999 ≤ n) : gR n ≠ 0 := rat_ne (gR_pos h0)
theorem present_sd {g : Rat} (hg : SD g 10 6) (hg0 : g ≠ 0) (l : List Rat) (hl : ∀ x ∈ l, SD x 3 0) : SD (presentR g l) (3 + 12 * l.length) (10 * l.length) := by
  induction l with
  | nil => exact (sd_of (Sm.int 0 (A := 0) (by decide)) (k := 3) (l := 0) (by decide) (by decide))
  | cons x l ih =>
    have h1 := ih (fun y hy => hl y (List.mem_cons_of_mem _ hy))
    have h2 := SD.add (c := 14 + 12 * l.length) (SD.div h1 hg hg0) (hl x List.mem_cons_self) (by omega) (by omega)
    rw [List.length_cons]
    exact h2.mono (by omega) (by omega)
theorem present_nonneg {g : Rat} (hg : 0 < g) (l : List Rat) (hl : ∀ x ∈ l, 0 ≤ x) : 0 ≤ presentR g l := by
  induction l with
  | nil => exact Rat.le_refl
  | cons x l ih =>
    have h1 := ih (fun y hy => hl y (List.mem_cons_of_mem _ hy))
    have h2 := hl x List.mem_cons_self
    have h3 : 0 ≤ presentR g l / g := by
      rw [Rat.div_def]
      exact Rat.mul_nonneg h1 (Rat.le_of_lt ((Rat.inv_pos).2 hg))
    show 0 ≤ presentR g l / g + x
    grind
/-- something comes back: at a rate near -1 it is worth more than what was paid -/
theorem present_low (l : List Rat) (hl : ∀ x ∈ l, 0 ≤ x) (h : ∃ x ∈ l, 1 ≤ x) : 1 ≤ presentR (gR (-999999)) l := by
  have hg := gR_pos (n := -999999) (by decide)
  have hi : (1 : Rat) ≤ (gR (-999999))⁻¹ := by decide +kernel
  induction l with
  | nil => obtain ⟨x, hx, _⟩ := h; cases hx
  | cons x l ih =>
    have h0 := present_nonneg hg l (fun y hy => hl y (List.mem_cons_of_mem _ hy))
    have hx := hl x List.mem_cons_self
    show 1 ≤ presentR (gR (-999999)) l / gR (-999999) + x
    rw [Rat.div_def]
    obtain ⟨z, hz, z1⟩ := h
    rcases List.mem_cons.1 hz with rfl | hz
    · have := Rat.mul_nonneg h0 (Rat.le_of_lt ((Rat.inv_pos).2 hg))
      grind
    · have h2 := ih (fun y hy => hl y (List.mem_cons_of_mem _ hy)) ⟨z, hz, z1⟩
      have h3 : 0 ≤ (presentR (gR (-999999)) l - 1) * ((gR (-999999))⁻¹ - 1) := Rat.mul_nonneg (by grind) (by grind)
      grind
theorem good_low (v : Rat) (l : List Rat) (hv : -1000 ≤ v) (hl : ∀ x ∈ l, 0 ≤ x) (h : ∃ x ∈ l, 1 ≤ x) : 0 ≤ presentR (gR (-999999)) (v :: l) := by
  have h1 := present_low l hl h
  have hi : (1000000 : Rat) = (gR (-999999))⁻¹ := by decide +kernel
  show 0 ≤ presentR (gR (-999999)) l / gR (-999999) + v
  rw [Rat.div_def, ← hi]
  grind
theorem present_high (l : List Rat) (hl : ∀ x ∈ l, x ≤ 499) : presentR (gR 1000000000) l ≤ 500 := by
  have hi : (gR 1000000000)⁻¹ = 1 / 1001 := by decide +kernel
  induction l with
  | nil => show (0 : Rat) ≤ 500; decide
  | cons x l ih =>
    have h1 := ih (fun y hy => hl y (List.mem_cons_of_mem _ hy))
    have h2 := hl x List.mem_cons_self
    show presentR (gR 1000000000) l / gR 1000000000 + x ≤ 500
    rw [Rat.div_def, hi]
    grind
theorem good_high (v : Rat) (l : List Rat) (hv : v ≤ -1) (hl : ∀ x ∈ l, x ≤ 499) : presentR (gR 1000000000) (v :: l) < 0 := by
  have h1 := present_high l hl
  have hi : (gR 1000000000)⁻¹ = 1 / 1001 := by decide +kernel
  show presentR (gR 1000000000) l / gR 1000000000 + v < 0
  rw [Rat.div_def, hi]
  grind
end Go.Proofs.YtcbolipiaflfbaaGreatDoor.Num

/- The changes of sign that IRR counts; the present value falls as the rate grows. Plain: no program. -/
namespace Go.Proofs.YtcbolipiaflfbaaGreatDoor.Num

/-- how many changes, the last sign, behind k items whose signs are s -/
def irrSt (s : Nat → Int) : Nat → Int × Int
  | 0 => (0, 0)
  | k + 1 => if s k = 0 then irrSt s k else (if (irrSt s k).2 = -s k then (irrSt s k).1 + 1 else (irrSt s k).1, s k)
theorem irrSt_step (s : Nat → Int) (k : Nat) : (s k = 0 ∧ (irrSt s (k + 1)).1 = (irrSt s k).1 ∧ (irrSt s (k + 1)).2 = (irrSt s k).2) ∨ (s k ≠ 0 ∧ (irrSt s (k + 1)).2 = s k ∧ (((irrSt s k).2 = -s k ∧ (irrSt s (k + 1)).1 = (irrSt s k).1 + 1) ∨ ((irrSt s k).2 ≠ -s k ∧ (irrSt s (k + 1)).1 = (irrSt s k).1))) := by
  have e : irrSt s (k + 1) = if s k = 0 then irrSt s k else (if (irrSt s k).2 = -s k then (irrSt s k).1 + 1 else (irrSt s k).1, s k) := rfl
  rw [e]
  by_cases h : s k = 0
  · left; rw [if_pos h]; exact ⟨h, rfl, rfl⟩
  · right; rw [if_neg h]
    refine ⟨h, rfl, ?_⟩
    by_cases h2 : (irrSt s k).2 = -s k
    · left; exact ⟨h2, by show (if _ then _ else _) = _; rw [if_pos h2]⟩
    · right; exact ⟨h2, by show (if _ then _ else _) = _; rw [if_neg h2]⟩
/-- one payment, then what comes back -/
theorem irrSt_is (s : Nat → Int) (h0 : s 0 = -1) (h1 : ∀ k, 1 ≤ k → s k = 0 ∨ s k = 1) (k : Nat) :
    (irrSt s (k + 1) = (0, -1) ∧ ∀ j, 1 ≤ j → j ≤ k → s j = 0) ∨ (irrSt s (k + 1) = (1, 1) ∧ ∃ j, 1 ≤ j ∧ j ≤ k ∧ s j = 1) := by
  induction k with
  | zero =>
    left
    refine ⟨?_, fun j a b => by omega⟩
    unfold irrSt
    rw [h0, if_neg (by decide)]
    unfold irrSt
    decide
  | succ k ih =>
    have hk := h1 (k + 1) (by omega)
    rw [irrSt]
    rcases hk with hk | hk
    · rw [if_pos hk]
      rcases ih with ⟨e, h⟩ | ⟨e, j, a, b, c⟩
      · left
        refine ⟨e, fun j a b => ?_⟩
        by_cases hj : j = k + 1
        · rw [hj]; exact hk
        · exact h j a (by omega)
      · right; exact ⟨e, j, a, by omega, c⟩
    · rw [if_neg (by rw [hk]; decide)]
      right
      refine ⟨?_, k + 1, by omega, Nat.le_refl _, hk⟩
      rcases ih with ⟨e, _⟩ | ⟨e, _⟩
      · rw [e, hk]; decide
      · rw [e, hk]; decide
theorem irrSt_bd (s : Nat → Int) (h0 : s 0 = -1) (h1 : ∀ k, 1 ≤ k → s k = 0 ∨ s k = 1) (k : Nat) : 0 ≤ (irrSt s k).1 ∧ (irrSt s k).1 ≤ 1 := by
  cases k with
  | zero => exact ⟨Int.le_refl 0, (by decide : (0 : Int) ≤ 1)⟩
  | succ k =>
    rcases irrSt_is s h0 h1 k with ⟨e, _⟩ | ⟨e, _⟩
    · rw [e]; decide
    · rw [e]; decide
/-- values that come back are worth less at a greater rate -/
theorem present_anti {g h : Rat} (hg : 0 < g) (hh : g ≤ h) (l : List Rat) (hl : ∀ x ∈ l, 0 ≤ x) : presentR h l ≤ presentR g l := by
  have h0 : 0 < h := Std.lt_of_lt_of_le hg hh
  induction l with
  | nil => exact Rat.le_refl
  | cons x l ih =>
    have h1 := ih (fun y hy => hl y (List.mem_cons_of_mem _ hy))
    have h2 := present_nonneg hg l (fun y hy => hl y (List.mem_cons_of_mem _ hy))
    have h3 := present_nonneg h0 l (fun y hy => hl y (List.mem_cons_of_mem _ hy))
    have i0 : 0 < h⁻¹ := (Rat.inv_pos).2 h0
    have i1 : 0 < g⁻¹ := (Rat.inv_pos).2 hg
    have hi : h⁻¹ ≤ g⁻¹ := by
      have e1 : g⁻¹ - h⁻¹ = (h - g) * (g⁻¹ * h⁻¹) := by
        have := rat_ne hg
        have := rat_ne h0
        grind
      have e2 : 0 ≤ (h - g) * (g⁻¹ * h⁻¹) := Rat.mul_nonneg (by grind) (Rat.le_of_lt (Rat.mul_pos i1 i0))
      grind
    show presentR h l / h + x ≤ presentR g l / g + x
    rw [Rat.div_def, Rat.div_def]
    have a1 : 0 ≤ (presentR g l - presentR h l) * h⁻¹ := Rat.mul_nonneg (by grind) (Rat.le_of_lt i0)
    have a2 : 0 ≤ presentR g l * (g⁻¹ - h⁻¹) := Rat.mul_nonneg h2 (by grind)
    grind
/-- the step that IRR finds is the only one -/
theorem irr_unique (v : Rat) (l : List Rat) (hl : ∀ x ∈ l, 0 ≤ x) {n m : Int} (hn : -999999 ≤ n) (hm : -999999 ≤ m) (a1 : 0 ≤ presentR (gR n) (v :: l)) (a2 : presentR (gR (n + 1)) (v :: l) < 0) (b1 : 0 ≤ presentR (gR m) (v :: l)) (b2 : presentR (gR (m + 1)) (v :: l) < 0) : n = m := by
  have mono : ∀ {i j : Int}, -999999 ≤ i → i ≤ j → presentR (gR j) (v :: l) ≤ presentR (gR i) (v :: l) := by
    intro i j hi hij
    have hgi := gR_pos hi
    have hgj := gR_pos (n := j) (by omega)
    have hg : gR i ≤ gR j := by
      have hc : ((i : Int) : Rat) ≤ ((j : Int) : Rat) := Rat.intCast_le_intCast.2 hij
      have hp : (0 : Rat) ≤ (((1000000 : Int) : Rat))⁻¹ := by decide +kernel
      have hq : 0 ≤ (((j : Int) : Rat) - ((i : Int) : Rat)) * (((1000000 : Int) : Rat))⁻¹ := Rat.mul_nonneg (by grind) hp
      unfold gR
      rw [Rat.div_def, Rat.div_def]
      grind
    have h1 := present_anti hgi hg l hl
    have h2 := present_nonneg hgi l hl
    have h3 := present_nonneg hgj l hl
    have hx := present_anti hgi hg (0 :: l) (by intro x hx; rcases List.mem_cons.1 hx with rfl | hx; exact Rat.le_refl; exact hl x hx)
    show presentR (gR j) l / gR j + v ≤ presentR (gR i) l / gR i + v
    have hx' : presentR (gR j) l / gR j + 0 ≤ presentR (gR i) l / gR i + 0 := hx
    grind
  rcases Int.lt_trichotomy n m with h | h | h
  · have := mono (i := n + 1) (j := m) (by omega) (by omega)
    exfalso; grind
  · exact h
  · have := mono (i := m + 1) (j := n) (by omega) (by omega)
    exfalso; grind
end Go.Proofs.YtcbolipiaflfbaaGreatDoor.Num

/- package fmoney at rows of at most nine numbers: present, good. Conditions: whole numbers below 1000; the tables lie as they are laid. -/
namespace Go.Proofs.YtcbolipiaflfbaaGreatDoor.Num.Fy
open Go.RowKit Go.Lib Num

/-- n millionths -/
def micro (n : Int) : Rat := (n : Rat) / ((1000000 : Int) : Rat)
theorem gR_micro (n : Int) : 1 + micro n = gR n := rfl
theorem micro_sd {n : Int} (h0 : -999999 ≤ n) (h1 : n ≤ 1000000000) : SD (micro n) 9 6 :=
  sd_of (Sm.ratio n 1000000 (by decide) (A := 1000000000) (B := 1000000) (by omega) (by decide)) (by decide) (by decide)
theorem present_num {n : Int} (h0 : -999999 ≤ n) (h1 : n ≤ 1000000000) (qs : List Rat) (hl : qs.length ≤ 9) (hs : ∀ x ∈ qs, SD x 3 0) (W : World) (G C : Nat) (hfa : FracsAt W G qs) (hE : EnvY W) :
    Calls Tryz.prog 260 #[fracV (micro n), .slice (some ⟨G, 0, none⟩) qs.length C] W fun e w' => e = .returned (fracV (presentR (gR n) qs)) ∧ Below W.heap.size W w' := by
  have hg := gR_sd h0 h1
  have hne := gR_ne h0
  have fg : fits (gR n) = true := hg.fits (by decide) (by decide)
  have fm : fits (micro n) = true := (micro_sd h0 h1).fits (by decide) (by decide)
  have sdS : ∀ k, SD (presentR (gR n) (qs.drop k)) 111 90 := fun k => (present_sd hg hne (qs.drop k) (fun x hx => hs x (List.mem_of_mem_drop hx))).mono (by rw [List.length_drop]; omega) (by rw [List.length_drop]; omega)
  have sdD : ∀ k, SD (presentR (gR n) (qs.drop k) / gR n) 117 100 := fun k => SD.div (sdS k) hg hne
  have c0 : Fun1 25 (.int .i64 0) (fracV 0) := c_of (n := 0) (by decide)
  have c1 : Fun2 116 oneV (fracV (micro n)) (fracV (gR n)) := c_add1 fm fg
  have h := present_walk (micro n) (gR n) 0 (fun k => presentR (gR n) (qs.drop k)) (fun k => presentR (gR n) (qs.drop (k + 1)) / gR n) qs G C W c0 c1 hfa (by omega) (by show presentR (gR n) (qs.drop qs.length) = 0; rw [List.drop_length]; rfl)
    (fun k _ => c_div ((sdS (k + 1)).fits (by decide) (by decide)) fg hne ((sdD (k + 1)).fits (by decide) (by decide)) rfl)
    (fun k hk => c_add ((sdD (k + 1)).fits (by decide) (by decide)) ((hs _ (List.getElem_mem hk)).fits (by decide) (by decide)) ((sdS k).fits (by decide) (by decide)) (by show _ = presentR (gR n) (qs.drop k); rw [List.drop_eq_getElem_cons hk]; rfl)) hE
  exact h
theorem good_num {n : Int} (h0 : -999999 ≤ n) (h1 : n ≤ 1000000000) (qs : List Rat) (hl : qs.length ≤ 9) (hs : ∀ x ∈ qs, SD x 3 0) (W : World) (G C Bl Bs : Nat) (hb1 : W.heap[Bl]? = some (.cells #[.slice (some ⟨G, 0, none⟩) qs.length C] 141 (0, 0))) (hb2 : W.heap[Bs]? = some (.cells #[.int .i64 1] 3 (0, 0))) (hfa : FracsAt W G qs) (hE : EnvY W) :
    Calls Tryz.prog 261 #[.int .i64 n, .pointer (some ⟨Bl, 0, none⟩), .pointer (some ⟨Bs, 0, none⟩)] W fun e w' => e = .returned (.bool (decide (0 ≤ presentR (gR n) qs))) ∧ Below W.heap.size W w' := by
  have hg := gR_sd h0 h1
  have sdx : SD (presentR (gR n) qs) 111 90 := (present_sd hg (gR_ne h0) qs hs).mono (by omega) (by omega)
  have fx := sdx.fits (by decide) (by decide)
  have fm : fits (micro n) = true := (micro_sd h0 h1).fits (by decide) (by decide)
  have cR : Fun2 18 (.int .i64 n) (.int .i64 1000000) (.tuple #[fracV (micro n), .int .i64 0]) := fun W g => by
    have T := ratio_any n 1000000 W (by decide) (by omega) (by decide) g.e.tab
    rw [show ((n : Int) : Rat) / ((1000000 : Int) : Rat) = micro n from rfl, wroteV_ok fm] at T
    exact T
  have hb : cmpR (presentR (gR n) qs) 0 * 1 ≤ 1 ∧ -1 ≤ cmpR (presentR (gR n) qs) 0 * 1 ∧ decide (0 ≤ cmpR (presentR (gR n) qs) 0 * 1) = decide (0 ≤ presentR (gR n) qs) := by
    generalize presentR (gR n) qs = x
    unfold cmpR
    by_cases hx : x = 0
    · rw [if_pos hx, hx]; exact ⟨by decide, by decide, by decide⟩
    · rw [if_neg hx]
      by_cases hn : x < 0
      · rw [if_pos hn]
        refine ⟨by decide, by decide, ?_⟩
        rw [decide_eq_false (by decide), decide_eq_false (Rat.not_le.2 hn)]
      · rw [if_neg hn]
        refine ⟨by decide, by decide, ?_⟩
        rw [decide_eq_true (by decide), decide_eq_true (Rat.not_lt.1 hn)]
  have h := good_walk (micro n) (presentR (gR n) qs) G qs.length C Bl Bs n (cmpR (presentR (gR n) qs) 0) 1 W cR (c_sign fx) hb1 hb2 (fun W' hbw ge => present_num h0 h1 qs hl hs W' G C (hfa.below hbw) ge) hb.2.1 hb.1 hE
  rw [hb.2.2] at h
  exact h
end Go.Proofs.YtcbolipiaflfbaaGreatDoor.Num.Fy

/- the law's money at IRR. Conditions: one payment of 1 to 1000, then at most eight values of 0 to 499; the tables lie as they are laid. -/
namespace Go.Proofs.YtcbolipiaflfbaaGreatDoor.Num.Fy
open Go.RowKit Go.Lib Go.MapKept Num

def rats (ms : List Int) : List Rat := ms.map fun m => ((m : Int) : Rat)
theorem rats_len (ms : List Int) : (rats ms).length = ms.length := List.length_map ..
theorem rats_in {ms : List Int} {x : Rat} (h : x ∈ rats ms) : ∃ m ∈ ms, x = ((m : Int) : Rat) := by
  obtain ⟨m, hm, e⟩ := List.mem_map.1 h
  exact ⟨m, hm, e.symm⟩
/-- the law's own list: a payment, what comes back -/
structure Flow (v : Int) (l : List Int) : Prop where
  v0 : -1000 ≤ v
  v1 : v ≤ -1
  l0 : ∀ x ∈ l, 0 ≤ x ∧ x ≤ 499
  len : l.length ≤ 8
section
variable {v : Int} {l : List Int} (F : Flow v l)
include F
theorem Flow.sd : ∀ x ∈ rats (v :: l), SD x 3 0 := by
  intro x hx
  obtain ⟨m, hm, rfl⟩ := rats_in hx
  have hb : m.natAbs ≤ 1000 := by
    have := F.v0; have := F.v1
    rcases List.mem_cons.1 hm with rfl | hm
    · omega
    · have := F.l0 m hm; omega
  exact sd_of (Sm.int m (A := 1000) hb) (by decide) (by decide)
theorem Flow.fit : ∀ x ∈ rats (v :: l), fits x = true := fun x hx => (F.sd x hx).fits (by decide) (by decide)
theorem Flow.len9 : (rats (v :: l)).length ≤ 9 := by rw [rats_len, List.length_cons]; have := F.len; omega
theorem Flow.back0 : ∀ x ∈ rats l, 0 ≤ x := by
  intro x hx
  obtain ⟨m, hm, rfl⟩ := rats_in hx
  exact Rat.intCast_nonneg.2 (F.l0 m hm).1
theorem Flow.back1 : ∀ x ∈ rats l, x ≤ 499 := by
  intro x hx
  obtain ⟨m, hm, rfl⟩ := rats_in hx
  exact (Rat.intCast_le_intCast (b := 499)).2 (F.l0 m hm).2
def sgnF (v : Int) (l : List Int) (k : Nat) : Int := cmpR ((rats (v :: l)).getD k 0) 0
theorem Flow.s0 : sgnF v l 0 = -1 := by
  show cmpR ((v : Int) : Rat) 0 = -1
  have h : ((v : Int) : Rat) < 0 := (Rat.intCast_lt_intCast (b := 0)).2 (by have := F.v1; omega)
  unfold cmpR
  rw [if_neg (fun e => by rw [e] at h; exact absurd h (by decide)), if_pos h]
theorem Flow.s1 : ∀ k, 1 ≤ k → sgnF v l k = 0 ∨ sgnF v l k = 1 := by
  intro k hk
  obtain ⟨j, rfl⟩ : ∃ j, k = j + 1 := ⟨k - 1, by omega⟩
  have hx : 0 ≤ (rats l).getD j 0 := by
    rw [List.getD_eq_getElem?_getD]
    by_cases h : j < (rats l).length
    · rw [List.getElem?_eq_getElem h]; exact F.back0 _ (List.getElem_mem h)
    · rw [List.getElem?_eq_none (by omega)]; exact Rat.le_refl
  show cmpR ((rats l).getD j 0) 0 = 0 ∨ cmpR ((rats l).getD j 0) 0 = 1
  unfold cmpR
  by_cases e : (rats l).getD j 0 = 0
  · left; rw [if_pos e]
  · right; rw [if_neg e, if_neg (Rat.not_lt.2 hx)]
theorem Flow.sign (k : Nat) (h : k < (rats (v :: l)).length) : Fun1 256 (fracV (rats (v :: l))[k]) (.int .i64 (sgnF v l k)) := by
  have e : (rats (v :: l)).getD k 0 = (rats (v :: l))[k] := by rw [List.getD_eq_getElem?_getD, List.getElem?_eq_getElem h]; rfl
  unfold sgnF
  rw [e]
  exact c_sign (F.fit _ (List.getElem_mem h))
/-- where something comes back the step exists -/
theorem Flow.step (h : ∃ x ∈ l, 1 ≤ x) : ∃ n0 : Int, -999999 ≤ n0 ∧ n0 < 1000000000 ∧ 0 ≤ presentR (gR n0) (rats (v :: l)) ∧ presentR (gR (n0 + 1)) (rats (v :: l)) < 0 := by
  have hv0 : (-1000 : Rat) ≤ ((v : Int) : Rat) := (Rat.intCast_le_intCast (a := -1000)).2 F.v0
  have hv1 : ((v : Int) : Rat) ≤ -1 := (Rat.intCast_le_intCast (b := -1)).2 F.v1
  have hlo := good_low ((v : Int) : Rat) (rats l) hv0 F.back0 (by
    obtain ⟨x, hx, h1⟩ := h
    exact ⟨((x : Int) : Rat), List.mem_map.2 ⟨x, hx, rfl⟩, (Rat.intCast_le_intCast (a := 1)).2 h1⟩)
  have hhi := good_high ((v : Int) : Rat) (rats l) hv1 F.back1
  have key : ∀ t : Nat, presentR (gR (-999999 + (t : Int))) (rats (v :: l)) < 0 → ∃ n0 : Int, -999999 ≤ n0 ∧ n0 < -999999 + (t : Int) ∧ 0 ≤ presentR (gR n0) (rats (v :: l)) ∧ presentR (gR (n0 + 1)) (rats (v :: l)) < 0 := by
    intro t
    induction t with
    | zero =>
      intro hc
      exact absurd hlo (Rat.not_le.2 hc)
    | succ t ih =>
      intro hc
      by_cases hp : presentR (gR (-999999 + (t : Int))) (rats (v :: l)) < 0
      · obtain ⟨n0, a, b, c, d⟩ := ih hp
        exact ⟨n0, a, by omega, c, d⟩
      · exact ⟨-999999 + (t : Int), by omega, by omega, Rat.not_lt.1 hp, by rw [show -999999 + (t : Int) + 1 = -999999 + ((t + 1 : Nat) : Int) by omega]; exact hc⟩
  obtain ⟨n0, a, b, c, d⟩ := key (1000000000 + 999999 : Int).toNat (by rw [show -999999 + (((1000000000 + 999999 : Int).toNat : Nat) : Int) = 1000000000 by omega]; exact hhi)
  exact ⟨n0, a, by omega, c, d⟩
end
end Go.Proofs.YtcbolipiaflfbaaGreatDoor.Num.Fy

/- the law's money at IRR: the step, or a fault. Conditions: one payment of 1 to 1000, then at most eight values of 0 to 499; the tables lie as they are laid. -/
namespace Go.Proofs.YtcbolipiaflfbaaGreatDoor.Num.Fy
open Go.RowKit Go.Lib Go.MapKept Num

set_option linter.unusedSectionVars false
section
variable {v : Int} {l : List Int} (F : Flow v l)
include F
theorem Flow.check (g C : Nat) (w : World) (hv : ValsAt w g 0 (numVals (rats (v :: l)))) (hE : Env w) :
    Calls Tryz.prog 47 #[(arrVal' 1 ((rats (v :: l)).length : Int) g (rats (v :: l)).length C).agg] w fun e w' => e = .returned (.int .i64 0) ∧ Below w.heap.size w w' :=
  check_arr (rats (v :: l)) 1 ((rats (v :: l)).length : Int) g C w (by decide) (by decide) (by rw [rats_len, List.length_cons]; omega) (by have := F.len9; omega) (by omega) F.fit (by have := F.len9; omega) hv hE
theorem Flow.hst (k : Nat) : (sgnF v l k = 0 ∧ (irrSt (sgnF v l) (k + 1)).1 = (irrSt (sgnF v l) k).1 ∧ (irrSt (sgnF v l) (k + 1)).2 = (irrSt (sgnF v l) k).2) ∨ (sgnF v l k ≠ 0 ∧ (irrSt (sgnF v l) (k + 1)).2 = sgnF v l k ∧ (((irrSt (sgnF v l) k).2 = -sgnF v l k ∧ (irrSt (sgnF v l) (k + 1)).1 = (irrSt (sgnF v l) k).1 + 1) ∨ ((irrSt (sgnF v l) k).2 ≠ -sgnF v l k ∧ (irrSt (sgnF v l) (k + 1)).1 = (irrSt (sgnF v l) k).1))) := irrSt_step _ k
theorem Flow.hbd (k : Nat) : -1 ≤ sgnF v l k ∧ sgnF v l k ≤ 1 ∧ 0 ≤ (irrSt (sgnF v l) k).1 ∧ (irrSt (sgnF v l) k).1 ≤ 1000 := by
  have h := irrSt_bd (sgnF v l) F.s0 F.s1 k
  have hs : -1 ≤ sgnF v l k ∧ sgnF v l k ≤ 1 := by
    cases k with
    | zero => rw [F.s0]; decide
    | succ k => rcases F.s1 (k + 1) (by omega) with e | e <;> rw [e] <;> decide
  exact ⟨hs.1, hs.2, h.1, by omega⟩
theorem Flow.some (h : ∃ x ∈ l, 1 ≤ x) : ∃ j, 1 ≤ j ∧ j ≤ l.length ∧ sgnF v l j ≠ 0 := by
  obtain ⟨x, hx, h1⟩ := h
  obtain ⟨i, hi, e⟩ := List.getElem_of_mem hx
  refine ⟨i + 1, by omega, by omega, ?_⟩
  show cmpR ((rats l).getD i 0) 0 ≠ 0
  have hi' : i < (rats l).length := by rw [rats_len]; exact hi
  have ex : (rats l).getD i 0 = ((x : Int) : Rat) := by
    rw [List.getD_eq_getElem?_getD, List.getElem?_eq_getElem hi']
    show (rats l)[i] = _
    simp [rats, e]
  rw [ex]
  exact cmp_ne (int_ne (by omega))
theorem Flow.none (h : ∀ x ∈ l, x = 0) : ∀ j, 1 ≤ j → sgnF v l j = 0 := by
  intro j hj
  obtain ⟨i, rfl⟩ : ∃ i, j = i + 1 := ⟨j - 1, by omega⟩
  show cmpR ((rats l).getD i 0) 0 = 0
  refine cmp_zero ?_
  rw [List.getD_eq_getElem?_getD]
  by_cases hi : i < (rats l).length
  · rw [List.getElem?_eq_getElem hi]
    obtain ⟨m, hm, e⟩ := rats_in (List.getElem_mem hi)
    show (rats l)[i] = 0
    rw [e, h m hm]; rfl
  · rw [List.getElem?_eq_none (by omega)]; rfl

def IrrRow (v : Int) (l : List Int) (r : Value) : Prop := ∀ (W : World) (G g cap : Nat), ValsAt W G 0 [arrVal' 1 ((rats (v :: l)).length : Int) g (rats (v :: l)).length cap] → ValsAt W g 0 (numVals (rats (v :: l))) → EnvY W →
  Calls Tryz.prog 13 #[.string { data := #[73, 82, 82] }, .slice (some ⟨G, 0, none⟩) 1 1] W fun e w' => e = .returned r ∧ Below W.heap.size W w'
theorem m_IRR (h : ∃ x ∈ l, 1 ≤ x) (n0 : Int) (hn0 : -999999 ≤ n0) (hn1 : n0 < 1000000000) (hg0 : 0 ≤ presentR (gR n0) (rats (v :: l))) (hg1 : presentR (gR (n0 + 1)) (rats (v :: l)) < 0) : IrrRow v l (numVal (micro n0)) := by
  intro W G g cap hv hav hE
  have hlen : (rats (v :: l)).length = l.length + 1 := by rw [rats_len, List.length_cons]
  have hlo := good_low ((v : Int) : Rat) (rats l) ((Rat.intCast_le_intCast (a := -1000)).2 F.v0) F.back0 (by
    obtain ⟨x, hx, h1⟩ := h
    exact ⟨((x : Int) : Rat), List.mem_map.2 ⟨x, hx, rfl⟩, (Rat.intCast_le_intCast (a := 1)).2 h1⟩)
  have hhi := good_high ((v : Int) : Rat) (rats l) ((Rat.intCast_le_intCast (b := -1)).2 F.v1) F.back1
  have hst : irrSt (sgnF v l) (l.length + 1) = (1, 1) := by
    rcases irrSt_is (sgnF v l) F.s0 F.s1 l.length with ⟨_, h2⟩ | ⟨h2, _⟩
    · obtain ⟨j, a, b, c⟩ := F.some h
      exact absurd (h2 j a b) c
    · exact h2
  have fm : fits (micro n0) = true := (micro_sd hn0 (by omega)).fits (by decide) (by decide)
  have cR : Fun2 18 (.int .i64 n0) (.int .i64 1000000) (.tuple #[fracV (micro n0), .int .i64 0]) := fun W g => by
    have T := ratio_any n0 1000000 W (by decide) (by omega) (by decide) g.e.tab
    rw [show ((n0 : Int) : Rat) / ((1000000 : Int) : Rat) = micro n0 from rfl, wroteV_ok fm] at T
    exact T
  exact call_na 8 ⟨{ data := #[73, 82, 82] }, 1, 1, { data := #[97] }, true, 127⟩ (by decide) rfl rfl (fr_of 8 (by decide) (by kernel_rfl)) rfl (enters_of Tryz.func127 (by kernel_rfl) rfl) [arrVal' 1 ((rats (v :: l)).length : Int) g (rats (v :: l)).length cap] G 0 1 (micro n0) W (show 0 < 1 from by decide) (show 1 ≤ 300 from by decide) (show (1 : Int) ≤ 1 from by decide) (show (1 : Int) ≤ 1 from by decide) hv hE
    (by
      intro x hx W' hb
      simp only [List.mem_cons, List.not_mem_nil, or_false] at hx
      subst hx
      exact F.check g cap W' (hav.below hb) (hE.e.below hb)) fm
    (fun W' b g' cap' hb hE' hP hlt hgl ha hva hne =>
      fy_irr (rats (v :: l)) (sgnF v l) (fun k => (irrSt (sgnF v l) k).1) (fun k => (irrSt (sgnF v l) k).2) (fun n => decide (0 ≤ presentR (gR n) (rats (v :: l)))) n0 (micro n0) b g' cap' g cap ((rats (v :: l)).length : Int) W' ha hne (items_ne (hav.below hb) (by omega) ha) (hva.at 0 (show 0 < 1 by decide)) (by omega) (by have := F.len9; omega) (hav.below hb) hE' hP
        F.sign (fun k _ => F.hst k) F.hbd rfl rfl (by show (irrSt (sgnF v l) (rats (v :: l)).length).1 = 1; rw [hlen, hst]) (by show (irrSt (sgnF v l) (rats (v :: l)).length).2 = 1; rw [hlen, hst])
        (fun n W2 gF c2 B3 B5 h0 h1 hb3 hb5 hfa hE2 => good_num h0 h1 (rats (v :: l)) F.len9 F.sd W2 gF c2 B3 B5 hb3 hb5 hfa hE2)
        (decide_eq_true hlo) (decide_eq_false (Rat.not_le.2 hhi))
        (fun n a b c d => irr_unique ((v : Int) : Rat) (rats l) F.back0 a hn0 (of_decide_eq_true c) (Rat.not_le.1 (of_decide_eq_false d)) hg0 hg1) cR)
theorem m_IRR_stop (h : ∀ x ∈ l, x = 0) : IrrRow v l (faultVal 5) := by
  intro W G g cap hv hav hE
  have hlen : (rats (v :: l)).length = l.length + 1 := by rw [rats_len, List.length_cons]
  have hst : irrSt (sgnF v l) (l.length + 1) = (0, -1) := by
    rcases irrSt_is (sgnF v l) F.s0 F.s1 l.length with ⟨h2, _⟩ | ⟨_, j, a, b, c⟩
    · exact h2
    · rw [F.none h j a] at c; exact absurd c (by decide)
  exact call_na_stop 8 ⟨{ data := #[73, 82, 82] }, 1, 1, { data := #[97] }, true, 127⟩ (by decide) rfl rfl (fr_of 8 (by decide) (by kernel_rfl)) rfl (enters_of Tryz.func127 (by kernel_rfl) rfl) [arrVal' 1 ((rats (v :: l)).length : Int) g (rats (v :: l)).length cap] G 0 1 5 W (show 0 < 1 from by decide) (show 1 ≤ 300 from by decide) (show (1 : Int) ≤ 1 from by decide) (show (1 : Int) ≤ 1 from by decide) hv hE
    (by
      intro x hx W' hb
      simp only [List.mem_cons, List.not_mem_nil, or_false] at hx
      subst hx
      exact F.check g cap W' (hav.below hb) (hE.e.below hb)) (by decide) (by decide)
    (fun W' b g' cap' hb hE' hP hlt hgl ha hva hne =>
      fy_irr_stop (rats (v :: l)) (sgnF v l) (fun k => (irrSt (sgnF v l) k).1) (fun k => (irrSt (sgnF v l) k).2) b g' cap' g cap ((rats (v :: l)).length : Int) W' ha hne (items_ne (hav.below hb) (by omega) ha) (hva.at 0 (show 0 < 1 by decide)) (by omega) (by have := F.len9; omega) (hav.below hb) hE' hP
        F.sign (fun k _ => F.hst k) F.hbd rfl rfl (by show (irrSt (sgnF v l) (rats (v :: l)).length).1 = 0; rw [hlen, hst]))
end
end Go.Proofs.YtcbolipiaflfbaaGreatDoor.Num.Fy

/- the law's money at NPV over what comes back. Conditions: a rate of n millionths, at most eight values of 0 to 499; the tables lie as they are laid. -/
namespace Go.Proofs.YtcbolipiaflfbaaGreatDoor.Num.Off
open Go.RowKit Go.Lib Go.MapKept Num
theorem items_ne {W : World} {g o b L C n : Nat} {A : Option Addr} {qs : List Rat} (h : ValsAt W g o (numVals qs)) (h0 : 0 < qs.length) (ha : ArgsAt W b A L C n) : g ≠ b := by
  rintro rfl
  obtain ⟨_, _, _, _, _, _, _, _, h1⟩ := item_at h 0 h0 _ rfl
  have h2 := Lib.cell_of_heap ha (o + 0 * 9 + 8)
  rw [h1, Array.getElem?_eq_none (by show 2 ≤ _; omega)] at h2
  exact absurd h2 (by simp)
end Go.Proofs.YtcbolipiaflfbaaGreatDoor.Num.Off
namespace Go.Proofs.YtcbolipiaflfbaaGreatDoor.Num.Fy
open Go.RowKit Go.Lib Go.MapKept Num

section
variable {v : Int} {l : List Int} (F : Flow v l)
include F
theorem Flow.sdl : ∀ x ∈ rats l, SD x 3 0 := fun x hx => F.sd x (List.mem_cons_of_mem _ hx)
theorem Flow.present {n : Int} (h0 : -999999 ≤ n) (h1 : n ≤ 1000000000) : SD (presentR (gR n) (rats l)) 111 90 :=
  (present_sd (gR_sd h0 h1) (gR_ne h0) (rats l) F.sdl).mono (by have := F.len; rw [rats_len]; omega) (by have := F.len; rw [rats_len]; omega)
theorem Flow.npv {n : Int} (h0 : -999999 ≤ n) (h1 : n ≤ 1000000000) : SD (presentR (gR n) (rats l) / gR n) 117 100 := SD.div (F.present h0 h1) (gR_sd h0 h1) (gR_ne h0)
theorem Flow.sum {n : Int} (h0 : -999999 ≤ n) (h1 : n ≤ 1000000000) : fits (presentR (gR n) (rats (v :: l))) = true :=
  ((present_sd (gR_sd h0 h1) (gR_ne h0) (rats (v :: l)) F.sd).mono (k' := 123) (l' := 100) (by have := F.len9; omega) (by have := F.len9; omega)).fits (by decide) (by decide)

/-- NPV over the row of what comes back -/
def NpvRow (n : Int) (l : List Int) (r : Value) : Prop := ∀ (W : World) (G g o cap : Nat), ValsAt W G 0 [numVal' (micro n), Off.arrValO 1 (l.length : Int) g o l.length cap] → ValsAt W g o (numVals (rats l)) → EnvY W →
  Calls Tryz.prog 13 #[.string { data := #[78, 80, 86] }, .slice (some ⟨G, 0, none⟩) 2 2] W fun e w' => e = .returned r ∧ Below W.heap.size W w'
theorem m_NPV (hl : 0 < l.length) {n : Int} (h0 : -999999 ≤ n) (h1 : n ≤ 1000000000) : NpvRow n l (numVal (presentR (gR n) (rats l) / gR n)) := by
  intro W G g o cap hv hav hE
  have hlen : (rats l).length = l.length := rats_len l
  have hg := gR_sd h0 h1
  have hne := gR_ne h0
  have fg : fits (gR n) = true := hg.fits (by decide) (by decide)
  have fm : fits (micro n) = true := (micro_sd h0 h1).fits (by decide) (by decide)
  have fx : fits (presentR (gR n) (rats l)) = true := (F.present h0 h1).fits (by decide) (by decide)
  have fy : fits (presentR (gR n) (rats l) / gR n) = true := (F.npv h0 h1).fits (by decide) (by decide)
  have hfit : ∀ q ∈ rats l, fits q = true := fun q hq => (F.sdl q hq).fits (by decide) (by decide)
  have hl9 := F.len
  rw [← hlen] at hv hl hl9
  exact call_nsa 7 ⟨{ data := #[78, 80, 86] }, 2, 255, { data := #[115, 97] }, true, 126⟩ (by decide) rfl rfl (fr_of 7 (by decide) (by kernel_rfl)) rfl (enters_of Tryz.func126 (by kernel_rfl) rfl) [numVal' (micro n), Off.arrValO 1 ((rats l).length : Int) g o (rats l).length cap] G 0 2 (presentR (gR n) (rats l) / gR n) W (show 0 < 2 from by decide) (show 2 ≤ 300 from by decide) (show (2 : Int) ≤ 2 from by decide) (show (2 : Int) ≤ 255 from by decide) (fun _ => rfl) hv hE
    (by
      intro x hx W' hb
      simp only [List.mem_cons, List.not_mem_nil, or_false] at hx
      rcases hx with rfl | rfl
      · exact check_num (micro n) W' fm (hE.e.below hb)
      · exact Off.check_arr (rats l) 1 ((rats l).length : Int) g o cap W' (by decide) (by decide) (by omega) (by omega) (by omega) hfit (by omega) (hav.below hb) (hE.e.below hb)) fy
    (fun W' b g' cap' hb hE' hP hlt hgl ha hva hne' =>
      fy_npvo (micro n) (presentR (gR n) (rats l)) (gR n) (presentR (gR n) (rats l) / gR n) (rats l) ((rats l).length : Int) g o cap b g' cap' W' ha hne' (hva.at 0 (show 0 < 2 by decide)) hE' hP (c_add1 fm fg) (c_div fx fg hne fy rfl) fm hfit hl (by omega) hva (hav.below hb) (Off.items_ne (hav.below hb) hl ha)
        (fun W2 gF c2 hfa hE2 => present_num h0 h1 (rats l) (by omega) F.sdl W2 gF c2 hfa hE2))
end
end Go.Proofs.YtcbolipiaflfbaaGreatDoor.Num.Fy

/- the law's own sums over its flow. Conditions: one payment of 1 to 1000, then at most eight values of 0 to 499; the tables lie as they are laid. -/
namespace Go.Proofs.YtcbolipiaflfbaaGreatDoor.Num.Fy
open Go.RowKit Go.Lib Go.MapKept Num

theorem foldl_rats : ∀ (ms : List Int) (s : Int), (rats ms).foldl (· + ·) ((s : Int) : Rat) = ((s + ms.sum : Int) : Rat)
  | [], s => by simp [rats]
  | m :: r, s => by
    have h := foldl_rats r (s + m)
    show (rats r).foldl (· + ·) (((s : Int) : Rat) + ((m : Int) : Rat)) = _
    rw [← Rat.intCast_add, h, List.sum_cons, Int.add_assoc]
theorem sumL_rats (ms : List Int) : sumL (rats ms) = ((ms.sum : Int) : Rat) := by
  have h := foldl_rats ms 0
  rw [Int.zero_add] at h
  exact h
theorem rats_take (ms : List Int) (k : Nat) : (rats ms).take k = rats (ms.take k) := by simp [rats]
theorem rats_sq (ms : List Int) : ((rats ms).map fun q => q * q) = rats (ms.map fun m => m * m) := by
  simp only [rats, List.map_map]
  apply List.map_congr_left
  intro m _
  show ((m : Int) : Rat) * ((m : Int) : Rat) = ((m * m : Int) : Rat)
  rw [Rat.intCast_mul]
theorem sum_le (X : Nat) : ∀ xs : List Int, (∀ x ∈ xs, x.natAbs ≤ X) → xs.sum.natAbs ≤ xs.length * X
  | [], _ => by simp
  | x :: r, h => by
    have h1 := h x (by simp)
    have h2 := sum_le X r (fun y hy => h y (by simp [hy]))
    rw [List.sum_cons, List.length_cons, Nat.add_mul, Nat.one_mul]
    omega
section
variable {v : Int} {l : List Int} (F : Flow v l)
include F
theorem Flow.bd : ∀ x ∈ v :: l, x.natAbs ≤ 1000 := by
  intro x hx
  have := F.v0; have := F.v1
  rcases List.mem_cons.1 hx with rfl | hx
  · omega
  · have := F.l0 x hx; omega
theorem Flow.sums (ms : List Int) (hm : ∀ x ∈ ms, x ∈ v :: l) (h9 : ms.length ≤ 20) (k : Nat) : fits (sumL ((rats ms).take k)) = true := by
  rw [rats_take, sumL_rats]
  refine fits_int _ (Nat.le_trans (sum_le 1000 _ (fun x hx => F.bd x (hm x (List.mem_of_mem_take hx)))) ?_)
  rw [List.length_take]
  have : min k ms.length ≤ 20 := by omega
  exact Nat.le_trans (Nat.mul_le_mul this (Nat.le_refl _)) (by decide)
theorem Flow.sqs (ms : List Int) (hm : ∀ x ∈ ms, x ∈ v :: l) (h9 : ms.length ≤ 20) (k : Nat) : fits (sumL (((rats ms).map fun q => q * q).take k)) = true := by
  rw [rats_sq, rats_take, sumL_rats]
  refine fits_int _ (Nat.le_trans (sum_le (1000 * 1000) _ (fun x hx => ?_)) ?_)
  · obtain ⟨y, hy, rfl⟩ := List.mem_map.1 (List.mem_of_mem_take hx)
    rw [Int.natAbs_mul]
    exact Nat.mul_le_mul (F.bd y (hm y hy)) (F.bd y (hm y hy))
  · rw [List.length_take, List.length_map]
    have : min k ms.length ≤ 20 := by omega
    exact Nat.le_trans (Nat.mul_le_mul this (Nat.le_refl _)) (by decide)
theorem Flow.sq1 : ∀ q ∈ rats (v :: l), fits (q * q) = true := by
  intro q hq
  obtain ⟨m, hm, rfl⟩ := rats_in hq
  rw [← Rat.intCast_mul]
  refine fits_int _ ?_
  rw [Int.natAbs_mul]
  exact Nat.le_trans (Nat.mul_le_mul (F.bd m hm) (F.bd m hm)) (by decide)
theorem Flow.aarg (W : World) (g C : Nat) (hv : ValsAt W g 0 (numVals (rats (v :: l)))) : AArg W (arrVal' 1 ((rats (v :: l)).length : Int) g (rats (v :: l)).length C) (rats (v :: l)) :=
  .inr ⟨1, ((rats (v :: l)).length : Int), g, C, rfl, by decide, by decide, by rw [rats_len, List.length_cons]; omega, by have := F.len9; omega, by omega, by rw [rats_len, List.length_cons]; omega, by have := F.len9; omega, hv⟩

/-- SUM over the whole row -/
def SumRow (v : Int) (l : List Int) (r : Value) : Prop := ∀ (W : World) (G g cap : Nat), ValsAt W G 0 [arrVal' 1 ((rats (v :: l)).length : Int) g (rats (v :: l)).length cap] → ValsAt W g 0 (numVals (rats (v :: l))) → EnvY W →
  Calls Tryz.prog 11 #[.string { data := #[83, 85, 77] }, .slice (some ⟨G, 0, none⟩) 1 1] W fun e w' => e = .returned r ∧ Below W.heap.size W w'
/-- SUMSQ over the whole row and its first number -/
def SqRow (v : Int) (l : List Int) (r : Value) : Prop := ∀ (W : World) (G g cap : Nat), ValsAt W G 0 [arrVal' 1 ((rats (v :: l)).length : Int) g (rats (v :: l)).length cap, numVal' ((v : Int) : Rat)] → ValsAt W g 0 (numVals (rats (v :: l))) → EnvY W →
  Calls Tryz.prog 11 #[.string { data := #[83, 85, 77, 83, 81] }, .slice (some ⟨G, 0, none⟩) 2 2] W fun e w' => e = .returned r ∧ Below W.heap.size W w'
theorem Flow.m_sum : SumRow v l (numVal (((v + l.sum : Int)) : Rat)) := by
  intro W G g cap hv hav hE
  have hfl : ([rats (v :: l)] : List (List Rat)).flatten = rats (v :: l) := by simp
  have h := m_SUM2 [arrVal' 1 ((rats (v :: l)).length : Int) g (rats (v :: l)).length cap] [rats (v :: l)] G 0 1 W (show 0 < 1 by decide) (show 1 ≤ 255 by decide) (args2_one (F.aarg W g cap hav))
    (by intro qs hqs; simp only [List.mem_cons, List.not_mem_nil, or_false] at hqs; subst hqs; exact F.fit)
    (by rw [hfl, rats_len, List.length_cons]; omega) (by rw [hfl]; have := F.len9; omega)
    (fun k _ => by rw [hfl]; exact F.sums _ (fun _ h => h) (by rw [List.length_cons]; have := F.len; omega) k) hv hE.e
  rw [hfl, sumL_rats, List.sum_cons] at h
  exact h
theorem Flow.m_sq : ∃ q, fits q = true ∧ SqRow v l (numVal q) := by
  have hfl : ([rats (v :: l), rats [v]] : List (List Rat)).flatten = rats (v :: l ++ [v]) := by simp [rats]
  have hin : ∀ x ∈ v :: l ++ [v], x ∈ v :: l := by
    intro x hx
    rcases List.mem_append.1 hx with h | h
    · exact h
    · simp only [List.mem_cons, List.not_mem_nil, or_false] at h; subst h; exact List.mem_cons_self
  have hln : (v :: l ++ [v]).length ≤ 20 := by rw [List.length_append, List.length_cons, List.length_cons, List.length_nil]; have := F.len; omega
  refine ⟨sumL ((rats (v :: l ++ [v])).map fun q => q * q), ?_, ?_⟩
  · have h := F.sqs _ hin hln ((rats (v :: l ++ [v])).map fun q => q * q).length
    rwa [List.take_length] at h
  · intro W G g cap hv hav hE
    have h := m_SUMSQ [arrVal' 1 ((rats (v :: l)).length : Int) g (rats (v :: l)).length cap, numVal' ((v : Int) : Rat)] [rats (v :: l), rats [v]] G 0 2 W (show 0 < 2 by decide) (show 2 ≤ 255 by decide) (args2_two (F.aarg W g cap hav) (.inl ⟨_, rfl, rfl⟩))
      (by
        intro qs hqs
        simp only [List.mem_cons, List.not_mem_nil, or_false] at hqs
        rcases hqs with rfl | rfl
        · exact F.fit
        · intro q hq; simp only [rats, List.map_cons, List.map_nil, List.mem_cons, List.not_mem_nil, or_false] at hq; subst hq; exact F.fit _ (List.mem_cons_self ..))
      (by
        intro qs hqs
        simp only [List.mem_cons, List.not_mem_nil, or_false] at hqs
        rcases hqs with rfl | rfl
        · exact F.sq1
        · intro q hq; simp only [rats, List.map_cons, List.map_nil, List.mem_cons, List.not_mem_nil, or_false] at hq; subst hq; exact F.sq1 _ (List.mem_cons_self ..))
      (by rw [hfl, rats_len]; simp) (by rw [hfl, rats_len]; exact Nat.le_trans hln (by decide))
      (fun k _ => by rw [hfl]; exact F.sqs _ hin hln k) hv hE.e
    rw [hfl] at h
    exact h
/-- where nothing comes back the sum is less than 0 -/
theorem Flow.neg (h : ∀ x ∈ l, x = 0) : cmpR (((v + l.sum : Int)) : Rat) 0 = -1 := by
  have hs : l.sum = 0 := by
    clear F
    induction l with
    | nil => rfl
    | cons x r ih => rw [List.sum_cons, h x List.mem_cons_self, ih (fun y hy => h y (List.mem_cons_of_mem _ hy))]; rfl
  rw [hs, Int.add_zero]
  have h0 : ((v : Int) : Rat) < 0 := (Rat.intCast_lt_intCast (b := 0)).2 (by have := F.v1; omega)
  unfold cmpR
  rw [if_neg (fun e => by rw [e] at h0; exact absurd h0 (by decide)), if_pos h0]
end
end Go.Proofs.YtcbolipiaflfbaaGreatDoor.Num.Fy
