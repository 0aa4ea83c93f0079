/- Numbers as texts of digits, fractions, values and the functions of fmath: contracts of the program's functions, joined from smaller texts. Conditions stand at each theorem. -/
import Derived.Test.YtphfefmlappidaaGreatDoorFdcA
import Derived.Test.YtphfefmlappidaaGreatDoorNumH
import Derived.Lib.MinMax

/- package value: the calendar's small functions. Conditions: years from 0 to 1000000. -/
namespace Go.Proofs.YtphfefmlappidaaGreatDoor.Num
open Go.RowKit Go.Lib

/-- the lengths of a year's months, as cells -/
def lensC (f : Int) : Array Value := #[.int .i64 31, .int .i64 f, .int .i64 31, .int .i64 30, .int .i64 31, .int .i64 30, .int .i64 31, .int .i64 31, .int .i64 30, .int .i64 31, .int .i64 30, .int .i64 31]
set_option linter.unusedSimpArgs false in
set_option linter.unusedVariables false in
set_option maxHeartbeats 2000000 in
set_option maxRecDepth 100000 in
theorem before_any (y : Int) (w : World) (h0 : 1 ≤ y) (h1 : y ≤ 1000000) : Calls Tryz.prog 324 #[.int .i64 y] w fun e w' => e = .returned (.int .i64 (before y)) ∧ w' = w := by
  have hd : before y = 365 * (y - 1900) + (y - 1) / 4 - (y - 1) / 100 + (y - 1) / 400 - 460 := rfl
  rw [hd]
  clear hd
  go_enter Tryz.func324, Tryz.ntmps324
  go_wp2
  go_ret
  exact ⟨by first | rfl | (congr 2; omega), rfl⟩

set_option linter.unusedSimpArgs false in
set_option linter.unusedVariables false in
set_option maxHeartbeats 2000000 in
set_option maxRecDepth 100000 in
theorem lengths_any (y : Int) (w : World) (h0 : 0 ≤ y) (h1 : y ≤ 1000000) : Calls Tryz.prog 325 #[.int .i64 y] w fun e w' => e = .returned (.agg (lensC (febr y))) ∧ Below w.heap.size w w' := by
  have hf := febr_leap y
  by_cases h4 : y % 4 = 0
  · have b4 : (y % 4 == 0) = true := by rw [beq_iff_eq]; exact h4
    by_cases h100 : y % 100 = 0
    · have b100 : (y % 100 != 0) = false := by rw [bne_eq_false_iff_eq]; exact h100
      by_cases h400 : y % 400 = 0
      · have b400 : (y % 400 == 0) = true := by rw [beq_iff_eq]; exact h400
        rw [show febr y = 29 by rw [hf, if_pos ⟨h4, .inr h400⟩]; rfl]
        clear hf h4 h100 h400
        obtain ⟨he, _, hb⟩ := two_new w (.cells #[.int .i64 31, .int .i64 29, .int .i64 31, .int .i64 30, .int .i64 31, .int .i64 30, .int .i64 31, .int .i64 31, .int .i64 30, .int .i64 31, .int .i64 30, .int .i64 31] 231) (.cells #[.int .i64 31, .int .i64 29, .int .i64 31, .int .i64 30, .int .i64 31, .int .i64 30, .int .i64 31, .int .i64 31, .int .i64 30, .int .i64 31, .int .i64 30, .int .i64 31] 231)
        have e0 := Lib.cell_of_heap he 0
        have e1 := Lib.cell_of_heap he 1
        have e2 := Lib.cell_of_heap he 2
        have e3 := Lib.cell_of_heap he 3
        have e4 := Lib.cell_of_heap he 4
        have e5 := Lib.cell_of_heap he 5
        have e6 := Lib.cell_of_heap he 6
        have e7 := Lib.cell_of_heap he 7
        have e8 := Lib.cell_of_heap he 8
        have e9 := Lib.cell_of_heap he 9
        have e10 := Lib.cell_of_heap he 10
        have e11 := Lib.cell_of_heap he 11
        have HB := Lib.hid hb
        clear he hb
        go_enter Tryz.func325, Tryz.ntmps325
        go_wp2
        refine bodyPost_ret (v := .agg #[.int .i64 31, .int .i64 29, .int .i64 31, .int .i64 30, .int .i64 31, .int .i64 30, .int .i64 31, .int .i64 31, .int .i64 30, .int .i64 31, .int .i64 30, .int .i64 31]) (by simp [results, Tryz.results325, go_sem, e0, e1, e2, e3, e4, e5, e6, e7, e8, e9, e10, e11]) rfl ⟨rfl, HB.out⟩
      · have b400 : (y % 400 == 0) = false := by rw [beq_eq_false_iff_ne]; exact h400
        rw [show febr y = 28 by rw [hf, if_neg (fun h => h.2.elim (fun k => k h100) h400)]; rfl]
        clear hf h4 h100 h400
        obtain ⟨he, _, hb⟩ := two_new w (.cells #[.int .i64 31, .int .i64 28, .int .i64 31, .int .i64 30, .int .i64 31, .int .i64 30, .int .i64 31, .int .i64 31, .int .i64 30, .int .i64 31, .int .i64 30, .int .i64 31] 231) (.cells #[.int .i64 31, .int .i64 28, .int .i64 31, .int .i64 30, .int .i64 31, .int .i64 30, .int .i64 31, .int .i64 31, .int .i64 30, .int .i64 31, .int .i64 30, .int .i64 31] 231)
        have e0 := Lib.cell_of_heap he 0
        have e1 := Lib.cell_of_heap he 1
        have e2 := Lib.cell_of_heap he 2
        have e3 := Lib.cell_of_heap he 3
        have e4 := Lib.cell_of_heap he 4
        have e5 := Lib.cell_of_heap he 5
        have e6 := Lib.cell_of_heap he 6
        have e7 := Lib.cell_of_heap he 7
        have e8 := Lib.cell_of_heap he 8
        have e9 := Lib.cell_of_heap he 9
        have e10 := Lib.cell_of_heap he 10
        have e11 := Lib.cell_of_heap he 11
        have HB := Lib.hid hb
        clear he hb
        go_enter Tryz.func325, Tryz.ntmps325
        go_wp2
        refine bodyPost_ret (v := .agg #[.int .i64 31, .int .i64 28, .int .i64 31, .int .i64 30, .int .i64 31, .int .i64 30, .int .i64 31, .int .i64 31, .int .i64 30, .int .i64 31, .int .i64 30, .int .i64 31]) (by simp [results, Tryz.results325, go_sem, e0, e1, e2, e3, e4, e5, e6, e7, e8, e9, e10, e11]) rfl ⟨rfl, HB.out⟩
    · have b100 : (y % 100 != 0) = true := by rw [bne_iff_ne]; exact h100
      rw [show febr y = 29 by rw [hf, if_pos ⟨h4, .inl h100⟩]; rfl]
      clear hf h4 h100
      obtain ⟨he, _, hb⟩ := two_new w (.cells #[.int .i64 31, .int .i64 29, .int .i64 31, .int .i64 30, .int .i64 31, .int .i64 30, .int .i64 31, .int .i64 31, .int .i64 30, .int .i64 31, .int .i64 30, .int .i64 31] 231) (.cells #[.int .i64 31, .int .i64 29, .int .i64 31, .int .i64 30, .int .i64 31, .int .i64 30, .int .i64 31, .int .i64 31, .int .i64 30, .int .i64 31, .int .i64 30, .int .i64 31] 231)
      have e0 := Lib.cell_of_heap he 0
      have e1 := Lib.cell_of_heap he 1
      have e2 := Lib.cell_of_heap he 2
      have e3 := Lib.cell_of_heap he 3
      have e4 := Lib.cell_of_heap he 4
      have e5 := Lib.cell_of_heap he 5
      have e6 := Lib.cell_of_heap he 6
      have e7 := Lib.cell_of_heap he 7
      have e8 := Lib.cell_of_heap he 8
      have e9 := Lib.cell_of_heap he 9
      have e10 := Lib.cell_of_heap he 10
      have e11 := Lib.cell_of_heap he 11
      have HB := Lib.hid hb
      clear he hb
      go_enter Tryz.func325, Tryz.ntmps325
      go_wp2
      refine bodyPost_ret (v := .agg #[.int .i64 31, .int .i64 29, .int .i64 31, .int .i64 30, .int .i64 31, .int .i64 30, .int .i64 31, .int .i64 31, .int .i64 30, .int .i64 31, .int .i64 30, .int .i64 31]) (by simp [results, Tryz.results325, go_sem, e0, e1, e2, e3, e4, e5, e6, e7, e8, e9, e10, e11]) rfl ⟨rfl, HB.out⟩
  · have b4 : (y % 4 == 0) = false := by rw [beq_eq_false_iff_ne]; exact h4
    rw [show febr y = 28 by rw [hf, if_neg (fun h => h4 h.1)]; rfl]
    clear hf h4
    obtain ⟨he, _, hb⟩ := two_new w (.cells #[.int .i64 31, .int .i64 28, .int .i64 31, .int .i64 30, .int .i64 31, .int .i64 30, .int .i64 31, .int .i64 31, .int .i64 30, .int .i64 31, .int .i64 30, .int .i64 31] 231) (.cells #[.int .i64 31, .int .i64 28, .int .i64 31, .int .i64 30, .int .i64 31, .int .i64 30, .int .i64 31, .int .i64 31, .int .i64 30, .int .i64 31, .int .i64 30, .int .i64 31] 231)
    have e0 := Lib.cell_of_heap he 0
    have e1 := Lib.cell_of_heap he 1
    have e2 := Lib.cell_of_heap he 2
    have e3 := Lib.cell_of_heap he 3
    have e4 := Lib.cell_of_heap he 4
    have e5 := Lib.cell_of_heap he 5
    have e6 := Lib.cell_of_heap he 6
    have e7 := Lib.cell_of_heap he 7
    have e8 := Lib.cell_of_heap he 8
    have e9 := Lib.cell_of_heap he 9
    have e10 := Lib.cell_of_heap he 10
    have e11 := Lib.cell_of_heap he 11
    have HB := Lib.hid hb
    clear he hb
    go_enter Tryz.func325, Tryz.ntmps325
    go_wp2
    refine bodyPost_ret (v := .agg #[.int .i64 31, .int .i64 28, .int .i64 31, .int .i64 30, .int .i64 31, .int .i64 30, .int .i64 31, .int .i64 31, .int .i64 30, .int .i64 31, .int .i64 30, .int .i64 31]) (by simp [results, Tryz.results325, go_sem, e0, e1, e2, e3, e4, e5, e6, e7, e8, e9, e10, e11]) rfl ⟨rfl, HB.out⟩

theorem lens_at (y : Int) (i : Nat) (h : i < 12) : (lensC (febr y))[i]? = some (.int .i64 (mlen y i)) := by
  have hi : i = 0 ∨ i = 1 ∨ i = 2 ∨ i = 3 ∨ i = 4 ∨ i = 5 ∨ i = 6 ∨ i = 7 ∨ i = 8 ∨ i = 9 ∨ i = 10 ∨ i = 11 := by omega
  rcases hi with rfl | rfl | rfl | rfl | rfl | rfl | rfl | rfl | rfl | rfl | rfl | rfl <;> simp [lensC, mlen]

set_option linter.unusedSimpArgs false in
set_option linter.unusedVariables false in
set_option maxHeartbeats 2000000 in
set_option maxRecDepth 100000 in
theorem day_any (y d : Int) (k : Nat) (w : World) (h0 : 1900 ≤ y) (h1 : y ≤ 9999) (hk : k ≤ 11) (d0 : 1 ≤ d) (d1 : d ≤ mlen y k) : Calls Tryz.prog 323 #[.int .i64 y, .int .i64 ((k : Int) + 1), .int .i64 d] w fun e w' => e = .returned (.tuple #[.int .i64 (dayNo y k d), .bool true]) ∧ Below w.heap.size w w' := by
  have TL := Lib.hid (fun W => lengths_any y W (by omega) (by omega))
  have TB := Lib.hid (fun W => before_any y W (by omega) (by omega))
  have hm := mlen_bounds y k
  have hbb : -1000000 ≤ before y ∧ before y ≤ 10000000 := by unfold before; omega
  obtain ⟨BF, hBF⟩ : ∃ x, before y = x := ⟨_, rfl⟩
  rw [hBF] at TB hbb
  have HCS := Lib.hid (fun i h => cum_succ y i h)
  have HCB := Lib.hid (fun i => cum_bounds y i)
  have HMB := Lib.hid (fun i => mlen_bounds y i)
  have hres : dayNo y k d = BF + d + cum y k := by unfold dayNo; omega
  rw [hres]
  have HLA := Lib.hid (fun i h => lens_at y i h)
  obtain ⟨ML, hML⟩ : ∃ x, mlen y k = x := ⟨_, rfl⟩
  have hlk := lens_at y k (by omega)
  rw [hML] at hlk d1 hm
  have t1 : decide (y < 1900) = false := decide_eq_false (by omega)
  have t2 : decide (9999 < y) = false := decide_eq_false (by omega)
  have t3 : decide ((k : Int) + 1 < 1) = false := decide_eq_false (by omega)
  have t4 : decide (12 < (k : Int) + 1) = false := decide_eq_false (by omega)
  have t5 : decide (d < 1) = false := decide_eq_false (by omega)
  have t6 : decide (ML < d) = false := decide_eq_false (by omega)
  have hw1 : IntKind.i64.wrap ((k : Int) + 1 - 1) = (k : Int) := by rw [show (k : Int) + 1 - 1 = k by omega]; exact IntWalk.i64_in _ (by omega)
  have hw2 : IntKind.i64.wrap (k : Int) = (k : Int) := IntWalk.i64_in _ (by omega)
  clear hBF hres
  go_enter Tryz.func323, Tryz.ntmps323
  go_wp2_with fail
  refine (TL.out _).mono ?_
  rintro e W1 ⟨rfl, hb⟩
  have hb2 : Below W1.heap.size W1 (W1.alloc (.cells (lensC (febr y)) 231)) := (Below.refl _ _).alloc (Nat.le_refl _) _
  have HX := Lib.hid (heap_alloc_new W1 (.cells (lensC (febr y)) 231))
  have HL := Lib.hid (hb.trans (hb2.mono hb.size))
  clear hb hb2
  have x0 := (Lib.cell_of_heap HX.out k).trans hlk
  unfold lensC at HX HL x0
  obtain ⟨W2, hW2⟩ : ∃ Z, W1.alloc (.cells #[.int .i64 31, .int .i64 (febr y), .int .i64 31, .int .i64 30, .int .i64 31, .int .i64 30, .int .i64 31, .int .i64 31, .int .i64 30, .int .i64 31, .int .i64 30, .int .i64 31] 231) = Z := ⟨_, rfl⟩
  rw [hW2] at HX HL x0
  have EW2 := Lib.hid hW2
  have x0' := x0
  rw [← hW2] at x0'
  clear hW2
  have hal : Tryz.prog.arrayLen 231 = 12 := by rfl
  have hsl : ∀ W, (Instr.sliceAt 231 (.pointer (some ⟨W1.heap.size, 0, none⟩)) none (some (.int .i64 (k : Int))) none).run Tryz.prog W = .ok (.slice (some ⟨W1.heap.size, 0, none⟩) k 12) W := fun W => by
    rw [run_sliceAt_array_h W 231 ⟨W1.heap.size, 0, none⟩ (by rfl) .i64 (k : Int) (by omega) (by rw [hal]; omega), hal]
    rfl
  clear hal
  unfold lensC
  go_wp2_with fail
  rw [EW2.out]
  refine (TB.out _).mono ?_
  rintro e w2 ⟨rfl, rfl⟩
  clear x0'
  go_wp2
  go_loopg [9, 46] k (fun gh v9 v46 wx => ∃ i : Nat, i + gh = k ∧ v9 = .int .i64 (BF + d + cum y i) ∧ v46 = .int .i64 (i : Int) ∧ wx = w2)
  case atStart => exact ⟨0, by omega, by rw [show ((0 : Nat) : Int) = 0 from rfl, cum_zero]; go_num, by go_num, rfl⟩
  case round =>
    obtain ⟨i, hi, rfl, rfl, rfl⟩ := hrel
    have hcb := HCB.out (i : Int)
    have hmb := HMB.out (i : Int)
    by_cases hik : i < k
    · have hd : decide ((i : Int) < (k : Int)) = true := decide_eq_true (by omega)
      have hcs := HCS.out (i : Int) (by omega) (by omega)
      have xi := (Lib.cell_of_heap HX.out i).trans (by
        have h := HLA.out i (by omega)
        unfold lensC at h
        exact h)
      obtain ⟨CI, hCI⟩ : ∃ x, cum y (i : Int) = x := ⟨_, rfl⟩
      obtain ⟨MI, hMI⟩ : ∃ x, mlen y (i : Int) = x := ⟨_, rfl⟩
      rw [hCI] at hcb hcs ⊢
      rw [hMI] at hmb hcs xi
      have HN := Lib.hid hcs
      clear hcs hCI hMI
      go_wp2
      go_roundg (gk - 1)
      case measure => omega
      case rel => exact ⟨i + 1, by omega, by rw [show ((i + 1 : Nat) : Int) = (i : Int) + 1 by omega, HN.out]; go_num, by go_num, rfl⟩
    · have hd : decide ((i : Int) < (k : Int)) = false := decide_eq_false (by omega)
      obtain rfl : i = k := by omega
      go_wp2
      go_ret2
      exact ⟨rfl, HL.out⟩

end Go.Proofs.YtphfefmlappidaaGreatDoor.Num

/- package value: Date, Month. Conditions: the number of a date from 1900 to 9999. -/
namespace Go.Proofs.YtphfefmlappidaaGreatDoor.Num
open Go.RowKit Go.Lib

theorem lens_index (y : Int) (i : Nat) (h : i < 12) (W : World) : (Instr.index 231 (.agg (lensC (febr y))) (.int .i64 (i : Int))).run Tryz.prog W = .ok (.int .i64 (mlen y i)) W := by
  have hi : i = 0 ∨ i = 1 ∨ i = 2 ∨ i = 3 ∨ i = 4 ∨ i = 5 ∨ i = 6 ∨ i = 7 ∨ i = 8 ∨ i = 9 ∨ i = 10 ∨ i = 11 := by omega
  have h1 := lens_at y i h
  clear h1
  obtain ⟨f, hf⟩ : ∃ f, febr y = f := ⟨_, rfl⟩
  unfold mlen lensC
  rw [hf]
  clear hf h
  rcases hi with rfl | rfl | rfl | rfl | rfl | rfl | rfl | rfl | rfl | rfl | rfl | rfl
  all_goals (show @Eq _ _ _; kernel_rfl)

set_option linter.unusedSimpArgs false in
set_option linter.unusedVariables false in
set_option maxHeartbeats 2000000 in
set_option maxRecDepth 100000 in
theorem month_any (y : Int) (k : Nat) (w : World) (h0 : 0 ≤ y) (h1 : y ≤ 1000000) (hk : k ≤ 11) : Calls Tryz.prog 282 #[.int .i64 y, .int .i64 ((k : Int) + 1)] w fun e w' => e = .returned (.int .i64 (mlen y k)) ∧ Below w.heap.size w w' := by
  have TL := Lib.hid (fun W => lengths_any y W h0 h1)
  have hx := lens_index y k (by omega)
  have hw1 : IntKind.i64.wrap ((k : Int) + 1 - 1) = (k : Int) := by rw [show (k : Int) + 1 - 1 = k by omega]; exact IntWalk.i64_in _ (by omega)
  go_enter Tryz.func282, Tryz.ntmps282
  go_wp2_with fail
  refine (TL.out _).mono ?_
  rintro e W1 ⟨rfl, hb⟩
  go_wp2
  go_ret
  exact ⟨rfl, hb⟩

set_option linter.unusedSimpArgs false in
set_option linter.unusedVariables false in
set_option maxHeartbeats 2000000 in
set_option maxRecDepth 100000 in
theorem date_any (n y d : Int) (k : Nat) (w : World) (h : IsDate n y k d) : Calls Tryz.prog 277 #[.int .i64 n] w fun e w' => e = .returned (.tuple #[.int .i64 y, .int .i64 ((k : Int) + 1), .int .i64 d, .bool true]) ∧ Below w.heap.size w w' := by
  have TL := Lib.hid (fun W => lengths_any y W (by have := h.y0; omega) (by have := h.y1; omega))
  have TB := Lib.hid (fun z W g0 g1 => before_any z W g0 g1)
  have HLX := Lib.hid (fun i g => lens_index y i g)
  have HS := Lib.hid h.start
  have HLOW := Lib.hid (fun z g => h.low (z := z) g)
  have HY := Lib.hid h.year
  have HPAST := Lib.hid (fun (i : Nat) g => h.past (i := (i : Int)) (by omega) g)
  have HHERE := Lib.hid h.here
  have HDM := Lib.hid h.d1
  have HCS := Lib.hid (fun z i h => cum_succ z i h)
  have HCB := Lib.hid (fun z i => cum_bounds z i)
  have HMB := Lib.hid (fun z i => mlen_bounds z i)
  obtain ⟨n0, n1⟩ := h.range
  have y0 := h.y0
  have y1 := h.y1
  have k1 : k ≤ 11 := by have := h.k1; omega
  have d0 := h.d0
  have d1 : d ≤ 31 := by have := h.d1; have := mlen_bounds y k; omega
  have hbb : -1000000 ≤ before y ∧ before y ≤ 10000000 := by unfold before; omega
  have t1 : decide (n < 1) = false := decide_eq_false (by omega)
  have t2 : decide (2958464 < n) = false := decide_eq_false (by omega)
  clear h
  go_enter Tryz.func277, Tryz.ntmps277
  go_wp2_with fail
  refine (TB.out 10000 _ (by decide) (by decide)).mono ?_
  rintro e w1 ⟨rfl, rfl⟩
  rw [before_end]
  go_wp2
  go_loopg [6] (y - (1900 + n / 366)).toNat (fun gh v6 wx => ∃ z : Int, 1900 ≤ z ∧ z ≤ y ∧ gh = (y - z).toNat ∧ v6 = .int .i64 z ∧ wx = w1)
  case atStart => exact ⟨1900 + n / 366, by omega, HS.out, rfl, by first | rfl | (congr 1; omega) | go_num, rfl⟩
  case round =>
    obtain ⟨z, z0, z1, hgh, rfl, rfl⟩ := hrel
    have hw1 : IntKind.i64.wrap (z + 1) = z + 1 := IntWalk.i64_in _ (by omega)
    by_cases hz : z < y
    · have hd : decide (before (z + 1) < n) = true := decide_eq_true (HLOW.out z hz)
      go_wp2_with fail
      refine (TB.out (z + 1) _ (by omega) (by omega)).mono ?_
      rintro e w2 ⟨rfl, rfl⟩
      go_wp2
      go_roundg (y - (z + 1)).toNat
      case measure => omega
      case rel => exact ⟨z + 1, by omega, by omega, rfl, rfl, rfl⟩
    · obtain rfl : z = y := by omega
      have hd : decide (before (z + 1) < n) = false := decide_eq_false (by have := HY.out; omega)
      go_wp2_with fail
      refine (TB.out (z + 1) _ (by omega) (by omega)).mono ?_
      rintro e w2 ⟨rfl, rfl⟩
      go_wp2_with fail
      refine (TB.out z _ (by omega) (by omega)).mono ?_
      rintro e w3 ⟨rfl, rfl⟩
      go_wp2_with fail
      refine (TL.out _).mono ?_
      rintro e W ⟨rfl, hb⟩
      have HL := Lib.hid hb
      clear hb hd
      have HWX := Lib.hid (fun i g => HLX.out i g W)
      obtain ⟨LC, hLC⟩ : ∃ L, lensC (febr z) = L := ⟨_, rfl⟩
      rw [hLC] at HWX ⊢
      clear hLC
      go_wp2
      obtain ⟨BF, hBF⟩ : ∃ x, before z = x := ⟨_, rfl⟩
      have HP := Lib.hid (show ∀ i : Nat, (i : Int) < k → mlen z i < n - BF - cum z i from fun i g => by rw [← hBF]; exact HPAST.out i g)
      rw [hBF] at hbb HHERE ⊢
      clear hBF
      go_loopg [7, 8, 9, 33] k (fun gh v7 v8 v9 v33 wx => ∃ i : Nat, i + gh = k ∧ v7 = .int .i64 (n - BF - cum z i) ∧ v33 = .int .i64 (i : Int) ∧ wx = W)
      case atStart => exact ⟨0, by omega, by rw [show ((0 : Nat) : Int) = 0 from rfl, cum_zero]; go_num, by go_num, rfl⟩
      case round =>
        obtain ⟨i, hi, rfl, rfl, rfl⟩ := hrel
        have hcb := HCB.out z (i : Int)
        have hmb := HMB.out z (i : Int)
        have hix := HWX.out i (by omega)
        have h12 : decide ((i : Int) < 12) = true := decide_eq_true (by omega)
        by_cases hik : i < k
        · have hd : decide (n - BF - cum z (i : Int) ≤ mlen z (i : Int)) = false := decide_eq_false (by have := HP.out i (by omega); omega)
          have HN := Lib.hid (HCS.out z (i : Int) (by omega) (by omega))
          obtain ⟨CI, hCI⟩ : ∃ x, cum z (i : Int) = x := ⟨_, rfl⟩
          obtain ⟨MI, hMI⟩ : ∃ x, mlen z (i : Int) = x := ⟨_, rfl⟩
          rw [hCI] at hcb hd HN ⊢
          rw [hMI] at hmb hd HN hix
          clear hCI hMI
          go_wp2
          go_roundg (gk - 1)
          case measure => omega
          case rel => exact ⟨i + 1, by omega, by rw [show ((i + 1 : Nat) : Int) = (i : Int) + 1 by omega, HN.out]; go_num, by go_num, rfl⟩
        · obtain rfl : i = k := by omega
          rw [HHERE.out]
          have hm := HHERE.out
          have hd : decide (d ≤ mlen z (i : Int)) = true := decide_eq_true HDM.out
          obtain ⟨MI, hMI⟩ : ∃ x, mlen z (i : Int) = x := ⟨_, rfl⟩
          rw [hMI] at hmb hd hix
          clear hMI hm
          go_wp2
          refine bodyPost_ret (v := .tuple #[.int .i64 z, .int .i64 ((i : Int) + 1), .int .i64 d, .bool true]) (by simp [results, Tryz.results277, go_sem]) rfl ⟨rfl, HL.out⟩
end Go.Proofs.YtphfefmlappidaaGreatDoor.Num

/- package fdate: wrong, first, part, edate. Conditions: the dates lie between 1900 and 9999. -/
namespace Go.Proofs.YtphfefmlappidaaGreatDoor.Num
open Go.RowKit Go.Lib

set_option linter.unusedSimpArgs false in
set_option linter.unusedVariables false in
set_option maxHeartbeats 2000000 in
set_option maxRecDepth 100000 in
theorem wrong_no (w : World) : Calls Tryz.prog 276 #[.bool false] w fun e w' => e = .returned (.tuple #[]) ∧ w' = w := by
  go_enter Tryz.func276, Tryz.ntmps276
  go_wp2
  go_end0
  exact ⟨rfl, rfl⟩

set_option linter.unusedSimpArgs false in
set_option linter.unusedVariables false in
set_option maxHeartbeats 2000000 in
set_option maxRecDepth 100000 in
theorem first_any (m : Int) (w : World) (h0 : 22800 ≤ m) (h1 : m ≤ 119999) : Calls Tryz.prog 275 #[.int .i64 m] w fun e w' => e = .returned (.int .i64 (firstDay m)) ∧ Below w.heap.size w w' := by
  obtain ⟨k, hk⟩ : ∃ k : Nat, m % 12 = k := ⟨(m % 12).toNat, by omega⟩
  obtain ⟨y, hy⟩ : ∃ y, m / 12 = y := ⟨_, rfl⟩
  have hf : firstDay m = dayNo y k 1 := by unfold firstDay dayNo; rw [hk, hy]; omega
  have TD := Lib.hid (fun W => day_any y 1 k W (by omega) (by omega) (by omega) (by omega) (by have := mlen_bounds y k; omega))
  rw [hf]
  have t1 : decide (m < 22800) = false := decide_eq_false (by omega)
  have t2 : decide (120000 ≤ m) = false := decide_eq_false (by omega)
  have hq : y = m / 12 := hy.symm
  have hr : (k : Int) = m % 12 := hk.symm
  obtain ⟨R, hR⟩ : ∃ R, dayNo y k 1 = R := ⟨_, rfl⟩
  rw [hR] at TD ⊢
  have hw1 : IntKind.i64.wrap ((k : Int) + 1) = (k : Int) + 1 := IntWalk.i64_in _ (by omega)
  have HK := Lib.hid hk
  have HY := Lib.hid hy
  clear hf hR hq hr hk hy
  go_enter Tryz.func275, Tryz.ntmps275
  go_wp2_with fail
  refine (wrong_no _).mono ?_
  rintro e w1 ⟨rfl, rfl⟩
  go_wp2_with fail
  simp only [HY.out, HK.out]
  refine (TD.out _).mono ?_
  rintro e W1 ⟨rfl, hb⟩
  go_wp2
  go_ret
  exact ⟨rfl, hb⟩

set_option linter.unusedSimpArgs false in
set_option linter.unusedVariables false in
set_option maxHeartbeats 2000000 in
set_option maxRecDepth 100000 in
theorem part_year (n y d : Int) (k : Nat) (w : World) (h : IsDate n y k d) : Calls Tryz.prog 157 #[.int .i64 n, .int .i64 0] w fun e w' => e = .returned (.int .i64 y) ∧ Below w.heap.size w w' := by
  have TD := Lib.hid (fun W => date_any n y d k W h)
  have hix : ∀ W : World, (Instr.index 192 (.agg #[.int .i64 y, .int .i64 ((k : Int) + 1), .int .i64 d]) (.int .i64 0)).run Tryz.prog W = .ok (.int .i64 y) W := fun _ => by kernel_rfl
  clear h
  go_enter Tryz.func157, Tryz.ntmps157
  go_wp2_with fail
  refine (TD.out _).mono ?_
  rintro e W1 ⟨rfl, hb⟩
  go_wp2
  go_ret
  exact ⟨rfl, hb⟩

set_option linter.unusedSimpArgs false in
set_option linter.unusedVariables false in
set_option maxHeartbeats 2000000 in
set_option maxRecDepth 100000 in
theorem part_month (n y d : Int) (k : Nat) (w : World) (h : IsDate n y k d) : Calls Tryz.prog 157 #[.int .i64 n, .int .i64 1] w fun e w' => e = .returned (.int .i64 ((k : Int) + 1)) ∧ Below w.heap.size w w' := by
  have TD := Lib.hid (fun W => date_any n y d k W h)
  have hix : ∀ W : World, (Instr.index 192 (.agg #[.int .i64 y, .int .i64 ((k : Int) + 1), .int .i64 d]) (.int .i64 1)).run Tryz.prog W = .ok (.int .i64 ((k : Int) + 1)) W := fun _ => by kernel_rfl
  clear h
  go_enter Tryz.func157, Tryz.ntmps157
  go_wp2_with fail
  refine (TD.out _).mono ?_
  rintro e W1 ⟨rfl, hb⟩
  go_wp2
  go_ret
  exact ⟨rfl, hb⟩

set_option linter.unusedSimpArgs false in
set_option linter.unusedVariables false in
set_option maxHeartbeats 2000000 in
set_option maxRecDepth 100000 in
theorem part_day (n y d : Int) (k : Nat) (w : World) (h : IsDate n y k d) : Calls Tryz.prog 157 #[.int .i64 n, .int .i64 2] w fun e w' => e = .returned (.int .i64 d) ∧ Below w.heap.size w w' := by
  have TD := Lib.hid (fun W => date_any n y d k W h)
  have hix : ∀ W : World, (Instr.index 192 (.agg #[.int .i64 y, .int .i64 ((k : Int) + 1), .int .i64 d]) (.int .i64 2)).run Tryz.prog W = .ok (.int .i64 d) W := fun _ => by kernel_rfl
  clear h
  go_enter Tryz.func157, Tryz.ntmps157
  go_wp2_with fail
  refine (TD.out _).mono ?_
  rintro e W1 ⟨rfl, hb⟩
  go_wp2
  go_ret
  exact ⟨rfl, hb⟩

set_option linter.unusedSimpArgs false in
set_option linter.unusedVariables false in
set_option maxHeartbeats 2000000 in
set_option maxRecDepth 100000 in
theorem edate_any (n y d m j : Int) (k : Nat) (w : World) (h : IsDate n y k d) (hm : 12 * y + k + j = m) (h0 : 22800 ≤ m) (h1 : m ≤ 119999) : Calls Tryz.prog 176 #[.int .i64 n, .int .i64 j] w fun e w' => e = .returned (.int .i64 (edateNo m d)) ∧ Below w.heap.size w w' := by
  have TD := Lib.hid (fun W => date_any n y d k W h)
  have TF := Lib.hid (fun W => first_any m W h0 h1)
  obtain ⟨K, hK⟩ : ∃ K : Nat, m % 12 = K := ⟨(m % 12).toNat, by omega⟩
  obtain ⟨Y, hY⟩ : ∃ Y, m / 12 = Y := ⟨_, rfl⟩
  have TM := Lib.hid (fun W => month_any Y K W (by omega) (by omega) (by omega))
  have y0 := h.y0; have y1 := h.y1; have k1 := h.k1; have d0 := h.d0
  have d1 : d ≤ 31 := by have := h.d1; have := mlen_bounds y k; omega
  have hmb := mlen_bounds Y K
  have hfb : -1000000 ≤ firstDay m ∧ firstDay m ≤ 10000000 := by
    have := cum_bounds (m / 12) (m % 12)
    unfold firstDay before; omega
  have hres : edateNo m d = firstDay m + min d (mlen Y K) - 1 := by unfold edateNo; rw [hK, hY]
  rw [hres]
  obtain ⟨F, hF⟩ : ∃ F, firstDay m = F := ⟨_, rfl⟩
  obtain ⟨M, hM⟩ : ∃ M, mlen Y K = M := ⟨_, rfl⟩
  rw [hF] at TF hfb ⊢
  rw [hM] at TM hmb ⊢
  have hm2 : 12 * y + ((k : Int) + 1) - 1 + j = m := by omega
  have HM := Lib.hid hm2
  have HK := Lib.hid hK
  have HY := Lib.hid hY
  have hjb : -2000000 ≤ j ∧ j ≤ 2000000 := by omega
  have HJB := Lib.hid hjb
  clear h hres hF hM hm hm2 hK hY
  go_enter Tryz.func176, Tryz.ntmps176
  go_wp2_with fail
  refine (TD.out _).mono ?_
  rintro e W1 ⟨rfl, hb⟩
  have HL := Lib.hid hb
  clear hb
  go_wp2_with fail
  simp only [HM.out]
  refine (TF.out _).mono ?_
  rintro e W2 ⟨rfl, hb⟩
  replace HL := Lib.hid (HL.out.trans (hb.mono HL.out.size))
  clear hb
  go_wp2_with fail
  simp only [HY.out, HK.out]
  refine (TM.out _).mono ?_
  rintro e W3 ⟨rfl, hb⟩
  replace HL := Lib.hid (HL.out.trans (hb.mono HL.out.size))
  clear hb
  go_wp2
  go_ret
  exact ⟨by first | rfl | (congr 2; omega), HL.out⟩

end Go.Proofs.YtphfefmlappidaaGreatDoor.Num

/- package fdate: day, YEAR, MONTH, DAY, DATE, WEEKDAY, EDATE, EOMONTH over their arguments. Conditions: dates between 1900 and 9999; the tables lie as they are laid. -/
namespace Go.Proofs.YtphfefmlappidaaGreatDoor.Num
open Go.RowKit Go.Lib

set_option linter.unusedSimpArgs false in
set_option linter.unusedVariables false in
set_option maxHeartbeats 2000000 in
set_option maxRecDepth 100000 in
theorem fd_day (b g L C n : Nat) (q : Rat) (N : Int) (W : World) (h : ArgsAt W b (some ⟨g, 0, none⟩) L C n) (hn : n < L) (hL : L ≤ 1000000000) (hne : g ≠ b) (hc : NumCells W g (0 + n * 9) q) (hq : fits q = true) (hN : q.floor = N) (h0 : 1 ≤ N) (h1 : N ≤ 2958464) (hE : Env W) (hP : Past b) :
    Calls Tryz.prog 158 #[.pointer (some ⟨b, 0, none⟩)] W fun e w' => e = .returned (.int .i64 N) ∧ ArgRet W b (some ⟨g, 0, none⟩) L C (n + 1) w' := by
  have TV := Lib.hid (fun W' a c e => argNum_any b g 0 L C n q W' a hn hL hne c hq e hP)
  have TD := Lib.hid (fun W' e => down_any q W' hq (by omega) (by omega) e)
  rw [hN] at TD
  rw [fracV_is q] at TV TD
  have t1 : decide (N < 1) = false := decide_eq_false (by omega)
  have t2 : decide (2958464 < N) = false := decide_eq_false (by omega)
  have HA := Lib.hid h
  have HC := Lib.hid hc
  have HE := Lib.hid hE
  have HP := Lib.hid hP
  clear h hc hE hn hL hne hP hq hN
  go_enter Tryz.func158, Tryz.ntmps158
  go_wp2_with fail
  refine (TV.out _ HA.out HC.out HE.out).mono ?_
  rintro e W1 ⟨rfl, ha, hg⟩
  replace HA := Lib.hid ha
  replace HE := Lib.hid (HE.out.kept hg HP.out)
  have HG := Lib.hid hg
  clear ha hg
  go_wp2_with fail
  refine (TD.out _ HE.out).mono ?_
  rintro e W2 ⟨rfl, hb⟩
  replace HA := Lib.hid (keep_block HA.out hb)
  replace HG := Lib.hid (kept_trans HG.out (kept_below hb))
  clear hb
  go_wp2_with fail
  refine (wrong_no _).mono ?_
  rintro e w3 ⟨rfl, rfl⟩
  go_wp2
  go_ret
  exact ⟨rfl, HA.out, HG.out⟩

set_option linter.unusedSimpArgs false in
set_option linter.unusedVariables false in
set_option maxHeartbeats 2000000 in
set_option maxRecDepth 100000 in
theorem fd_YEAR (b g C : Nat) (W : World) (q0 : Rat) (n y d : Int) (k : Nat) (hd : IsDate n y k d) (hq0 : fits q0 = true) (hN0 : q0.floor = n) (ha : ArgsAt W b (some ⟨g, 0, none⟩) 1 C 0) (hne : g ≠ b) (hc0 : NumCells W g (0 + 0 * 9) q0) (hE : Env W) (hP : Past b) :
    Calls Tryz.prog 156 #[.pointer (some ⟨b, 0, none⟩)] W fun e w' => e = .returned (.int .i64 y) ∧ W.grownBy w' (some b) := by
  obtain ⟨n0, n1⟩ := hd.range
  have T0 := Lib.hid (fun W' a c e => fd_day b g 1 C 0 q0 n W' a (by decide) (by decide) hne c hq0 hN0 (by omega) (by omega) e hP)
  have TP := Lib.hid (fun W => part_year n y d k W hd)
  have HA := Lib.hid ha
  have HE := Lib.hid hE
  have HP := Lib.hid hP
  have NG := Lib.hid hne
  have HG := Lib.hid (only_refl W (some b))
  have HC0 := Lib.hid hc0
  clear ha hE hP hne hc0 hq0 hN0 hd
  go_enter Tryz.func156, Tryz.ntmps156
  go_wp2_with fail
  refine (T0.out _ HA.out HC0.out HE.out).mono ?_
  rintro e W1 ⟨rfl, ha, hg⟩
  replace HA := Lib.hid ha
  replace HE := Lib.hid (HE.out.kept hg HP.out)
  replace HG := Lib.hid (kept_trans HG.out hg)
  replace HC0 := Lib.hid (HC0.out.kept hg NG.out)
  clear ha hg
  go_wp2_with fail
  refine (TP.out _).mono ?_
  rintro e W2 ⟨rfl, hb⟩
  replace HG := Lib.hid (kept_trans HG.out (kept_below hb))
  clear hb
  go_wp2
  go_ret
  exact ⟨by first | rfl | (congr 2; omega), HG.out⟩

set_option linter.unusedSimpArgs false in
set_option linter.unusedVariables false in
set_option maxHeartbeats 2000000 in
set_option maxRecDepth 100000 in
theorem fd_MONTH (b g C : Nat) (W : World) (q0 : Rat) (n y d : Int) (k : Nat) (hd : IsDate n y k d) (hq0 : fits q0 = true) (hN0 : q0.floor = n) (ha : ArgsAt W b (some ⟨g, 0, none⟩) 1 C 0) (hne : g ≠ b) (hc0 : NumCells W g (0 + 0 * 9) q0) (hE : Env W) (hP : Past b) :
    Calls Tryz.prog 159 #[.pointer (some ⟨b, 0, none⟩)] W fun e w' => e = .returned (.int .i64 ((k : Int) + 1)) ∧ W.grownBy w' (some b) := by
  obtain ⟨n0, n1⟩ := hd.range
  have T0 := Lib.hid (fun W' a c e => fd_day b g 1 C 0 q0 n W' a (by decide) (by decide) hne c hq0 hN0 (by omega) (by omega) e hP)
  have TP := Lib.hid (fun W => part_month n y d k W hd)
  have HA := Lib.hid ha
  have HE := Lib.hid hE
  have HP := Lib.hid hP
  have NG := Lib.hid hne
  have HG := Lib.hid (only_refl W (some b))
  have HC0 := Lib.hid hc0
  clear ha hE hP hne hc0 hq0 hN0 hd
  go_enter Tryz.func159, Tryz.ntmps159
  go_wp2_with fail
  refine (T0.out _ HA.out HC0.out HE.out).mono ?_
  rintro e W1 ⟨rfl, ha, hg⟩
  replace HA := Lib.hid ha
  replace HE := Lib.hid (HE.out.kept hg HP.out)
  replace HG := Lib.hid (kept_trans HG.out hg)
  replace HC0 := Lib.hid (HC0.out.kept hg NG.out)
  clear ha hg
  go_wp2_with fail
  refine (TP.out _).mono ?_
  rintro e W2 ⟨rfl, hb⟩
  replace HG := Lib.hid (kept_trans HG.out (kept_below hb))
  clear hb
  go_wp2
  go_ret
  exact ⟨by first | rfl | (congr 2; omega), HG.out⟩

set_option linter.unusedSimpArgs false in
set_option linter.unusedVariables false in
set_option maxHeartbeats 2000000 in
set_option maxRecDepth 100000 in
theorem fd_DAY (b g C : Nat) (W : World) (q0 : Rat) (n y d : Int) (k : Nat) (hd : IsDate n y k d) (hq0 : fits q0 = true) (hN0 : q0.floor = n) (ha : ArgsAt W b (some ⟨g, 0, none⟩) 1 C 0) (hne : g ≠ b) (hc0 : NumCells W g (0 + 0 * 9) q0) (hE : Env W) (hP : Past b) :
    Calls Tryz.prog 160 #[.pointer (some ⟨b, 0, none⟩)] W fun e w' => e = .returned (.int .i64 d) ∧ W.grownBy w' (some b) := by
  obtain ⟨n0, n1⟩ := hd.range
  have T0 := Lib.hid (fun W' a c e => fd_day b g 1 C 0 q0 n W' a (by decide) (by decide) hne c hq0 hN0 (by omega) (by omega) e hP)
  have TP := Lib.hid (fun W => part_day n y d k W hd)
  have HA := Lib.hid ha
  have HE := Lib.hid hE
  have HP := Lib.hid hP
  have NG := Lib.hid hne
  have HG := Lib.hid (only_refl W (some b))
  have HC0 := Lib.hid hc0
  clear ha hE hP hne hc0 hq0 hN0 hd
  go_enter Tryz.func160, Tryz.ntmps160
  go_wp2_with fail
  refine (T0.out _ HA.out HC0.out HE.out).mono ?_
  rintro e W1 ⟨rfl, ha, hg⟩
  replace HA := Lib.hid ha
  replace HE := Lib.hid (HE.out.kept hg HP.out)
  replace HG := Lib.hid (kept_trans HG.out hg)
  replace HC0 := Lib.hid (HC0.out.kept hg NG.out)
  clear ha hg
  go_wp2_with fail
  refine (TP.out _).mono ?_
  rintro e W2 ⟨rfl, hb⟩
  replace HG := Lib.hid (kept_trans HG.out (kept_below hb))
  clear hb
  go_wp2
  go_ret
  exact ⟨by first | rfl | (congr 2; omega), HG.out⟩

set_option linter.unusedSimpArgs false in
set_option linter.unusedVariables false in
set_option maxHeartbeats 2000000 in
set_option maxRecDepth 100000 in
theorem fd_DATE (b g C : Nat) (W : World) (q0 q1 q2 : Rat) (y m d K : Int) (hy0 : 0 ≤ y) (hy1 : y ≤ 9999) (hm0 : -10000 ≤ m) (hm1 : m ≤ 10000) (hd0 : -100000 ≤ d) (hd1 : d ≤ 100000) (hK : 12 * y + m - 1 = K) (hK0 : 22800 ≤ K) (hK1 : K ≤ 119999) (hr0 : 1 ≤ firstDay K + d - 1) (hr1 : firstDay K + d - 1 ≤ 2958464) (hq0 : fits q0 = true) (hN0 : q0.floor = y) (hq1 : fits q1 = true) (hN1 : q1.floor = m) (hq2 : fits q2 = true) (hN2 : q2.floor = d) (ha : ArgsAt W b (some ⟨g, 0, none⟩) 3 C 0) (hne : g ≠ b) (hc0 : NumCells W g (0 + 0 * 9) q0) (hc1 : NumCells W g (0 + 1 * 9) q1) (hc2 : NumCells W g (0 + 2 * 9) q2) (hE : Env W) (hP : Past b) :
    Calls Tryz.prog 155 #[.pointer (some ⟨b, 0, none⟩)] W fun e w' => e = .returned (.int .i64 (firstDay K + d - 1)) ∧ W.grownBy w' (some b) := by
  have T0 := Lib.hid (fun W' a c e => argWhole_any b g 0 3 C 0 q0 W' a (by decide) (by decide) hne c hq0 (by omega) (by omega) e hP)
  rw [hN0] at T0
  have T1 := Lib.hid (fun W' a c e => argWhole_any b g 0 3 C 1 q1 W' a (by decide) (by decide) hne c hq1 (by omega) (by omega) e hP)
  rw [hN1] at T1
  have T2 := Lib.hid (fun W' a c e => argWhole_any b g 0 3 C 2 q2 W' a (by decide) (by decide) hne c hq2 (by omega) (by omega) e hP)
  rw [hN2] at T2
  have TF := Lib.hid (fun W => first_any K W hK0 hK1)
  obtain ⟨F, hF⟩ : ∃ F, firstDay K = F := ⟨_, rfl⟩
  rw [hF] at TF hr0 hr1 ⊢
  have HK := Lib.hid hK
  have t1 : decide (F + d - 1 < 1) = false := decide_eq_false (by omega)
  have t2 : decide (2958464 < F + d - 1) = false := decide_eq_false (by omega)
  have HA := Lib.hid ha
  have HE := Lib.hid hE
  have HP := Lib.hid hP
  have NG := Lib.hid hne
  have HG := Lib.hid (only_refl W (some b))
  have HC0 := Lib.hid hc0
  have HC1 := Lib.hid hc1
  have HC2 := Lib.hid hc2
  clear ha hE hP hne hc0 hq0 hN0 hc1 hq1 hN1 hc2 hq2 hN2 hF hK
  go_enter Tryz.func155, Tryz.ntmps155
  go_wp2_with fail
  refine (T0.out _ HA.out HC0.out HE.out).mono ?_
  rintro e W1 ⟨rfl, ha, hg⟩
  replace HA := Lib.hid ha
  replace HE := Lib.hid (HE.out.kept hg HP.out)
  replace HG := Lib.hid (kept_trans HG.out hg)
  replace HC0 := Lib.hid (HC0.out.kept hg NG.out)
  replace HC1 := Lib.hid (HC1.out.kept hg NG.out)
  replace HC2 := Lib.hid (HC2.out.kept hg NG.out)
  clear ha hg
  go_wp2_with fail
  refine (T1.out _ HA.out HC1.out HE.out).mono ?_
  rintro e W2 ⟨rfl, ha, hg⟩
  replace HA := Lib.hid ha
  replace HE := Lib.hid (HE.out.kept hg HP.out)
  replace HG := Lib.hid (kept_trans HG.out hg)
  replace HC0 := Lib.hid (HC0.out.kept hg NG.out)
  replace HC1 := Lib.hid (HC1.out.kept hg NG.out)
  replace HC2 := Lib.hid (HC2.out.kept hg NG.out)
  clear ha hg
  go_wp2_with fail
  refine (T2.out _ HA.out HC2.out HE.out).mono ?_
  rintro e W3 ⟨rfl, ha, hg⟩
  replace HA := Lib.hid ha
  replace HE := Lib.hid (HE.out.kept hg HP.out)
  replace HG := Lib.hid (kept_trans HG.out hg)
  replace HC0 := Lib.hid (HC0.out.kept hg NG.out)
  replace HC1 := Lib.hid (HC1.out.kept hg NG.out)
  replace HC2 := Lib.hid (HC2.out.kept hg NG.out)
  clear ha hg
  go_wp2_with fail
  simp only [HK.out]
  refine (TF.out _).mono ?_
  rintro e W4 ⟨rfl, hb⟩
  replace HG := Lib.hid (kept_trans HG.out (kept_below hb))
  clear hb
  go_wp2_with fail
  refine (wrong_no _).mono ?_
  rintro e W5 ⟨rfl, rfl⟩
  go_wp2
  go_ret
  exact ⟨by first | rfl | (congr 2; omega), HG.out⟩

set_option linter.unusedSimpArgs false in
set_option linter.unusedVariables false in
set_option maxHeartbeats 2000000 in
set_option maxRecDepth 100000 in
theorem fd_WEEKDAY2 (b g C : Nat) (W : World) (q0 q1 : Rat) (n : Int) (n0 : 1 ≤ n) (n1 : n ≤ 2958464) (hq0 : fits q0 = true) (hN0 : q0.floor = n) (hq1 : fits q1 = true) (hN1 : q1.floor = 2) (ha : ArgsAt W b (some ⟨g, 0, none⟩) 2 C 0) (hne : g ≠ b) (hc0 : NumCells W g (0 + 0 * 9) q0) (hc1 : NumCells W g (0 + 1 * 9) q1) (hE : Env W) (hP : Past b) :
    Calls Tryz.prog 171 #[.pointer (some ⟨b, 0, none⟩)] W fun e w' => e = .returned (.int .i64 ((n + 6) % 7 + 1)) ∧ W.grownBy w' (some b) := by
  have T0 := Lib.hid (fun W' a c e => fd_day b g 2 C 0 q0 n W' a (by decide) (by decide) hne c hq0 hN0 (by omega) (by omega) e hP)
  have T1 := Lib.hid (fun W' a c e => wholeOr_some b g 0 2 C 1 q1 1 W' a (by decide) (by decide) hne c hq1 (by omega) (by omega) e hP)
  rw [hN1] at T1
  have HA := Lib.hid ha
  have HE := Lib.hid hE
  have HP := Lib.hid hP
  have NG := Lib.hid hne
  have HG := Lib.hid (only_refl W (some b))
  have HC0 := Lib.hid hc0
  have HC1 := Lib.hid hc1
  clear ha hE hP hne hc0 hq0 hN0 hc1 hq1 hN1 
  go_enter Tryz.func171, Tryz.ntmps171
  go_wp2_with fail
  refine (T0.out _ HA.out HC0.out HE.out).mono ?_
  rintro e W1 ⟨rfl, ha, hg⟩
  replace HA := Lib.hid ha
  replace HE := Lib.hid (HE.out.kept hg HP.out)
  replace HG := Lib.hid (kept_trans HG.out hg)
  replace HC0 := Lib.hid (HC0.out.kept hg NG.out)
  replace HC1 := Lib.hid (HC1.out.kept hg NG.out)
  clear ha hg
  go_wp2_with fail
  refine (T1.out _ HA.out HC1.out HE.out).mono ?_
  rintro e W2 ⟨rfl, ha, hg⟩
  replace HA := Lib.hid ha
  replace HE := Lib.hid (HE.out.kept hg HP.out)
  replace HG := Lib.hid (kept_trans HG.out hg)
  replace HC0 := Lib.hid (HC0.out.kept hg NG.out)
  replace HC1 := Lib.hid (HC1.out.kept hg NG.out)
  clear ha hg
  go_wp2
  go_ret
  exact ⟨by first | rfl | (congr 2; omega), HG.out⟩

set_option linter.unusedSimpArgs false in
set_option linter.unusedVariables false in
set_option maxHeartbeats 2000000 in
set_option maxRecDepth 100000 in
theorem fd_WEEKDAY3 (b g C : Nat) (W : World) (q0 q1 : Rat) (n : Int) (n0 : 1 ≤ n) (n1 : n ≤ 2958464) (hq0 : fits q0 = true) (hN0 : q0.floor = n) (hq1 : fits q1 = true) (hN1 : q1.floor = 3) (ha : ArgsAt W b (some ⟨g, 0, none⟩) 2 C 0) (hne : g ≠ b) (hc0 : NumCells W g (0 + 0 * 9) q0) (hc1 : NumCells W g (0 + 1 * 9) q1) (hE : Env W) (hP : Past b) :
    Calls Tryz.prog 171 #[.pointer (some ⟨b, 0, none⟩)] W fun e w' => e = .returned (.int .i64 ((n + 6) % 7)) ∧ W.grownBy w' (some b) := by
  have T0 := Lib.hid (fun W' a c e => fd_day b g 2 C 0 q0 n W' a (by decide) (by decide) hne c hq0 hN0 (by omega) (by omega) e hP)
  have T1 := Lib.hid (fun W' a c e => wholeOr_some b g 0 2 C 1 q1 1 W' a (by decide) (by decide) hne c hq1 (by omega) (by omega) e hP)
  rw [hN1] at T1
  have HA := Lib.hid ha
  have HE := Lib.hid hE
  have HP := Lib.hid hP
  have NG := Lib.hid hne
  have HG := Lib.hid (only_refl W (some b))
  have HC0 := Lib.hid hc0
  have HC1 := Lib.hid hc1
  clear ha hE hP hne hc0 hq0 hN0 hc1 hq1 hN1 
  go_enter Tryz.func171, Tryz.ntmps171
  go_wp2_with fail
  refine (T0.out _ HA.out HC0.out HE.out).mono ?_
  rintro e W1 ⟨rfl, ha, hg⟩
  replace HA := Lib.hid ha
  replace HE := Lib.hid (HE.out.kept hg HP.out)
  replace HG := Lib.hid (kept_trans HG.out hg)
  replace HC0 := Lib.hid (HC0.out.kept hg NG.out)
  replace HC1 := Lib.hid (HC1.out.kept hg NG.out)
  clear ha hg
  go_wp2_with fail
  refine (T1.out _ HA.out HC1.out HE.out).mono ?_
  rintro e W2 ⟨rfl, ha, hg⟩
  replace HA := Lib.hid ha
  replace HE := Lib.hid (HE.out.kept hg HP.out)
  replace HG := Lib.hid (kept_trans HG.out hg)
  replace HC0 := Lib.hid (HC0.out.kept hg NG.out)
  replace HC1 := Lib.hid (HC1.out.kept hg NG.out)
  clear ha hg
  go_wp2
  go_ret
  exact ⟨by first | rfl | (congr 2; omega), HG.out⟩

set_option linter.unusedSimpArgs false in
set_option linter.unusedVariables false in
set_option maxHeartbeats 2000000 in
set_option maxRecDepth 100000 in
theorem fd_EDATE (b g C : Nat) (W : World) (q0 q1 : Rat) (n y d m j : Int) (k : Nat) (hd : IsDate n y k d) (hm : 12 * y + k + j = m) (h0 : 22800 ≤ m) (h1 : m ≤ 119999) (hq0 : fits q0 = true) (hN0 : q0.floor = n) (hq1 : fits q1 = true) (hN1 : q1.floor = j) (ha : ArgsAt W b (some ⟨g, 0, none⟩) 2 C 0) (hne : g ≠ b) (hc0 : NumCells W g (0 + 0 * 9) q0) (hc1 : NumCells W g (0 + 1 * 9) q1) (hE : Env W) (hP : Past b) :
    Calls Tryz.prog 175 #[.pointer (some ⟨b, 0, none⟩)] W fun e w' => e = .returned (.int .i64 (edateNo m d)) ∧ W.grownBy w' (some b) := by
  obtain ⟨n0, n1⟩ := hd.range
  have y0 := hd.y0; have y1 := hd.y1; have k1 := hd.k1
  have T0 := Lib.hid (fun W' a c e => fd_day b g 2 C 0 q0 n W' a (by decide) (by decide) hne c hq0 hN0 (by omega) (by omega) e hP)
  have T1 := Lib.hid (fun W' a c e => argWhole_any b g 0 2 C 1 q1 W' a (by decide) (by decide) hne c hq1 (by omega) (by omega) e hP)
  rw [hN1] at T1
  have TP := Lib.hid (fun W => edate_any n y d m j k W hd hm h0 h1)
  have HA := Lib.hid ha
  have HE := Lib.hid hE
  have HP := Lib.hid hP
  have NG := Lib.hid hne
  have HG := Lib.hid (only_refl W (some b))
  have HC0 := Lib.hid hc0
  have HC1 := Lib.hid hc1
  clear ha hE hP hne hc0 hq0 hN0 hc1 hq1 hN1 hd hm h0 h1
  go_enter Tryz.func175, Tryz.ntmps175
  go_wp2_with fail
  refine (T0.out _ HA.out HC0.out HE.out).mono ?_
  rintro e W1 ⟨rfl, ha, hg⟩
  replace HA := Lib.hid ha
  replace HE := Lib.hid (HE.out.kept hg HP.out)
  replace HG := Lib.hid (kept_trans HG.out hg)
  replace HC0 := Lib.hid (HC0.out.kept hg NG.out)
  replace HC1 := Lib.hid (HC1.out.kept hg NG.out)
  clear ha hg
  go_wp2_with fail
  refine (T1.out _ HA.out HC1.out HE.out).mono ?_
  rintro e W2 ⟨rfl, ha, hg⟩
  replace HA := Lib.hid ha
  replace HE := Lib.hid (HE.out.kept hg HP.out)
  replace HG := Lib.hid (kept_trans HG.out hg)
  replace HC0 := Lib.hid (HC0.out.kept hg NG.out)
  replace HC1 := Lib.hid (HC1.out.kept hg NG.out)
  clear ha hg
  go_wp2_with fail
  refine (TP.out _).mono ?_
  rintro e W3 ⟨rfl, hb⟩
  replace HG := Lib.hid (kept_trans HG.out (kept_below hb))
  clear hb
  go_wp2
  go_ret
  exact ⟨by first | rfl | (congr 2; omega), HG.out⟩

end Go.Proofs.YtphfefmlappidaaGreatDoor.Num

/- package fdate's table of functions: how it lies as a map. No conditions. -/
namespace Go.Proofs.YtphfefmlappidaaGreatDoor.Num.Fd
open Go.RowKit Go.Lib Go.MapKept Num

attribute [local go_sem] run_store_func
/-- a function value that wraps the row's function -/
def RowFn (w : World) (v : Value) (r : Row) : Prop :=
  if r.num then ∃ e f, v = .func (.func 278) #[] #[.pointer (some ⟨e, 0, none⟩)] ∧ w.cell? ⟨e, 0, none⟩ = some (.func (.func 274) #[] #[.pointer (some ⟨f, 0, none⟩)]) ∧ w.cell? ⟨f, 0, none⟩ = some (.func (.func r.fn) #[] #[])
  else ∃ e, v = .func (.func 278) #[] #[.pointer (some ⟨e, 0, none⟩)] ∧ w.cell? ⟨e, 0, none⟩ = some (.func (.func r.fn) #[] #[])
/-- an entry of the table as it lies in the map -/
def EntryAt (w : World) (x : MapEntry) (r : Row) : Prop := x.key = .string r.name ∧ ∃ v, x.val = .agg #[.int .i64 r.least, .int .i64 r.most, .string r.kinds, v] ∧ RowFn w v r
/-- block b is a map with just these rows -/
def TableAt (w : World) (b : Nat) (l : List Row) : Prop :=
  ∃ es clock, w.heap[b]? = some (.map es clock) ∧ es.size = l.length ∧ ∀ i (h : i < l.length) (h' : i < es.size), EntryAt w es[i] l[i]

theorem RowFn.mono {w w' : World} {v : Value} {r : Row} (h : RowFn w v r) (hc : ∀ (p : Addr) (x : Value), w.cell? p = some x → w'.cell? p = some x) : RowFn w' v r := by
  unfold RowFn at h ⊢
  split
  · rename_i hn
    rw [if_pos hn] at h
    obtain ⟨e, f, h1, h2, h3⟩ := h
    exact ⟨e, f, h1, hc _ _ h2, hc _ _ h3⟩
  · rename_i hn
    rw [if_neg hn] at h
    obtain ⟨e, h1, h2⟩ := h
    exact ⟨e, h1, hc _ _ h2⟩
theorem EntryAt.mono {w w' : World} {x : MapEntry} {r : Row} (h : EntryAt w x r) (hc : ∀ (p : Addr) (x : Value), w.cell? p = some x → w'.cell? p = some x) : EntryAt w' x r :=
  let ⟨hk, v, hv, hr⟩ := h; ⟨hk, v, hv, hr.mono hc⟩
theorem TableAt.below {w w' : World} {b : Nat} {l : List Row} (h : TableAt w b l) (hb : Below w.heap.size w w') : TableAt w' b l := by
  obtain ⟨es, clock, hm, hs, he⟩ := h
  exact ⟨es, clock, keep_block hm hb, hs, fun i hi hi' => (he i hi hi').mono fun p x hp => cell_below hp hb⟩
theorem TableAt.made (w : World) : TableAt (w.alloc (.map #[] 0)) w.heap.size [] := ⟨#[], 0, heap_alloc_new w _, rfl, fun i hi => absurd hi (Nat.not_lt_zero _)⟩
theorem TableAt.store {w : World} {b mt kt et : Nat} {l : List Row} (h : TableAt w b l) (r : Row) (v : Value) (hr : RowFn w v r) (hf : Fresh r.name l) (hm : Tryz.prog.underlying mt = some (.map kt et)) (hk : Tryz.prog.underlying kt = some .string) :
    ∃ w', (Instr.mapUpdate mt (.map (some b)) (.string r.name) (.agg #[.int .i64 r.least, .int .i64 r.most, .string r.kinds, v])).run Tryz.prog w = .ok () w' ∧ TableAt w' b (l ++ [r]) ∧ w.grownBy w' (some b) := by
  obtain ⟨es, clock, hb, hs, he⟩ := h
  have hall : ∀ x ∈ es.toList, ∃ t, x.key = .string t ∧ (r.name == t) = false := by
    intro x hx
    obtain ⟨i, hi, rfl⟩ := List.getElem_of_mem hx
    have hi' : i < es.size := by simpa using hi
    have hil : i < l.length := by omega
    have := (he i hil hi').1
    exact ⟨l[i].name, by simpa using this, hf l[i] (List.getElem_mem hil)⟩
  have hfind := findNow_fresh r.name es.toList 0 hall
  have hc : (Instr.checkKey false 10000 kt (.string r.name)).run Tryz.prog w = .ok () w := MapKept.run_checkKey (k := .string r.name) hk (by simp [IsKey]) false 9999
  refine ⟨putMap w b (.map (es.push { key := .string r.name, val := .agg #[.int .i64 r.least, .int .i64 r.most, .string r.kinds, v], born := clock }) (clock + 1)), ?_, ?_, putMap_grown hb⟩
  · simp [Instr.mapUpdate, run_underlying hm, MapKept.run_getObj_map hb, hc, MapKept.run_findKey hk hfind, MapKept.run_setObj_map _ hb, Result.andThen, putMap]
  · refine ⟨_, _, (heap_set hb).1, by simp [hs], fun i hi hi' => ?_⟩
    by_cases hlt : i < es.size
    · have hil : i < l.length := by omega
      rw [Array.getElem_push_lt hlt, List.getElem_append_left hil]
      exact (he i hil hlt).mono (putMap_cell hb)
    · have : i = es.size := by simp at hi'; omega
      subst this
      rw [Array.getElem_push_eq]
      have hl : (l ++ [r])[es.size] = r := by simp [hs]
      rw [hl]
      exact ⟨rfl, v, rfl, hr.mono (putMap_cell hb)⟩
/-- the row at a name -/
theorem TableAt.look {w : World} {b mt kt et : Nat} {l : List Row} (h : TableAt w b l) (i : Nat) (hi : i < l.length) (hf : ∀ j (hj : j < i), (l[i].name == (l[j]'(by omega)).name) = false) (hm : Tryz.prog.underlying mt = some (.map kt et)) (hk : Tryz.prog.underlying kt = some .string) :
    ∃ v, RowFn w v l[i] ∧ (Instr.lookup mt (.map (some b)) (.string l[i].name) true).run Tryz.prog w = .ok (.tuple #[.agg #[.int .i64 l[i].least, .int .i64 l[i].most, .string l[i].kinds, v], .bool true]) w := by
  obtain ⟨es, clock, hb, hs, he⟩ := h
  have hi' : i < es.size := by omega
  obtain ⟨hkey, v, hv, hr⟩ := he i hi hi'
  refine ⟨v, hr, ?_⟩
  have hat : es.toList[i]? = some es[i] := by simp [hi']
  have hfind := findNow_at l[i].name es.toList i 0 es[i] hat hkey (fun j y hj hy => by
    have hjl : j < l.length := by omega
    have hje : j < es.size := by omega
    have hy' : es[j] = y := by simpa [hje] using hy
    exact ⟨l[j].name, by rw [← hy']; exact (he j hjl hje).1, hf j hj⟩)
  rw [Nat.zero_add, hv] at hfind
  have hc : (Instr.checkKey es.isEmpty 10000 kt (.string l[i].name)).run Tryz.prog w = .ok () w := MapKept.run_checkKey (k := .string l[i].name) hk (by simp [IsKey]) _ 9999
  simp [Instr.lookup, run_underlying hm, MapKept.run_getObj_map hb, hc, MapKept.run_findKey hk hfind, Result.andThen]

section
variable {ops : Array Oper} {rest : List Oper} {o : Oper} {a : Act} {Q : Exit → Act → World → Prop}
theorem wpList_insert_row (w : World) (hg : o.guard = none) (m x u : Operand) (t : TypeId) (hop : o.op = Op.insert t m x u ∨ o.op = Op.mapUpdate t m x u) {b kt et : Nat} {l : List Row} (hm : a.eval m = .map (some b)) (h : TableAt w b l) (r : Row) (v : Value) (hx : a.eval x = .string r.name) (hv : a.eval u = .agg #[.int .i64 r.least, .int .i64 r.most, .string r.kinds, v]) (hr : RowFn w v r) (hf : Fresh r.name l) (ht : Tryz.prog.underlying t = some (.map kt et)) (hk : Tryz.prog.underlying kt = some .string)
    (hK : ∀ w', TableAt w' b (l ++ [r]) → w.grownBy w' (some b) → wpList Tryz.prog ops Q rest (a.put o.dst undef) w') :
    wpList Tryz.prog ops Q (o :: rest) a w := by
  refine wpList_plain hg fun K' hK' => ?_
  obtain ⟨w', hrun, r1, r2⟩ := h.store r v hr hf ht hk
  unfold Oper.wp
  rcases hop with hop | hop
  · simp [execOp, hop, hm, hx, hv, hrun, Result.andThen]
    exact hK' _ _ (hK w' r1 r2)
  · simp [execOp, hop, hm, hx, hv, hrun, Result.andThen]
    exact hK' _ _ (hK w' r1 r2)
end

end Go.Proofs.YtphfefmlappidaaGreatDoor.Num.Fd

/- package fdate's table of functions. No conditions. -/
namespace Go.Proofs.YtphfefmlappidaaGreatDoor.Num.Fd
open Go.RowKit Go.Lib Go.MapKept Num

/-- what fdate.num and fdate.whole leave -/
def RowRet (w : World) (r : Row) (e : Ending) (w' : World) : Prop := ∃ v, e = .returned (.agg #[.int .i64 r.least, .int .i64 r.most, .string r.kinds, v]) ∧ RowFn w' v r ∧ Below w.heap.size w w'
attribute [local go_sem] run_store_func
set_option maxHeartbeats 1000000 in
theorem num_any (least most : Int) (kinds : ByteArray) (F : Value) (w : World) (hF : ∃ f c d, F = .func f c d) :
    Calls Tryz.prog 165 #[.int .i64 least, .int .i64 most, .string kinds, F] w fun e w' => e = .returned (.agg #[.int .i64 least, .int .i64 most, .string kinds, .func (.func 278) #[] #[.pointer (some ⟨w.heap.size, 0, none⟩)]]) ∧ w'.cell? ⟨w.heap.size, 0, none⟩ = some F ∧ Below w.heap.size w w' := by
  obtain ⟨f, c, d, rfl⟩ := hF
  have hmf : ∀ (fn : Fn) (first cap : Array Value) (w : World), (Instr.makeFunc fn first cap).run Tryz.prog w = .ok (.func fn first cap) w := fun _ _ _ _ => rfl
  go_enter Tryz.func165, Tryz.ntmps165
  go_wp2
  have hc : (((w.alloc (.cells #[.func f c d] 122)).alloc (.cells #[.int .i64 least, .int .i64 most, .string kinds, .func (.func 278) #[] #[.pointer (some ⟨w.heap.size, 0, none⟩)]] 109))).cell? ⟨w.heap.size, 0, none⟩ = some (.func f c d) :=
    Lib.cell_of_heap ((Below.heap_alloc _ _ _ (by simp)).trans (heap_alloc_new w _)) 0
  exact bodyPost_ret (v := .agg #[.int .i64 least, .int .i64 most, .string kinds, .func (.func 278) #[] #[.pointer (some ⟨w.heap.size, 0, none⟩)]]) (by simp [results, Tryz.results165, go_sem]) rfl ⟨rfl, hc, ((Below.refl _ _).alloc (Nat.le_refl _) _).alloc (by simp) _⟩
theorem num_row (r : Row) (hr : r.num = false) (w : World) : Calls Tryz.prog 165 #[.int .i64 r.least, .int .i64 r.most, .string r.kinds, .func (.func r.fn) #[] #[]] w (RowRet w r) :=
  (num_any r.least r.most r.kinds _ w ⟨_, _, _, rfl⟩).mono fun e w' ⟨he, hc, hb⟩ => ⟨_, he, by unfold RowFn; rw [hr, if_neg (by decide)]; exact ⟨_, rfl, hc⟩, hb⟩

set_option maxHeartbeats 1000000 in
theorem whole_row (r : Row) (hr : r.num = true) (w : World) : Calls Tryz.prog 154 #[.int .i64 r.least, .int .i64 r.most, .string r.kinds, .func (.func r.fn) #[] #[]] w (RowRet w r) := by
  obtain ⟨name, least, most, kinds, num, F⟩ := r
  simp only at hr
  subst hr
  have hmf : ∀ (fn : Fn) (first cap : Array Value) (w : World), (Instr.makeFunc fn first cap).run Tryz.prog w = .ok (.func fn first cap) w := fun _ _ _ _ => rfl
  obtain ⟨hx, hr, hb⟩ := two_new w (.cells #[.func (.func F) #[] #[]] 139) (.cells #[.int .i64 0, .int .i64 0, .string { data := #[] }, .nilFunc] 109)
  have HX := Lib.hid hx
  have HR := Lib.hid hr
  have HL := Lib.hid hb
  have TE := Lib.hid (fun W => num_any least most kinds (.func (.func 274) #[] #[.pointer (some ⟨w.heap.size, 0, none⟩)]) W ⟨_, _, _, rfl⟩)
  clear hx hr hb
  go_enter Tryz.func154, Tryz.ntmps154
  go_wp2_with fail
  refine (TE.out _).mono ?_
  rintro e W1 ⟨rfl, hc, hb⟩
  have HC := Lib.hid hc
  clear hc
  replace HX := Lib.hid (keep_block HX.out hb)
  replace HR := Lib.hid (keep_block HR.out hb)
  replace HL := Lib.hid (HL.out.trans (hb.mono HL.out.size))
  clear hb
  obtain ⟨⟨r0, r1, r2, r3⟩, f0, f1, f2, f3⟩ := quad_at HR.out
  go_wp2
  have hpos : ((w.alloc (.cells #[.func (.func F) #[] #[]] 139)).alloc (.cells #[.int .i64 0, .int .i64 0, .string { data := #[] }, .nilFunc] 109)).heap.size = w.heap.size + 1 + 1 := by simp
  rw [hpos] at HC
  have hF := set4_at HR.out (.int .i64 least) (.int .i64 most) (.string kinds) (.func (.func 278) #[] #[.pointer (some ⟨w.heap.size + 1 + 1, 0, none⟩)])
  obtain ⟨⟨e0, e1, e2, e3⟩, _⟩ := quad_at hF
  refine bodyPost_ret (v := .agg #[.int .i64 least, .int .i64 most, .string kinds, .func (.func 278) #[] #[.pointer (some ⟨w.heap.size + 1 + 1, 0, none⟩)]]) (by simp [results, Tryz.results154, go_sem, e0, e1, e2, e3]) rfl ⟨_, rfl, ?_, ?_⟩
  · unfold RowFn
    rw [if_pos rfl]
    refine ⟨_, _, rfl, but_cell HC.out (fun k hk => set4_other _ _ _ _ _ _ hk) (by simp only []; omega), ?_⟩
    exact but_cell (Lib.cell_of_heap HX.out 0) (fun k hk => set4_other _ _ _ _ _ _ hk) (by simp only []; omega)
  · have hge : w.heap.size ≤ w.heap.size + 1 := Nat.le_succ _
    exact (((HL.out.setCell (p := ⟨w.heap.size + 1, 0, none⟩) hge _).setCell (p := ⟨w.heap.size + 1, 1, none⟩) hge _).setCell (p := ⟨w.heap.size + 1, 2, none⟩) hge _).setCell (p := ⟨w.heap.size + 1, 3, none⟩) hge _

theorem whole_lit (name : ByteArray) (least most : Int) (kinds : ByteArray) (F : FuncId) (w : World) : Calls Tryz.prog 154 #[.int .i64 least, .int .i64 most, .string kinds, .func (.func F) #[] #[]] w fun e w' => ∃ v, e = .returned (.agg #[.int .i64 least, .int .i64 most, .string kinds, v]) ∧ RowFn w' v ⟨name, least, most, kinds, true, F⟩ ∧ Below w.heap.size w w' := whole_row ⟨name, least, most, kinds, true, F⟩ rfl w
theorem num_lit (name : ByteArray) (least most : Int) (kinds : ByteArray) (F : FuncId) (w : World) : Calls Tryz.prog 165 #[.int .i64 least, .int .i64 most, .string kinds, .func (.func F) #[] #[]] w fun e w' => ∃ v, e = .returned (.agg #[.int .i64 least, .int .i64 most, .string kinds, v]) ∧ RowFn w' v ⟨name, least, most, kinds, false, F⟩ ∧ Below w.heap.size w w' := num_row ⟨name, least, most, kinds, false, F⟩ rfl w

def allRows : List Row := [⟨{ data := #[68, 65, 84, 69] }, 3, 3, { data := #[115] }, true, 155⟩,
  ⟨{ data := #[89, 69, 65, 82] }, 1, 1, { data := #[115] }, true, 156⟩,
  ⟨{ data := #[77, 79, 78, 84, 72] }, 1, 1, { data := #[115] }, true, 159⟩,
  ⟨{ data := #[68, 65, 89] }, 1, 1, { data := #[115] }, true, 160⟩,
  ⟨{ data := #[72, 79, 85, 82] }, 1, 1, { data := #[115] }, true, 161⟩,
  ⟨{ data := #[77, 73, 78, 85, 84, 69] }, 1, 1, { data := #[115] }, true, 163⟩,
  ⟨{ data := #[83, 69, 67, 79, 78, 68] }, 1, 1, { data := #[115] }, true, 164⟩,
  ⟨{ data := #[84, 73, 77, 69] }, 3, 3, { data := #[115] }, false, 166⟩,
  ⟨{ data := #[68, 65, 84, 69, 86, 65, 76, 85, 69] }, 1, 1, { data := #[115] }, false, 167⟩,
  ⟨{ data := #[84, 73, 77, 69, 86, 65, 76, 85, 69] }, 1, 1, { data := #[115] }, false, 169⟩,
  ⟨{ data := #[68, 65, 89, 83] }, 2, 2, { data := #[115] }, false, 170⟩,
  ⟨{ data := #[87, 69, 69, 75, 68, 65, 89] }, 1, 2, { data := #[115] }, true, 171⟩,
  ⟨{ data := #[87, 69, 69, 75, 78, 85, 77] }, 1, 2, { data := #[115] }, true, 172⟩,
  ⟨{ data := #[73, 83, 79, 87, 69, 69, 75, 78, 85, 77] }, 1, 1, { data := #[115] }, true, 173⟩,
  ⟨{ data := #[69, 68, 65, 84, 69] }, 2, 2, { data := #[115] }, true, 175⟩,
  ⟨{ data := #[69, 79, 77, 79, 78, 84, 72] }, 2, 2, { data := #[115] }, true, 177⟩,
  ⟨{ data := #[68, 65, 84, 69, 68, 73, 70] }, 3, 3, { data := #[115] }, true, 178⟩,
  ⟨{ data := #[78, 69, 84, 87, 79, 82, 75, 68, 65, 89, 83] }, 2, 3, { data := #[115, 115, 97] }, true, 179⟩,
  ⟨{ data := #[87, 79, 82, 75, 68, 65, 89] }, 2, 3, { data := #[115, 115, 97] }, true, 180⟩,
  ⟨{ data := #[68, 65, 89, 83, 51, 54, 48] }, 2, 3, { data := #[115] }, true, 181⟩,
  ⟨{ data := #[89, 69, 65, 82, 70, 82, 65, 67] }, 2, 3, { data := #[115] }, false, 184⟩]
set_option maxHeartbeats 8000000 in
set_option maxRecDepth 100000 in
theorem table_any (w : World) : Calls Tryz.prog 63 #[] w fun e w' => ∃ b, e = .returned (.map (some b)) ∧ TableAt w' b allRows ∧ Below w.heap.size w w' := by
  have hmm := @run_makeMap Tryz.prog
  have TA := Lib.hid (show TableAt (w.alloc (.map #[] 0)) w.heap.size (allRows.take 0) from TableAt.made w)
  have HL := Lib.hid (show Below w.heap.size w (w.alloc (.map #[] 0)) from (Below.refl _ _).alloc (Nat.le_refl _) _)
  go_enter Tryz.func63, Tryz.ntmps63
  go_wp2_with fail
  refine (whole_lit { data := #[68, 65, 84, 69] } 3 3 { data := #[115] } 155 _).mono ?_
  rintro e W0 ⟨v, rfl, hr, hb⟩
  have RF := Lib.hid hr
  replace TA := Lib.hid (TA.out.below hb)
  replace HL := Lib.hid (HL.out.trans (hb.mono HL.out.size))
  clear hr hb
  go_wp2_with (first | (refine wpList_insert_row _ rfl _ _ _ _ (.inl rfl) rfl TA.out ⟨{ data := #[68, 65, 84, 69] }, 3, 3, { data := #[115] }, true, 155⟩ v rfl rfl RF.out (fresh_of (by kernel_rfl)) Tryz.underlying79 Tryz.underlying9 ?_; intro V0 ta hg; replace TA := Lib.hid (show TableAt V0 _ (allRows.take 1) from ta); replace HL := Lib.hid (below_map HL.out (Nat.le_refl _) hg); clear ta hg RF))
  go_wp2_with fail
  refine (whole_lit { data := #[89, 69, 65, 82] } 1 1 { data := #[115] } 156 _).mono ?_
  rintro e W1 ⟨v, rfl, hr, hb⟩
  have RF := Lib.hid hr
  replace TA := Lib.hid (TA.out.below hb)
  replace HL := Lib.hid (HL.out.trans (hb.mono HL.out.size))
  clear hr hb
  go_wp2_with (first | (refine wpList_insert_row _ rfl _ _ _ _ (.inl rfl) rfl TA.out ⟨{ data := #[89, 69, 65, 82] }, 1, 1, { data := #[115] }, true, 156⟩ v rfl rfl RF.out (fresh_of (by kernel_rfl)) Tryz.underlying79 Tryz.underlying9 ?_; intro V1 ta hg; replace TA := Lib.hid (show TableAt V1 _ (allRows.take 2) from ta); replace HL := Lib.hid (below_map HL.out (Nat.le_refl _) hg); clear ta hg RF))
  go_wp2_with fail
  refine (whole_lit { data := #[77, 79, 78, 84, 72] } 1 1 { data := #[115] } 159 _).mono ?_
  rintro e W2 ⟨v, rfl, hr, hb⟩
  have RF := Lib.hid hr
  replace TA := Lib.hid (TA.out.below hb)
  replace HL := Lib.hid (HL.out.trans (hb.mono HL.out.size))
  clear hr hb
  go_wp2_with (first | (refine wpList_insert_row _ rfl _ _ _ _ (.inl rfl) rfl TA.out ⟨{ data := #[77, 79, 78, 84, 72] }, 1, 1, { data := #[115] }, true, 159⟩ v rfl rfl RF.out (fresh_of (by kernel_rfl)) Tryz.underlying79 Tryz.underlying9 ?_; intro V2 ta hg; replace TA := Lib.hid (show TableAt V2 _ (allRows.take 3) from ta); replace HL := Lib.hid (below_map HL.out (Nat.le_refl _) hg); clear ta hg RF))
  go_wp2_with fail
  refine (whole_lit { data := #[68, 65, 89] } 1 1 { data := #[115] } 160 _).mono ?_
  rintro e W3 ⟨v, rfl, hr, hb⟩
  have RF := Lib.hid hr
  replace TA := Lib.hid (TA.out.below hb)
  replace HL := Lib.hid (HL.out.trans (hb.mono HL.out.size))
  clear hr hb
  go_wp2_with (first | (refine wpList_insert_row _ rfl _ _ _ _ (.inl rfl) rfl TA.out ⟨{ data := #[68, 65, 89] }, 1, 1, { data := #[115] }, true, 160⟩ v rfl rfl RF.out (fresh_of (by kernel_rfl)) Tryz.underlying79 Tryz.underlying9 ?_; intro V3 ta hg; replace TA := Lib.hid (show TableAt V3 _ (allRows.take 4) from ta); replace HL := Lib.hid (below_map HL.out (Nat.le_refl _) hg); clear ta hg RF))
  go_wp2_with fail
  refine (whole_lit { data := #[72, 79, 85, 82] } 1 1 { data := #[115] } 161 _).mono ?_
  rintro e W4 ⟨v, rfl, hr, hb⟩
  have RF := Lib.hid hr
  replace TA := Lib.hid (TA.out.below hb)
  replace HL := Lib.hid (HL.out.trans (hb.mono HL.out.size))
  clear hr hb
  go_wp2_with (first | (refine wpList_insert_row _ rfl _ _ _ _ (.inl rfl) rfl TA.out ⟨{ data := #[72, 79, 85, 82] }, 1, 1, { data := #[115] }, true, 161⟩ v rfl rfl RF.out (fresh_of (by kernel_rfl)) Tryz.underlying79 Tryz.underlying9 ?_; intro V4 ta hg; replace TA := Lib.hid (show TableAt V4 _ (allRows.take 5) from ta); replace HL := Lib.hid (below_map HL.out (Nat.le_refl _) hg); clear ta hg RF))
  go_wp2_with fail
  refine (whole_lit { data := #[77, 73, 78, 85, 84, 69] } 1 1 { data := #[115] } 163 _).mono ?_
  rintro e W5 ⟨v, rfl, hr, hb⟩
  have RF := Lib.hid hr
  replace TA := Lib.hid (TA.out.below hb)
  replace HL := Lib.hid (HL.out.trans (hb.mono HL.out.size))
  clear hr hb
  go_wp2_with (first | (refine wpList_insert_row _ rfl _ _ _ _ (.inl rfl) rfl TA.out ⟨{ data := #[77, 73, 78, 85, 84, 69] }, 1, 1, { data := #[115] }, true, 163⟩ v rfl rfl RF.out (fresh_of (by kernel_rfl)) Tryz.underlying79 Tryz.underlying9 ?_; intro V5 ta hg; replace TA := Lib.hid (show TableAt V5 _ (allRows.take 6) from ta); replace HL := Lib.hid (below_map HL.out (Nat.le_refl _) hg); clear ta hg RF))
  go_wp2_with fail
  refine (whole_lit { data := #[83, 69, 67, 79, 78, 68] } 1 1 { data := #[115] } 164 _).mono ?_
  rintro e W6 ⟨v, rfl, hr, hb⟩
  have RF := Lib.hid hr
  replace TA := Lib.hid (TA.out.below hb)
  replace HL := Lib.hid (HL.out.trans (hb.mono HL.out.size))
  clear hr hb
  go_wp2_with (first | (refine wpList_insert_row _ rfl _ _ _ _ (.inl rfl) rfl TA.out ⟨{ data := #[83, 69, 67, 79, 78, 68] }, 1, 1, { data := #[115] }, true, 164⟩ v rfl rfl RF.out (fresh_of (by kernel_rfl)) Tryz.underlying79 Tryz.underlying9 ?_; intro V6 ta hg; replace TA := Lib.hid (show TableAt V6 _ (allRows.take 7) from ta); replace HL := Lib.hid (below_map HL.out (Nat.le_refl _) hg); clear ta hg RF))
  go_wp2_with fail
  refine (num_lit { data := #[84, 73, 77, 69] } 3 3 { data := #[115] } 166 _).mono ?_
  rintro e W7 ⟨v, rfl, hr, hb⟩
  have RF := Lib.hid hr
  replace TA := Lib.hid (TA.out.below hb)
  replace HL := Lib.hid (HL.out.trans (hb.mono HL.out.size))
  clear hr hb
  go_wp2_with (first | (refine wpList_insert_row _ rfl _ _ _ _ (.inl rfl) rfl TA.out ⟨{ data := #[84, 73, 77, 69] }, 3, 3, { data := #[115] }, false, 166⟩ v rfl rfl RF.out (fresh_of (by kernel_rfl)) Tryz.underlying79 Tryz.underlying9 ?_; intro V7 ta hg; replace TA := Lib.hid (show TableAt V7 _ (allRows.take 8) from ta); replace HL := Lib.hid (below_map HL.out (Nat.le_refl _) hg); clear ta hg RF))
  go_wp2_with fail
  refine (num_lit { data := #[68, 65, 84, 69, 86, 65, 76, 85, 69] } 1 1 { data := #[115] } 167 _).mono ?_
  rintro e W8 ⟨v, rfl, hr, hb⟩
  have RF := Lib.hid hr
  replace TA := Lib.hid (TA.out.below hb)
  replace HL := Lib.hid (HL.out.trans (hb.mono HL.out.size))
  clear hr hb
  go_wp2_with (first | (refine wpList_insert_row _ rfl _ _ _ _ (.inl rfl) rfl TA.out ⟨{ data := #[68, 65, 84, 69, 86, 65, 76, 85, 69] }, 1, 1, { data := #[115] }, false, 167⟩ v rfl rfl RF.out (fresh_of (by kernel_rfl)) Tryz.underlying79 Tryz.underlying9 ?_; intro V8 ta hg; replace TA := Lib.hid (show TableAt V8 _ (allRows.take 9) from ta); replace HL := Lib.hid (below_map HL.out (Nat.le_refl _) hg); clear ta hg RF))
  go_wp2_with fail
  refine (num_lit { data := #[84, 73, 77, 69, 86, 65, 76, 85, 69] } 1 1 { data := #[115] } 169 _).mono ?_
  rintro e W9 ⟨v, rfl, hr, hb⟩
  have RF := Lib.hid hr
  replace TA := Lib.hid (TA.out.below hb)
  replace HL := Lib.hid (HL.out.trans (hb.mono HL.out.size))
  clear hr hb
  go_wp2_with (first | (refine wpList_insert_row _ rfl _ _ _ _ (.inl rfl) rfl TA.out ⟨{ data := #[84, 73, 77, 69, 86, 65, 76, 85, 69] }, 1, 1, { data := #[115] }, false, 169⟩ v rfl rfl RF.out (fresh_of (by kernel_rfl)) Tryz.underlying79 Tryz.underlying9 ?_; intro V9 ta hg; replace TA := Lib.hid (show TableAt V9 _ (allRows.take 10) from ta); replace HL := Lib.hid (below_map HL.out (Nat.le_refl _) hg); clear ta hg RF))
  go_wp2_with fail
  refine (num_lit { data := #[68, 65, 89, 83] } 2 2 { data := #[115] } 170 _).mono ?_
  rintro e W10 ⟨v, rfl, hr, hb⟩
  have RF := Lib.hid hr
  replace TA := Lib.hid (TA.out.below hb)
  replace HL := Lib.hid (HL.out.trans (hb.mono HL.out.size))
  clear hr hb
  go_wp2_with (first | (refine wpList_insert_row _ rfl _ _ _ _ (.inl rfl) rfl TA.out ⟨{ data := #[68, 65, 89, 83] }, 2, 2, { data := #[115] }, false, 170⟩ v rfl rfl RF.out (fresh_of (by kernel_rfl)) Tryz.underlying79 Tryz.underlying9 ?_; intro V10 ta hg; replace TA := Lib.hid (show TableAt V10 _ (allRows.take 11) from ta); replace HL := Lib.hid (below_map HL.out (Nat.le_refl _) hg); clear ta hg RF))
  go_wp2_with fail
  refine (whole_lit { data := #[87, 69, 69, 75, 68, 65, 89] } 1 2 { data := #[115] } 171 _).mono ?_
  rintro e W11 ⟨v, rfl, hr, hb⟩
  have RF := Lib.hid hr
  replace TA := Lib.hid (TA.out.below hb)
  replace HL := Lib.hid (HL.out.trans (hb.mono HL.out.size))
  clear hr hb
  go_wp2_with (first | (refine wpList_insert_row _ rfl _ _ _ _ (.inl rfl) rfl TA.out ⟨{ data := #[87, 69, 69, 75, 68, 65, 89] }, 1, 2, { data := #[115] }, true, 171⟩ v rfl rfl RF.out (fresh_of (by kernel_rfl)) Tryz.underlying79 Tryz.underlying9 ?_; intro V11 ta hg; replace TA := Lib.hid (show TableAt V11 _ (allRows.take 12) from ta); replace HL := Lib.hid (below_map HL.out (Nat.le_refl _) hg); clear ta hg RF))
  go_wp2_with fail
  refine (whole_lit { data := #[87, 69, 69, 75, 78, 85, 77] } 1 2 { data := #[115] } 172 _).mono ?_
  rintro e W12 ⟨v, rfl, hr, hb⟩
  have RF := Lib.hid hr
  replace TA := Lib.hid (TA.out.below hb)
  replace HL := Lib.hid (HL.out.trans (hb.mono HL.out.size))
  clear hr hb
  go_wp2_with (first | (refine wpList_insert_row _ rfl _ _ _ _ (.inl rfl) rfl TA.out ⟨{ data := #[87, 69, 69, 75, 78, 85, 77] }, 1, 2, { data := #[115] }, true, 172⟩ v rfl rfl RF.out (fresh_of (by kernel_rfl)) Tryz.underlying79 Tryz.underlying9 ?_; intro V12 ta hg; replace TA := Lib.hid (show TableAt V12 _ (allRows.take 13) from ta); replace HL := Lib.hid (below_map HL.out (Nat.le_refl _) hg); clear ta hg RF))
  go_wp2_with fail
  refine (whole_lit { data := #[73, 83, 79, 87, 69, 69, 75, 78, 85, 77] } 1 1 { data := #[115] } 173 _).mono ?_
  rintro e W13 ⟨v, rfl, hr, hb⟩
  have RF := Lib.hid hr
  replace TA := Lib.hid (TA.out.below hb)
  replace HL := Lib.hid (HL.out.trans (hb.mono HL.out.size))
  clear hr hb
  go_wp2_with (first | (refine wpList_insert_row _ rfl _ _ _ _ (.inl rfl) rfl TA.out ⟨{ data := #[73, 83, 79, 87, 69, 69, 75, 78, 85, 77] }, 1, 1, { data := #[115] }, true, 173⟩ v rfl rfl RF.out (fresh_of (by kernel_rfl)) Tryz.underlying79 Tryz.underlying9 ?_; intro V13 ta hg; replace TA := Lib.hid (show TableAt V13 _ (allRows.take 14) from ta); replace HL := Lib.hid (below_map HL.out (Nat.le_refl _) hg); clear ta hg RF))
  go_wp2_with fail
  refine (whole_lit { data := #[69, 68, 65, 84, 69] } 2 2 { data := #[115] } 175 _).mono ?_
  rintro e W14 ⟨v, rfl, hr, hb⟩
  have RF := Lib.hid hr
  replace TA := Lib.hid (TA.out.below hb)
  replace HL := Lib.hid (HL.out.trans (hb.mono HL.out.size))
  clear hr hb
  go_wp2_with (first | (refine wpList_insert_row _ rfl _ _ _ _ (.inl rfl) rfl TA.out ⟨{ data := #[69, 68, 65, 84, 69] }, 2, 2, { data := #[115] }, true, 175⟩ v rfl rfl RF.out (fresh_of (by kernel_rfl)) Tryz.underlying79 Tryz.underlying9 ?_; intro V14 ta hg; replace TA := Lib.hid (show TableAt V14 _ (allRows.take 15) from ta); replace HL := Lib.hid (below_map HL.out (Nat.le_refl _) hg); clear ta hg RF))
  go_wp2_with fail
  refine (whole_lit { data := #[69, 79, 77, 79, 78, 84, 72] } 2 2 { data := #[115] } 177 _).mono ?_
  rintro e W15 ⟨v, rfl, hr, hb⟩
  have RF := Lib.hid hr
  replace TA := Lib.hid (TA.out.below hb)
  replace HL := Lib.hid (HL.out.trans (hb.mono HL.out.size))
  clear hr hb
  go_wp2_with (first | (refine wpList_insert_row _ rfl _ _ _ _ (.inl rfl) rfl TA.out ⟨{ data := #[69, 79, 77, 79, 78, 84, 72] }, 2, 2, { data := #[115] }, true, 177⟩ v rfl rfl RF.out (fresh_of (by kernel_rfl)) Tryz.underlying79 Tryz.underlying9 ?_; intro V15 ta hg; replace TA := Lib.hid (show TableAt V15 _ (allRows.take 16) from ta); replace HL := Lib.hid (below_map HL.out (Nat.le_refl _) hg); clear ta hg RF))
  go_wp2_with fail
  refine (whole_lit { data := #[68, 65, 84, 69, 68, 73, 70] } 3 3 { data := #[115] } 178 _).mono ?_
  rintro e W16 ⟨v, rfl, hr, hb⟩
  have RF := Lib.hid hr
  replace TA := Lib.hid (TA.out.below hb)
  replace HL := Lib.hid (HL.out.trans (hb.mono HL.out.size))
  clear hr hb
  go_wp2_with (first | (refine wpList_insert_row _ rfl _ _ _ _ (.inl rfl) rfl TA.out ⟨{ data := #[68, 65, 84, 69, 68, 73, 70] }, 3, 3, { data := #[115] }, true, 178⟩ v rfl rfl RF.out (fresh_of (by kernel_rfl)) Tryz.underlying79 Tryz.underlying9 ?_; intro V16 ta hg; replace TA := Lib.hid (show TableAt V16 _ (allRows.take 17) from ta); replace HL := Lib.hid (below_map HL.out (Nat.le_refl _) hg); clear ta hg RF))
  go_wp2_with fail
  refine (whole_lit { data := #[78, 69, 84, 87, 79, 82, 75, 68, 65, 89, 83] } 2 3 { data := #[115, 115, 97] } 179 _).mono ?_
  rintro e W17 ⟨v, rfl, hr, hb⟩
  have RF := Lib.hid hr
  replace TA := Lib.hid (TA.out.below hb)
  replace HL := Lib.hid (HL.out.trans (hb.mono HL.out.size))
  clear hr hb
  go_wp2_with (first | (refine wpList_insert_row _ rfl _ _ _ _ (.inl rfl) rfl TA.out ⟨{ data := #[78, 69, 84, 87, 79, 82, 75, 68, 65, 89, 83] }, 2, 3, { data := #[115, 115, 97] }, true, 179⟩ v rfl rfl RF.out (fresh_of (by kernel_rfl)) Tryz.underlying79 Tryz.underlying9 ?_; intro V17 ta hg; replace TA := Lib.hid (show TableAt V17 _ (allRows.take 18) from ta); replace HL := Lib.hid (below_map HL.out (Nat.le_refl _) hg); clear ta hg RF))
  go_wp2_with fail
  refine (whole_lit { data := #[87, 79, 82, 75, 68, 65, 89] } 2 3 { data := #[115, 115, 97] } 180 _).mono ?_
  rintro e W18 ⟨v, rfl, hr, hb⟩
  have RF := Lib.hid hr
  replace TA := Lib.hid (TA.out.below hb)
  replace HL := Lib.hid (HL.out.trans (hb.mono HL.out.size))
  clear hr hb
  go_wp2_with (first | (refine wpList_insert_row _ rfl _ _ _ _ (.inl rfl) rfl TA.out ⟨{ data := #[87, 79, 82, 75, 68, 65, 89] }, 2, 3, { data := #[115, 115, 97] }, true, 180⟩ v rfl rfl RF.out (fresh_of (by kernel_rfl)) Tryz.underlying79 Tryz.underlying9 ?_; intro V18 ta hg; replace TA := Lib.hid (show TableAt V18 _ (allRows.take 19) from ta); replace HL := Lib.hid (below_map HL.out (Nat.le_refl _) hg); clear ta hg RF))
  go_wp2_with fail
  refine (whole_lit { data := #[68, 65, 89, 83, 51, 54, 48] } 2 3 { data := #[115] } 181 _).mono ?_
  rintro e W19 ⟨v, rfl, hr, hb⟩
  have RF := Lib.hid hr
  replace TA := Lib.hid (TA.out.below hb)
  replace HL := Lib.hid (HL.out.trans (hb.mono HL.out.size))
  clear hr hb
  go_wp2_with (first | (refine wpList_insert_row _ rfl _ _ _ _ (.inl rfl) rfl TA.out ⟨{ data := #[68, 65, 89, 83, 51, 54, 48] }, 2, 3, { data := #[115] }, true, 181⟩ v rfl rfl RF.out (fresh_of (by kernel_rfl)) Tryz.underlying79 Tryz.underlying9 ?_; intro V19 ta hg; replace TA := Lib.hid (show TableAt V19 _ (allRows.take 20) from ta); replace HL := Lib.hid (below_map HL.out (Nat.le_refl _) hg); clear ta hg RF))
  go_wp2_with fail
  refine (num_lit { data := #[89, 69, 65, 82, 70, 82, 65, 67] } 2 3 { data := #[115] } 184 _).mono ?_
  rintro e W20 ⟨v, rfl, hr, hb⟩
  have RF := Lib.hid hr
  replace TA := Lib.hid (TA.out.below hb)
  replace HL := Lib.hid (HL.out.trans (hb.mono HL.out.size))
  clear hr hb
  go_wp2_with (first | (refine wpList_insert_row _ rfl _ _ _ _ (.inl rfl) rfl TA.out ⟨{ data := #[89, 69, 65, 82, 70, 82, 65, 67] }, 2, 3, { data := #[115] }, false, 184⟩ v rfl rfl RF.out (fresh_of (by kernel_rfl)) Tryz.underlying79 Tryz.underlying9 ?_; intro V20 ta hg; replace TA := Lib.hid (show TableAt V20 _ (allRows.take 21) from ta); replace HL := Lib.hid (below_map HL.out (Nat.le_refl _) hg); clear ta hg RF))
  go_wp2
  go_ret
  exact ⟨_, rfl, TA.out, HL.out⟩

end Go.Proofs.YtphfefmlappidaaGreatDoor.Num.Fd

/- package value: the closure that Run hands to Lift, at fdate. Conditions: the tables lie as they are laid. -/
namespace Go.Proofs.YtphfefmlappidaaGreatDoor.Num.Fd
open Go.RowKit Go.Lib Go.MapKept Num

set_option maxHeartbeats 4000000 in
set_option maxRecDepth 100000 in
theorem run1_value (pb f e : Nat) (sl : Value) (k : Int) (n d t : ByteArray) (on : Bool) (c : Int) (A : Option Addr) (L C : Nat) (w : World) (hs : ∃ a l c, sl = .slice a l c) (hc : w.cell? ⟨pb, 3, none⟩ = some (.func (.func 278) #[] #[.pointer (some ⟨e, 0, none⟩)])) (hE : Env w)
    (hF : ∀ W, Below w.heap.size w W → Calls Tryz.prog 278 #[sl, .pointer (some ⟨e, 0, none⟩)] W fun e w' => e = .returned (.agg #[.int .i64 k, .string n, .string d, .string t, .bool on, .int .i64 c, .int .i64 0, .int .i64 0, .slice A L C]) ∧ Below W.heap.size W w') :
    Calls Tryz.prog 78 #[sl, .pointer (some ⟨pb, 0, none⟩)] w fun e w' => e = .returned (.agg #[.int .i64 k, .string n, .string d, .string t, .bool on, .int .i64 c, .int .i64 0, .int .i64 0, .slice A L C]) ∧ Below w.heap.size w w' := by
  obtain ⟨sa, slen, sc, rfl⟩ := hs
  have hmf : ∀ (fn : Fn) (first cap : Array Value) (w : World), (Instr.makeFunc fn first cap).run Tryz.prog w = .ok (.func fn first cap) w := fun _ _ _ _ => rfl
  have hb : Below w.heap.size w (w.alloc (.cells #[.int .i64 0, .string { data := #[] }, .string { data := #[] }, .string { data := #[] }, .bool false, .int .i64 0, .int .i64 0, .int .i64 0, .slice none 0 0] 30)) := (Below.refl _ _).alloc (Nat.le_refl _) _
  have HR := Lib.hid (heap_alloc_new w (.cells #[.int .i64 0, .string { data := #[] }, .string { data := #[] }, .string { data := #[] }, .bool false, .int .i64 0, .int .i64 0, .int .i64 0, .slice none 0 0] 30))
  have HX := Lib.hid (cell_below hc hb)
  have HL := Lib.hid hb
  have HE := Lib.hid (hE.below hb)
  have TF := Lib.hid (hF _ hb)
  clear hb hc hE hF
  obtain x3 := HX.out
  go_enter_defers Tryz.func78, Tryz.ntmps78
  go_wp2_with fail
  refine TF.out.mono ?_
  rintro e w1 ⟨rfl, hb⟩
  replace HR := Lib.hid (keep_block HR.out hb)
  replace HE := Lib.hid (HE.out.below hb)
  replace HL := Lib.hid (HL.out.trans (hb.mono HL.out.size))
  clear hb
  obtain ⟨⟨r0, r1, r2, r3, r4, r5, r6, r7, r8⟩, g0, g1, g2, g3, g4, g5, g6, g7, g8⟩ := nine_at HR.out
  have HR2 := Lib.hid (set9_at HR.out (.int .i64 k) (.string n) (.string d) (.string t) (.bool on) (.int .i64 c) (.int .i64 0) (.int .i64 0) (.slice A L C))
  have HL2 := Lib.hid (nine_end (x0 := (.int .i64 k)) (x1 := (.string n)) (x2 := (.string d)) (x3 := (.string t)) (x4 := (.bool on)) (x5 := (.int .i64 c)) (x6 := (.int .i64 0)) (x7 := (.int .i64 0)) (x8 := (.slice A L C)) HR.out HL.out (Nat.le_refl _)).1
  go_wp2_with fail
  obtain ⟨W2, hW2⟩ : ∃ W2, (((((((((w1.setCell ⟨w.heap.size, 0, none⟩ (.int .i64 k)).setCell ⟨w.heap.size, 1, none⟩ (.string n)).setCell ⟨w.heap.size, 2, none⟩ (.string d)).setCell ⟨w.heap.size, 3, none⟩ (.string t)).setCell ⟨w.heap.size, 4, none⟩ (.bool on)).setCell ⟨w.heap.size, 5, none⟩ (.int .i64 c)).setCell ⟨w.heap.size, 6, none⟩ (.int .i64 0)).setCell ⟨w.heap.size, 7, none⟩ (.int .i64 0)).setCell ⟨w.heap.size, 8, none⟩ (.slice A L C)) = W2 := ⟨_, rfl⟩
  rw [hW2] at HR2 HL2 ⊢
  clear hW2 r0 r1 r2 r3 r4 r5 r6 r7 r8 g0 g1 g2 g3 g4 g5 g6 g7 g8
  obtain ⟨⟨r0, r1, r2, r3, r4, r5, r6, r7, r8⟩, g0, g1, g2, g3, g4, g5, g6, g7, g8⟩ := nine_at HR2.out
  go_quiet (fail)
  have HR3 := Lib.hid (show (W2.drewN nq).heap[w.heap.size]? = _ from HR2.out)
  obtain ⟨nb, e0, e1, e2, e3, e4, e5, e6, e7, e8⟩ := nine_end (x0 := (.int .i64 k)) (x1 := (.string n)) (x2 := (.string d)) (x3 := (.string t)) (x4 := (.bool on)) (x5 := (.int .i64 c)) (x6 := (.int .i64 0)) (x7 := (.int .i64 0)) (x8 := (.slice A L C)) HR3.out (below_drewN HL2.out nq) (Nat.le_refl _)
  go_wp2
  refine leaves_cons (f := 79) (args := #[.pointer (some ⟨w.heap.size, 0, none⟩)]) (by simp) (by simp [go_sem]) ?_
  refine (idle_any _ _).mono ?_
  rintro e u' w3 ⟨rfl, rfl, rfl⟩
  exact ⟨_, (by simp [results, Tryz.results78, go_sem, e0, e1, e2, e3, e4, e5, e6, e7, e8]), rfl, nb⟩

set_option maxHeartbeats 4000000 in
set_option maxRecDepth 100000 in
theorem run1_stop (pb e : Nat) (sl : Value) (c : Int) (w : World) (hs : ∃ a l c, sl = .slice a l c) (h1 : 1 ≤ c) (h2 : c ≤ 8) (hc : w.cell? ⟨pb, 3, none⟩ = some (.func (.func 278) #[] #[.pointer (some ⟨e, 0, none⟩)])) (hE : Env w)
    (hF : ∀ W, Below w.heap.size w W → Calls Tryz.prog 278 #[sl, .pointer (some ⟨e, 0, none⟩)] W fun e w' => e = stopped c ∧ Below W.heap.size W w') :
    Calls Tryz.prog 78 #[sl, .pointer (some ⟨pb, 0, none⟩)] w fun e w' => e = .returned (faultVal c) ∧ Below w.heap.size w w' := by
  obtain ⟨sa, slen, sc, rfl⟩ := hs
  have TC := Lib.hid (fun R x0 x1 x2 x3 x4 x5 x6 x7 x8 W g g' => caught_any R c h1 h2 x0 x1 x2 x3 x4 x5 x6 x7 x8 W g g')
  rw [faultVal_is c]
  have hmf : ∀ (fn : Fn) (first cap : Array Value) (w : World), (Instr.makeFunc fn first cap).run Tryz.prog w = .ok (.func fn first cap) w := fun _ _ _ _ => rfl
  have hb : Below w.heap.size w (w.alloc (.cells #[.int .i64 0, .string { data := #[] }, .string { data := #[] }, .string { data := #[] }, .bool false, .int .i64 0, .int .i64 0, .int .i64 0, .slice none 0 0] 30)) := (Below.refl _ _).alloc (Nat.le_refl _) _
  have HR := Lib.hid (heap_alloc_new w (.cells #[.int .i64 0, .string { data := #[] }, .string { data := #[] }, .string { data := #[] }, .bool false, .int .i64 0, .int .i64 0, .int .i64 0, .slice none 0 0] 30))
  have HX := Lib.hid (cell_below hc hb)
  have HL := Lib.hid hb
  have HE := Lib.hid (hE.below hb)
  have TF := Lib.hid (hF _ hb)
  clear hb hc hE hF
  obtain x3 := HX.out
  go_enter_defers Tryz.func78, Tryz.ntmps78
  go_wp2_with fail
  refine TF.out.mono ?_
  rintro e w1 ⟨rfl, hb⟩
  replace HR := Lib.hid (keep_block HR.out hb)
  replace HE := Lib.hid (HE.out.below hb)
  replace HL := Lib.hid (HL.out.trans (hb.mono HL.out.size))
  clear hb
  unfold stopped
  go_wp2
  refine leaves_cons (f := 79) (args := #[.pointer (some ⟨w.heap.size, 0, none⟩)]) (by simp) (by simp [go_sem]) ?_
  refine (TC.out _ _ _ _ _ _ _ _ _ _ _ HR.out HE.out).mono ?_
  rintro e u' w3 ⟨rfl, rfl, hr, hg⟩
  obtain ⟨⟨e0, e1, e2, e3, e4, e5, e6, e7, e8⟩, _⟩ := nine_at hr
  exact ⟨_, (by simp [results, Tryz.results78, go_sem, e0, e1, e2, e3, e4, e5, e6, e7, e8]), rfl, HL.out.trans (below_of_only hg (Nat.le_refl _) HL.out.size)⟩
end Go.Proofs.YtphfefmlappidaaGreatDoor.Num.Fd
