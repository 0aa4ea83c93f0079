/- Numbers as texts of digits, fractions, values and the functions of fmath: contracts of the program's functions, joined from smaller texts. Conditions stand at each theorem. -/
import Derived.Test.YtcgglmoeneiokaaGreatDoorPasA
import Derived.Test.YtcgglmoeneiokaaGreatDoorDivA

/- The law FmathPascal's own walk. Conditions: the tables lie as they are laid. -/
namespace Go.Proofs.YtcgglmoeneiokaaGreatDoor.Num
open Go.RowKit Go.Lib

theorem nine1 {W : World} {a : Nat} {p : Rat} {T : TypeId} (h : W.heap[a]? = some (.cells #[.int .i64 1, .string (numS p), .string (denS p), .string { data := #[] }, .bool false, .int .i64 0, .int .i64 0, .int .i64 0, .slice none 0 0] T (0, 0))) : (W.cell? ⟨a, 0, none⟩ = some (.int .i64 1) ∧ W.cell? ⟨a, 1, none⟩ = some (.string (numS p)) ∧ W.cell? ⟨a, 2, none⟩ = some (.string (denS p)) ∧ W.cell? ⟨a, 3, none⟩ = some (.string { data := #[] }) ∧ W.cell? ⟨a, 4, none⟩ = some (.bool false) ∧ W.cell? ⟨a, 5, none⟩ = some (.int .i64 0) ∧ W.cell? ⟨a, 6, none⟩ = some (.int .i64 0) ∧ W.cell? ⟨a, 7, none⟩ = some (.int .i64 0) ∧ W.cell? ⟨a, 8, none⟩ = some (.slice none 0 0)) := (nine_at h).1
theorem nine3 {W : World} {a b c : Nat} {p q r : Rat} {T U X : TypeId} (h : W.heap[a]? = some (.cells #[.int .i64 1, .string (numS p), .string (denS p), .string { data := #[] }, .bool false, .int .i64 0, .int .i64 0, .int .i64 0, .slice none 0 0] T (0, 0))) (k : W.heap[b]? = some (.cells #[.int .i64 1, .string (numS q), .string (denS q), .string { data := #[] }, .bool false, .int .i64 0, .int .i64 0, .int .i64 0, .slice none 0 0] U (0, 0))) (m : W.heap[c]? = some (.cells #[.int .i64 1, .string (numS r), .string (denS r), .string { data := #[] }, .bool false, .int .i64 0, .int .i64 0, .int .i64 0, .slice none 0 0] X (0, 0))) : (W.cell? ⟨a, 0, none⟩ = some (.int .i64 1) ∧ W.cell? ⟨a, 1, none⟩ = some (.string (numS p)) ∧ W.cell? ⟨a, 2, none⟩ = some (.string (denS p)) ∧ W.cell? ⟨a, 3, none⟩ = some (.string { data := #[] }) ∧ W.cell? ⟨a, 4, none⟩ = some (.bool false) ∧ W.cell? ⟨a, 5, none⟩ = some (.int .i64 0) ∧ W.cell? ⟨a, 6, none⟩ = some (.int .i64 0) ∧ W.cell? ⟨a, 7, none⟩ = some (.int .i64 0) ∧ W.cell? ⟨a, 8, none⟩ = some (.slice none 0 0)) ∧ (W.cell? ⟨b, 0, none⟩ = some (.int .i64 1) ∧ W.cell? ⟨b, 1, none⟩ = some (.string (numS q)) ∧ W.cell? ⟨b, 2, none⟩ = some (.string (denS q)) ∧ W.cell? ⟨b, 3, none⟩ = some (.string { data := #[] }) ∧ W.cell? ⟨b, 4, none⟩ = some (.bool false) ∧ W.cell? ⟨b, 5, none⟩ = some (.int .i64 0) ∧ W.cell? ⟨b, 6, none⟩ = some (.int .i64 0) ∧ W.cell? ⟨b, 7, none⟩ = some (.int .i64 0) ∧ W.cell? ⟨b, 8, none⟩ = some (.slice none 0 0)) ∧ (W.cell? ⟨c, 0, none⟩ = some (.int .i64 1) ∧ W.cell? ⟨c, 1, none⟩ = some (.string (numS r)) ∧ W.cell? ⟨c, 2, none⟩ = some (.string (denS r)) ∧ W.cell? ⟨c, 3, none⟩ = some (.string { data := #[] }) ∧ W.cell? ⟨c, 4, none⟩ = some (.bool false) ∧ W.cell? ⟨c, 5, none⟩ = some (.int .i64 0) ∧ W.cell? ⟨c, 6, none⟩ = some (.int .i64 0) ∧ W.cell? ⟨c, 7, none⟩ = some (.int .i64 0) ∧ W.cell? ⟨c, 8, none⟩ = some (.slice none 0 0)) := ⟨(nine_at h).1, (nine_at k).1, (nine_at m).1⟩
theorem block1 (p : Rat) (W : World) : ValsAt (W.alloc (.cells #[.int .i64 1, .string (numS p), .string (denS p), .string { data := #[] }, .bool false, .int .i64 0, .int .i64 0, .int .i64 0, .slice none 0 0] 27)) W.heap.size 0 (numVals [p]) := vals_of_block (heap_alloc_new W _) rfl
theorem math1 {nm : ByteArray} {p r : Rat} (T : ∀ (W : World) (B C : Nat), ValsAt W B 0 (numVals [p]) → Env W → Calls Tryz.prog 10 #[.string nm, .slice (some ⟨B, 0, none⟩) 1 C] W fun e w' => e = .returned (numVal r) ∧ Below W.heap.size W w') (W : World) (g : Env W) :
    Calls Tryz.prog 10 #[.string nm, .slice (some ⟨W.heap.size, 0, none⟩) 1 1] (W.alloc (.cells #[.int .i64 1, .string (numS p), .string (denS p), .string { data := #[] }, .bool false, .int .i64 0, .int .i64 0, .int .i64 0, .slice none 0 0] 27)) fun e w' => e = .returned (.agg #[.int .i64 1, .string (numS r), .string (denS r), .string { data := #[] }, .bool false, .int .i64 0, .int .i64 0, .int .i64 0, .slice none 0 0]) ∧ Below W.heap.size W w' := by
  have hb : Below W.heap.size W (W.alloc (.cells #[.int .i64 1, .string (numS p), .string (denS p), .string { data := #[] }, .bool false, .int .i64 0, .int .i64 0, .int .i64 0, .slice none 0 0] 27)) := (Below.refl _ _).alloc (Nat.le_refl _) _
  refine (T _ _ 1 (block1 p W) (g.below hb)).mono ?_
  rintro e w' ⟨rfl, h⟩
  exact ⟨by rw [numVal_is], hb.trans (h.mono hb.size)⟩
theorem whole_agg (n : Int) (w : World) (h0 : -9223372036854775808 ≤ n) (h1 : n ≤ 9223372036854775807) (hE : Env w) : Calls Tryz.prog 11 #[.int .i64 n] w fun e w' => e = .returned (.agg #[.int .i64 1, .string (numS (n : Rat)), .string (denS (n : Rat)), .string { data := #[] }, .bool false, .int .i64 0, .int .i64 0, .int .i64 0, .slice none 0 0]) ∧ Below w.heap.size w w' := kwhole_any n w h0 h1 hE
theorem plus_agg (p q : Rat) (w : World) (hp : fits p = true) (hq : fits q = true) (hr : fits (p + q) = true) (hE : Env w) : Calls Tryz.prog 13 #[.agg #[.int .i64 1, .string (numS p), .string (denS p), .string { data := #[] }, .bool false, .int .i64 0, .int .i64 0, .int .i64 0, .slice none 0 0], .agg #[.int .i64 1, .string (numS q), .string (denS q), .string { data := #[] }, .bool false, .int .i64 0, .int .i64 0, .int .i64 0, .slice none 0 0]] w fun e w' => e = .returned (.agg #[.int .i64 1, .string (numS (p + q)), .string (denS (p + q)), .string { data := #[] }, .bool false, .int .i64 0, .int .i64 0, .int .i64 0, .slice none 0 0]) ∧ Below w.heap.size w w' := kplus_any p q w hp hq hr hE

set_option maxHeartbeats 8000000 in
set_option maxRecDepth 100000 in
theorem pascal_ff (x y : Int) (m l : Nat) (w : World) (hx0 : -9223372036854775808 ≤ x) (hx1 : x ≤ 9223372036854775807) (hy0 : -9223372036854775808 ≤ y) (hy1 : y ≤ 9223372036854775807) (hm : x % 200 = (m : Int)) (hl : y % ((m : Int) + 1) = (l : Int)) (hm9 : m < 200) (hlm : l = m) (hl9 : l < 100) (hE : Env w) :
    Calls Tryz.prog 4 #[.int .i64 x, .int .i64 y] w fun e w' => e = .returned (.bool true) ∧ Below w.heap.size w w' := by
  obtain ⟨N, hN⟩ : ∃ N : Int, 1 + (m : Int) = N := ⟨_, rfl⟩
  obtain ⟨K, hK⟩ : ∃ K : Int, 1 + (l : Int) = K := ⟨_, rfl⟩
  have TMx := Lib.hid (fun W => kmod_any x 200 hx0 hx1 (by decide) (by decide) W)
  have TMy := Lib.hid (fun W => kmod_any y N hy0 hy1 (by omega) (by omega) W)
  rw [hm] at TMx
  rw [show y % N = (l : Int) by rw [← hN, Int.add_comm]; exact hl] at TMy
  have TW := Lib.hid whole_agg
  have TZ := Lib.hid (fun W g => whole_agg 0 W (by decide) (by decide) g)
  obtain ⟨O, hO⟩ : ∃ O : Rat, ((0 : Int) : Rat) = O := ⟨_, rfl⟩
  rw [hO] at TZ
  have eN : ((m + 1 : Nat) : Int) = N := by omega
  have eK : ((l + 1 : Nat) : Int) = K := by omega
  have RA := Lib.hid (fun (W : World) g => math2 (fun W B C h g => m_COMBIN m l B 0 C W (by omega) (by omega) h g) W g)
  have RC := Lib.hid (fun (W : World) g => math2 (fun W B C h g => m_COMBIN (m + 1) (l + 1) B 0 C W (by omega) (by omega) h g) W g)
  rw [eN, eK] at RC
  have hsum : ((choose (m + 1) (l + 1) : Nat) : Int) = ((choose m l : Nat) : Int) + ((choose m (l + 1) : Nat) : Int) := by rw [choose_succ]; omega
  have fA : fits (((choose m l : Nat) : Int) : Rat) = true := fits_nat _ (lt_300 (Nat.le_trans (choose_small (by omega)) (by decide +kernel)))
  have fB : fits (((choose m (l + 1) : Nat) : Int) : Rat) = true := fits_nat _ (lt_300 (Nat.le_trans (choose_small (by omega)) (by decide +kernel)))
  have fC : fits (((choose (m + 1) (l + 1) : Nat) : Int) : Rat) = true := fits_nat _ (lt_300 (Nat.le_trans (choose_small (by omega)) (by decide +kernel)))
  have hsr : (((choose m l : Nat) : Int) : Rat) + (((choose m (l + 1) : Nat) : Int) : Rat) = (((choose (m + 1) (l + 1) : Nat) : Int) : Rat) := by rw [hsum, Rat.intCast_add]
  have TP := Lib.hid (fun W g => plus_agg (((choose m l : Nat) : Int) : Rat) (((choose m (l + 1) : Nat) : Int) : Rat) W fA fB (by rw [hsr]; exact fC) g)
  rw [hsr] at TP
  have RS := Lib.hid same_self
  have hB0 : (((choose m (l + 1) : Nat) : Int) : Rat) = O := by rw [choose_more m (l + 1) (by omega), ← hO]; rfl
  rw [hB0] at TP
  have RP := Lib.hid (fun (W : World) g => math2 (fun W B C h g => m_PERMUT (m + 1) (l + 1) B 0 C W (by omega) (by omega) (by omega) h g) W g)
  have RF := Lib.hid (fun (W : World) g => math1 (fun W B C h g => m_FACT (l + 1) B 0 C W (by omega) h g) W g)
  have fF := fits_desc (l + 1) (l + 1) (by omega) (by omega)
  have fD := fits_desc (m + 1) (l + 1) (by omega) (by omega)
  have hpr : (((choose (m + 1) (l + 1) : Nat) : Int) : Rat) * descR (l + 1) (l + 1) = descR (m + 1) (l + 1) := by
    unfold descR
    rw [← Rat.intCast_mul, ← Int.natCast_mul, ← desc_choose]
  have RQ := Lib.hid (fun (W : World) g => math2 (fun W B C h g => m_PRODUCT [(((choose (m + 1) (l + 1) : Nat) : Int) : Rat), descR (l + 1) (l + 1)] B 0 C W (by simp) (by simp) (by
    intro q hq
    simp only [List.mem_cons, List.not_mem_nil, or_false] at hq
    rcases hq with rfl | rfl
    · exact fC
    · exact fF) (by
    intro k hk
    match k, hk with
    | 0, _ => exact fits_int 1 (by decide)
    | 1, _ => simp only [List.take, prodL, List.foldl]; rw [Rat.one_mul]; exact fC
    | 2, _ => simp only [List.take, prodL, List.foldl]; rw [Rat.one_mul, hpr]; exact fD
    | k + 3, hk => simp at hk) h g) W g)
  rw [prod_ab, hpr] at RQ
  rw [eK] at RF
  rw [eN, eK] at RP
  obtain ⟨FF, hFF⟩ : ∃ q, descR (l + 1) (l + 1) = q := ⟨_, rfl⟩
  obtain ⟨DD, hDD⟩ : ∃ q, descR (m + 1) (l + 1) = q := ⟨_, rfl⟩
  rw [hFF] at RF RQ
  rw [hDD] at RP RQ
  clear hFF hDD hpr fF fD
  obtain ⟨A, hA⟩ : ∃ q : Rat, (((choose m l : Nat) : Int) : Rat) = q := ⟨_, rfl⟩
  obtain ⟨C, hC⟩ : ∃ q : Rat, (((choose (m + 1) (l + 1) : Nat) : Int) : Rat) = q := ⟨_, rfl⟩
  rw [hA] at RA TP
  rw [hC] at RC TP RQ
  have hNm : N - 1 = (m : Int) := by omega
  have hKl : K - 1 = (l : Int) := by omega
  have hKb : 1 ≤ K ∧ K ≤ 200 := by omega
  have hNb : 1 ≤ N ∧ N ≤ 200 := by omega
  have d1 : decide (K < N) = false := decide_eq_false (by omega)
  have d2 : decide (100 < K) = false := decide_eq_false (by omega)
  have HE := Lib.hid hE
  have HL := Lib.hid (Below.refl w.heap.size w)
  clear hm hl hx0 hx1 hy0 hy1 hE hO eN eK fA fB fC hsum hsr hA hC hlm hl9 hB0
  go_enter Tryz.func4, Tryz.ntmps4
  go_wp2_with fail
  refine (TMx.out _).mono ?_
  rintro e w1 ⟨rfl, rfl⟩
  go_wp2_with fail
  refine (TMy.out _).mono ?_
  rintro e w2 ⟨rfl, rfl⟩
  go_wp2_with fail
  refine (TW.out _ _ (by omega) (by omega) HE.out).mono ?_
  rintro e w3 ⟨rfl, hq⟩
  replace HE := Lib.hid (HE.out.below hq)
  replace HL := Lib.hid (HL.out.trans (hq.mono HL.out.size))
  clear hq
  go_wp2_with fail
  refine (TW.out _ _ (by omega) (by omega) HE.out).mono ?_
  rintro e w4 ⟨rfl, hq⟩
  replace HE := Lib.hid (HE.out.below hq)
  replace HL := Lib.hid (HL.out.trans (hq.mono HL.out.size))
  clear hq
  go_wp2_with fail
  refine (RA.out _ HE.out).mono ?_
  rintro e w5 ⟨rfl, hq⟩
  replace HE := Lib.hid (HE.out.below hq)
  replace HL := Lib.hid (HL.out.trans (hq.mono HL.out.size))
  clear hq
  go_wp2_with fail
  refine (TZ.out _ HE.out).mono ?_
  rintro e w6 ⟨rfl, hq⟩
  replace HE := Lib.hid (HE.out.below hq)
  replace HL := Lib.hid (HL.out.trans (hq.mono HL.out.size))
  clear hq
  have hq : Below w6.heap.size w6 ((w6.alloc (.cells #[.int .i64 1, .string (numS A), .string (denS A), .string { data := #[] }, .bool false, .int .i64 0, .int .i64 0, .int .i64 0, .slice none 0 0] 27)).alloc (.cells #[.int .i64 1, .string (numS O), .string (denS O), .string { data := #[] }, .bool false, .int .i64 0, .int .i64 0, .int .i64 0, .slice none 0 0] 27)) := ((Below.refl _ _).alloc (Nat.le_refl _) _).alloc (by simp) _
  replace HE := Lib.hid (HE.out.below hq)
  replace HL := Lib.hid (HL.out.trans (hq.mono HL.out.size))
  obtain ⟨hx, hy, _⟩ := two_new w6 (.cells #[.int .i64 1, .string (numS A), .string (denS A), .string { data := #[] }, .bool false, .int .i64 0, .int .i64 0, .int .i64 0, .slice none 0 0] 27) (.cells #[.int .i64 1, .string (numS O), .string (denS O), .string { data := #[] }, .bool false, .int .i64 0, .int .i64 0, .int .i64 0, .slice none 0 0] 27)
  have HX := Lib.hid hx
  have HY := Lib.hid hy
  clear hq hx hy
  obtain ⟨WA, hWA⟩ : ∃ Z, (w6.alloc (.cells #[.int .i64 1, .string (numS A), .string (denS A), .string { data := #[] }, .bool false, .int .i64 0, .int .i64 0, .int .i64 0, .slice none 0 0] 27)).alloc (.cells #[.int .i64 1, .string (numS O), .string (denS O), .string { data := #[] }, .bool false, .int .i64 0, .int .i64 0, .int .i64 0, .slice none 0 0] 27) = Z := ⟨_, rfl⟩
  rw [hWA] at HE HL HX HY
  have EWA := Lib.hid hWA
  clear hWA
  go_wp2_with fail
  rw [EWA.out]
  refine (TW.out _ _ (by omega) (by omega) HE.out).mono ?_
  rintro e w7 ⟨rfl, hq⟩
  replace HE := Lib.hid (HE.out.below hq)
  replace HL := Lib.hid (HL.out.trans (hq.mono HL.out.size))
  replace HX := Lib.hid (keep_block HX.out hq)
  replace HY := Lib.hid (keep_block HY.out hq)
  clear hq
  go_wp2_with fail
  refine (TW.out _ _ (by omega) (by omega) HE.out).mono ?_
  rintro e w8 ⟨rfl, hq⟩
  replace HE := Lib.hid (HE.out.below hq)
  replace HL := Lib.hid (HL.out.trans (hq.mono HL.out.size))
  replace HX := Lib.hid (keep_block HX.out hq)
  replace HY := Lib.hid (keep_block HY.out hq)
  clear hq
  go_wp2_with fail
  refine (RC.out _ HE.out).mono ?_
  rintro e w9 ⟨rfl, hq⟩
  replace HE := Lib.hid (HE.out.below hq)
  replace HL := Lib.hid (HL.out.trans (hq.mono HL.out.size))
  replace HX := Lib.hid (keep_block HX.out hq)
  replace HY := Lib.hid (keep_block HY.out hq)
  clear hq
  have hq : Below w9.heap.size w9 (w9.alloc (.cells #[.int .i64 1, .string (numS C), .string (denS C), .string { data := #[] }, .bool false, .int .i64 0, .int .i64 0, .int .i64 0, .slice none 0 0] 27)) := (Below.refl _ _).alloc (Nat.le_refl _) _
  replace HE := Lib.hid (HE.out.below hq)
  replace HL := Lib.hid (HL.out.trans (hq.mono HL.out.size))
  replace HX := Lib.hid (keep_block HX.out hq)
  replace HY := Lib.hid (keep_block HY.out hq)
  have HC := Lib.hid (heap_alloc_new w9 (.cells #[.int .i64 1, .string (numS C), .string (denS C), .string { data := #[] }, .bool false, .int .i64 0, .int .i64 0, .int .i64 0, .slice none 0 0] 27))
  clear hq
  obtain ⟨WC, hWC⟩ : ∃ Z, (w9.alloc (.cells #[.int .i64 1, .string (numS C), .string (denS C), .string { data := #[] }, .bool false, .int .i64 0, .int .i64 0, .int .i64 0, .slice none 0 0] 27)) = Z := ⟨_, rfl⟩
  rw [hWC] at HE HL HX HY HC
  have EWC := Lib.hid hWC
  clear hWC
  go_wp2_with fail
  rw [EWC.out]
  have hq : Below WC.heap.size WC WC.drew := (Below.refl _ _).drew
  replace HE := Lib.hid (HE.out.below hq)
  replace HL := Lib.hid (HL.out.trans (hq.mono HL.out.size))
  replace HX := Lib.hid (keep_block HX.out hq)
  replace HY := Lib.hid (keep_block HY.out hq)
  replace HC := Lib.hid (keep_block HC.out hq)
  clear hq
  go_region_held3 (fun Z => (Z.cell? ⟨w6.heap.size, 0, none⟩ = some (.int .i64 1) ∧ Z.cell? ⟨w6.heap.size, 1, none⟩ = some (.string (numS A)) ∧ Z.cell? ⟨w6.heap.size, 2, none⟩ = some (.string (denS A)) ∧ Z.cell? ⟨w6.heap.size, 3, none⟩ = some (.string { data := #[] }) ∧ Z.cell? ⟨w6.heap.size, 4, none⟩ = some (.bool false) ∧ Z.cell? ⟨w6.heap.size, 5, none⟩ = some (.int .i64 0) ∧ Z.cell? ⟨w6.heap.size, 6, none⟩ = some (.int .i64 0) ∧ Z.cell? ⟨w6.heap.size, 7, none⟩ = some (.int .i64 0) ∧ Z.cell? ⟨w6.heap.size, 8, none⟩ = some (.slice none 0 0)) ∧ (Z.cell? ⟨w6.heap.size + 1, 0, none⟩ = some (.int .i64 1) ∧ Z.cell? ⟨w6.heap.size + 1, 1, none⟩ = some (.string (numS O)) ∧ Z.cell? ⟨w6.heap.size + 1, 2, none⟩ = some (.string (denS O)) ∧ Z.cell? ⟨w6.heap.size + 1, 3, none⟩ = some (.string { data := #[] }) ∧ Z.cell? ⟨w6.heap.size + 1, 4, none⟩ = some (.bool false) ∧ Z.cell? ⟨w6.heap.size + 1, 5, none⟩ = some (.int .i64 0) ∧ Z.cell? ⟨w6.heap.size + 1, 6, none⟩ = some (.int .i64 0) ∧ Z.cell? ⟨w6.heap.size + 1, 7, none⟩ = some (.int .i64 0) ∧ Z.cell? ⟨w6.heap.size + 1, 8, none⟩ = some (.slice none 0 0)) ∧ (Z.cell? ⟨w9.heap.size, 0, none⟩ = some (.int .i64 1) ∧ Z.cell? ⟨w9.heap.size, 1, none⟩ = some (.string (numS C)) ∧ Z.cell? ⟨w9.heap.size, 2, none⟩ = some (.string (denS C)) ∧ Z.cell? ⟨w9.heap.size, 3, none⟩ = some (.string { data := #[] }) ∧ Z.cell? ⟨w9.heap.size, 4, none⟩ = some (.bool false) ∧ Z.cell? ⟨w9.heap.size, 5, none⟩ = some (.int .i64 0) ∧ Z.cell? ⟨w9.heap.size, 6, none⟩ = some (.int .i64 0) ∧ Z.cell? ⟨w9.heap.size, 7, none⟩ = some (.int .i64 0) ∧ Z.cell? ⟨w9.heap.size, 8, none⟩ = some (.slice none 0 0)))
    (first | (with_reducible exact nine3 HX.out HY.out HC.out) | (with_reducible exact nine3 (drew_block HX.out) (drew_block HY.out) (drew_block HC.out)) | fail)
    ((first | (go_at_call 13; (first | (with_reducible refine (TP.out _ HE.out).mono ?_)); rintro e V1 ⟨rfl, hq⟩; replace HX := Lib.hid (keep_block HX.out hq); replace HY := Lib.hid (keep_block HY.out hq); replace HC := Lib.hid (keep_block HC.out hq); replace HE := Lib.hid (HE.out.below hq); replace HL := Lib.hid (HL.out.trans (hq.mono HL.out.size)); clear hq) | (go_at_call 12; (first | (with_reducible refine (RS.out _ _).mono ?_)); rintro e V1 ⟨rfl, hq⟩; replace HX := Lib.hid (keep_block HX.out hq); replace HY := Lib.hid (keep_block HY.out hq); replace HC := Lib.hid (keep_block HC.out hq); replace HE := Lib.hid (HE.out.below hq); replace HL := Lib.hid (HL.out.trans (hq.mono HL.out.size)); clear hq)))
  go_wp2_with fail
  replace HE := Lib.hid (HE.out.below (Below.refl _ _).drew)
  replace HL := Lib.hid (HL.out.drew)
  replace HC := Lib.hid (drew_block HC.out)
  refine wp_region_held_drew (S := (fun Z => (Z.cell? ⟨w9.heap.size, 0, none⟩ = some (.int .i64 1) ∧ Z.cell? ⟨w9.heap.size, 1, none⟩ = some (.string (numS C)) ∧ Z.cell? ⟨w9.heap.size, 2, none⟩ = some (.string (denS C)) ∧ Z.cell? ⟨w9.heap.size, 3, none⟩ = some (.string { data := #[] }) ∧ Z.cell? ⟨w9.heap.size, 4, none⟩ = some (.bool false) ∧ Z.cell? ⟨w9.heap.size, 5, none⟩ = some (.int .i64 0) ∧ Z.cell? ⟨w9.heap.size, 6, none⟩ = some (.int .i64 0) ∧ Z.cell? ⟨w9.heap.size, 7, none⟩ = some (.int .i64 0) ∧ Z.cell? ⟨w9.heap.size, 8, none⟩ = some (.slice none 0 0)))) (by kernel_rfl) (nine1 HC.out) (fun hHeld => ?_)
  refine wpAnyH_take (i := 0) (oi := ⟨some 46, _, _, _, _, _⟩) (v := ?v0) rfl (by kernel_rfl) (by kernel_rfl) (by kernel_rfl) (fun _ _ _ h => h) (Or.inl ⟨by rfl, ?y0⟩) (by assumption) ?r0
  case y0 =>
    intro w hSw
    (try dsimp only at hSw)
    go_simp
    try with_reducible rfl
  try simp only [Act.put, List.setIfInBounds_toArray, List.set_cons_zero, List.set_cons_succ]
  refine wpAnyH_take (i := 1) (oi := ⟨some 47, _, _, _, _, _⟩) (v := ?v1) rfl (by kernel_rfl) (by kernel_rfl) (by kernel_rfl) (fun _ _ _ h => h) (Or.inl ⟨by rfl, ?y1⟩) (by assumption) ?r1
  case y1 =>
    intro w hSw
    (try dsimp only at hSw)
    go_simp
    try with_reducible rfl
  try simp only [Act.put, List.setIfInBounds_toArray, List.set_cons_zero, List.set_cons_succ]
  refine wpAnyH_take (i := 2) (oi := ⟨some 48, _, _, _, _, _⟩) (v := ?v2) rfl (by kernel_rfl) (by kernel_rfl) (by kernel_rfl) (fun _ _ _ h => h) (Or.inl ⟨by rfl, ?y2⟩) (by assumption) ?r2
  case y2 =>
    intro w hSw
    (try dsimp only at hSw)
    go_simp
    try with_reducible rfl
  try simp only [Act.put, List.setIfInBounds_toArray, List.set_cons_zero, List.set_cons_succ]
  refine wpAnyH_take (i := 3) (oi := ⟨some 49, _, _, _, _, _⟩) (v := ?v3) rfl (by kernel_rfl) (by kernel_rfl) (by kernel_rfl) (fun _ _ _ h => h) (Or.inl ⟨by rfl, ?y3⟩) (by assumption) ?r3
  case y3 =>
    intro w hSw
    (try dsimp only at hSw)
    go_simp
    try with_reducible rfl
  try simp only [Act.put, List.setIfInBounds_toArray, List.set_cons_zero, List.set_cons_succ]
  refine wpAnyH_take (i := 5) (oi := ⟨some 51, _, _, _, _, _⟩) (v := ?v5) rfl (by kernel_rfl) (by kernel_rfl) (by kernel_rfl) (fun _ _ _ h => h) (Or.inl ⟨by rfl, ?y5⟩) (by assumption) ?r5
  case y5 =>
    intro w hSw
    (try dsimp only at hSw)
    go_simp
    try with_reducible rfl
  try simp only [Act.put, List.setIfInBounds_toArray, List.set_cons_zero, List.set_cons_succ]
  refine wpAnyH_take (i := 9) (oi := ⟨some 55, _, _, _, _, _⟩) (v := ?v9) rfl (by kernel_rfl) (by kernel_rfl) (by kernel_rfl) (fun _ _ _ h => h) (Or.inl ⟨by rfl, ?y9⟩) (by assumption) ?r9
  case y9 =>
    intro w hSw
    (try dsimp only at hSw)
    go_simp
    try with_reducible rfl
  try simp only [Act.put, List.setIfInBounds_toArray, List.set_cons_zero, List.set_cons_succ]
  refine wpAnyH_take (i := 10) (oi := ⟨some 56, _, _, _, _, _⟩) (v := ?v10) rfl (by kernel_rfl) (by kernel_rfl) (by kernel_rfl) (fun _ _ _ h => h) (Or.inl ⟨by rfl, ?y10⟩) (by assumption) ?r10
  case y10 =>
    intro w hSw
    (try dsimp only at hSw)
    go_simp
    try with_reducible rfl
  try simp only [Act.put, List.setIfInBounds_toArray, List.set_cons_zero, List.set_cons_succ]
  refine wpAnyH_ready (rs := [4]) (by kernel_rfl) (by simp) ?_
  refine AllReadyH.cons rfl (fun K hK => ?_) AllReadyH.nil
  go_simp
  (with_reducible refine (TW.out _ _ (by omega) (by omega) HE.out).mono ?_)
  rintro e w10 ⟨rfl, hq⟩
  replace HE := Lib.hid (HE.out.below hq)
  replace HL := Lib.hid (HL.out.trans (hq.mono HL.out.size))
  replace HC := Lib.hid (keep_block HC.out hq)
  clear hq
  refine hK.out _ _ (nine1 HC.out) (fun hHeld => ?_)
  clear hK K
  try simp only [Act.put, List.setIfInBounds_toArray, List.set_cons_zero, List.set_cons_succ]
  refine wpAnyH_ready (rs := [6]) (by kernel_rfl) (by simp) ?_
  refine AllReadyH.cons rfl (fun K hK => ?_) AllReadyH.nil
  go_simp
  (with_reducible refine (TW.out _ _ (by omega) (by omega) HE.out).mono ?_)
  rintro e w11 ⟨rfl, hq⟩
  replace HE := Lib.hid (HE.out.below hq)
  replace HL := Lib.hid (HL.out.trans (hq.mono HL.out.size))
  replace HC := Lib.hid (keep_block HC.out hq)
  clear hq
  refine hK.out _ _ (nine1 HC.out) (fun hHeld => ?_)
  clear hK K
  try simp only [Act.put, List.setIfInBounds_toArray, List.set_cons_zero, List.set_cons_succ]
  refine wpAnyH_ready (rs := [7]) (by kernel_rfl) (by simp) ?_
  refine AllReadyH.cons rfl (fun K hK => ?_) AllReadyH.nil
  go_simp
  refine hK.out _ _ (nine1 (new_keep HC.out)) (fun hHeld => ?_)
  clear hK K
  try simp only [Act.put, List.setIfInBounds_toArray, List.set_cons_zero, List.set_cons_succ]
  refine wpAnyH_ready (rs := [8]) (by kernel_rfl) (by simp) ?_
  refine AllReadyH.cons rfl (fun K hK => ?_) AllReadyH.nil
  go_simp
  (with_reducible refine (RP.out _ HE.out).mono ?_)
  rintro e w12 ⟨rfl, hq⟩
  replace HE := Lib.hid (HE.out.below hq)
  replace HL := Lib.hid (HL.out.trans (hq.mono HL.out.size))
  replace HC := Lib.hid (keep_block HC.out hq)
  clear hq
  refine hK.out _ _ (nine1 HC.out) (fun hHeld => ?_)
  clear hK K
  try simp only [Act.put, List.setIfInBounds_toArray, List.set_cons_zero, List.set_cons_succ]
  refine wpAnyH_ready (rs := [11]) (by kernel_rfl) (by simp) ?_
  refine AllReadyH.cons rfl (fun K hK => ?_) AllReadyH.nil
  go_simp
  (with_reducible refine (TW.out _ _ (by omega) (by omega) HE.out).mono ?_)
  rintro e w13 ⟨rfl, hq⟩
  replace HE := Lib.hid (HE.out.below hq)
  replace HL := Lib.hid (HL.out.trans (hq.mono HL.out.size))
  replace HC := Lib.hid (keep_block HC.out hq)
  clear hq
  refine hK.out _ _ (nine1 HC.out) (fun hHeld => ?_)
  clear hK K
  try simp only [Act.put, List.setIfInBounds_toArray, List.set_cons_zero, List.set_cons_succ]
  refine wpAnyH_ready (rs := [12]) (by kernel_rfl) (by simp) ?_
  refine AllReadyH.cons rfl (fun K hK => ?_) AllReadyH.nil
  go_simp
  refine hK.out _ _ (nine1 (new_keep HC.out)) (fun hHeld => ?_)
  clear hK K
  try simp only [Act.put, List.setIfInBounds_toArray, List.set_cons_zero, List.set_cons_succ]
  refine wpAnyH_ready (rs := [13]) (by kernel_rfl) (by simp) ?_
  refine AllReadyH.cons rfl (fun K hK => ?_) AllReadyH.nil
  go_simp
  (with_reducible refine (RF.out _ HE.out).mono ?_)
  rintro e w14 ⟨rfl, hq⟩
  replace HE := Lib.hid (HE.out.below hq)
  replace HL := Lib.hid (HL.out.trans (hq.mono HL.out.size))
  replace HC := Lib.hid (keep_block HC.out hq)
  clear hq
  refine hK.out _ _ (nine1 HC.out) (fun hHeld => ?_)
  clear hK K
  try simp only [Act.put, List.setIfInBounds_toArray, List.set_cons_zero, List.set_cons_succ]
  refine wpAnyH_ready (rs := [14]) (by kernel_rfl) (by simp) ?_
  refine AllReadyH.cons rfl (fun K hK => ?_) AllReadyH.nil
  go_simp
  refine hK.out _ _ (nine1 (new_keep HC.out)) (fun hHeld => ?_)
  clear hK K
  try simp only [Act.put, List.setIfInBounds_toArray, List.set_cons_zero, List.set_cons_succ]
  refine wpAnyH_ready (rs := [15]) (by kernel_rfl) (by simp) ?_
  refine AllReadyH.cons rfl (fun K hK => ?_) AllReadyH.nil
  go_simp
  (with_reducible refine (RQ.out _ HE.out).mono ?_)
  rintro e w15 ⟨rfl, hq⟩
  replace HE := Lib.hid (HE.out.below hq)
  replace HL := Lib.hid (HL.out.trans (hq.mono HL.out.size))
  replace HC := Lib.hid (keep_block HC.out hq)
  clear hq
  refine hK.out _ _ (nine1 HC.out) (fun hHeld => ?_)
  clear hK K
  try simp only [Act.put, List.setIfInBounds_toArray, List.set_cons_zero, List.set_cons_succ]
  refine wpAnyH_ready (rs := [16]) (by kernel_rfl) (by simp) ?_
  refine AllReadyH.cons rfl (fun K hK => ?_) AllReadyH.nil
  go_simp
  (with_reducible refine (RS.out _ _).mono ?_)
  rintro e w16 ⟨rfl, hq⟩
  replace HE := Lib.hid (HE.out.below hq)
  replace HL := Lib.hid (HL.out.trans (hq.mono HL.out.size))
  replace HC := Lib.hid (keep_block HC.out hq)
  clear hq
  refine hK.out _ _ (nine1 HC.out) (fun hHeld => ?_)
  clear hK K
  try simp only [Act.put, List.setIfInBounds_toArray, List.set_cons_zero, List.set_cons_succ]
  refine wpAnyH_take (i := 17) (oi := ⟨some 63, _, _, _, _, _⟩) (v := ?v17) rfl (by kernel_rfl) (by kernel_rfl) (by kernel_rfl) (fun _ _ _ h => h) (Or.inl ⟨by rfl, ?y17⟩) (by assumption) ?r17
  case y17 =>
    intro w hSw
    (try dsimp only at hSw)
    go_simp
    try with_reducible rfl
  try simp only [Act.put, List.setIfInBounds_toArray, List.set_cons_zero, List.set_cons_succ]
  refine wpAnyH_take (i := 18) (oi := ⟨some 64, _, _, _, _, _⟩) (v := ?v18) rfl (by kernel_rfl) (by kernel_rfl) (by kernel_rfl) (fun _ _ _ h => h) (Or.inl ⟨by rfl, ?y18⟩) (by assumption) ?r18
  case y18 =>
    intro w hSw
    (try dsimp only at hSw)
    go_simp
    try with_reducible rfl
  try simp only [Act.put, List.setIfInBounds_toArray, List.set_cons_zero, List.set_cons_succ]
  refine wpAnyH_take (i := 19) (oi := ⟨some 65, _, _, _, _, _⟩) (v := undef) rfl (by kernel_rfl) (by kernel_rfl) (by kernel_rfl) (fun _ _ _ h => h) (Or.inr ⟨by rfl, rfl⟩) (by assumption) ?_
  try simp only [Act.put, List.setIfInBounds_toArray, List.set_cons_zero, List.set_cons_succ]
  refine wpAnyH_take (i := 20) (oi := ⟨some 66, _, _, _, _, _⟩) (v := undef) rfl (by kernel_rfl) (by kernel_rfl) (by kernel_rfl) (fun _ _ _ h => h) (Or.inr ⟨by rfl, rfl⟩) (by assumption) ?_
  try simp only [Act.put, List.setIfInBounds_toArray, List.set_cons_zero, List.set_cons_succ]
  refine wpAnyH_take (i := 21) (oi := ⟨some 67, _, _, _, _, _⟩) (v := undef) rfl (by kernel_rfl) (by kernel_rfl) (by kernel_rfl) (fun _ _ _ h => h) (Or.inr ⟨by rfl, rfl⟩) (by assumption) ?_
  try simp only [Act.put, List.setIfInBounds_toArray, List.set_cons_zero, List.set_cons_succ]
  refine wpAnyH_take (i := 22) (oi := ⟨some 68, _, _, _, _, _⟩) (v := undef) rfl (by kernel_rfl) (by kernel_rfl) (by kernel_rfl) (fun _ _ _ h => h) (Or.inr ⟨by rfl, rfl⟩) (by assumption) ?_
  try simp only [Act.put, List.setIfInBounds_toArray, List.set_cons_zero, List.set_cons_succ]
  refine wpAnyH_take (i := 23) (oi := ⟨some 69, _, _, _, _, _⟩) (v := undef) rfl (by kernel_rfl) (by kernel_rfl) (by kernel_rfl) (fun _ _ _ h => h) (Or.inr ⟨by rfl, rfl⟩) (by assumption) ?_
  try simp only [Act.put, List.setIfInBounds_toArray, List.set_cons_zero, List.set_cons_succ]
  refine wpAnyH_take (i := 24) (oi := ⟨some 70, _, _, _, _, _⟩) (v := undef) rfl (by kernel_rfl) (by kernel_rfl) (by kernel_rfl) (fun _ _ _ h => h) (Or.inr ⟨by rfl, rfl⟩) (by assumption) ?_
  try simp only [Act.put, List.setIfInBounds_toArray, List.set_cons_zero, List.set_cons_succ]
  refine wpAnyH_take (i := 25) (oi := ⟨some 71, _, _, _, _, _⟩) (v := undef) rfl (by kernel_rfl) (by kernel_rfl) (by kernel_rfl) (fun _ _ _ h => h) (Or.inr ⟨by rfl, rfl⟩) (by assumption) ?_
  try simp only [Act.put, List.setIfInBounds_toArray, List.set_cons_zero, List.set_cons_succ]
  refine wpAnyH_take (i := 26) (oi := ⟨some 72, _, _, _, _, _⟩) (v := undef) rfl (by kernel_rfl) (by kernel_rfl) (by kernel_rfl) (fun _ _ _ h => h) (Or.inr ⟨by rfl, rfl⟩) (by assumption) ?_
  try simp only [Act.put, List.setIfInBounds_toArray, List.set_cons_zero, List.set_cons_succ]
  refine wpAnyH_take (i := 27) (oi := ⟨some 73, _, _, _, _, _⟩) (v := ?v27) rfl (by kernel_rfl) (by kernel_rfl) (by kernel_rfl) (fun _ _ _ h => h) (Or.inl ⟨by rfl, ?y27⟩) (by assumption) ?r27
  case y27 =>
    intro w hSw
    (try dsimp only at hSw)
    go_simp
    try with_reducible rfl
  try simp only [Act.put, List.setIfInBounds_toArray, List.set_cons_zero, List.set_cons_succ]
  refine wpAnyH_take (i := 28) (oi := ⟨some 4, _, _, _, _, _⟩) (v := ?v28) rfl (by kernel_rfl) (by kernel_rfl) (by kernel_rfl) (fun _ _ _ h => h) (Or.inl ⟨by rfl, ?y28⟩) (by assumption) ?r28
  case y28 =>
    intro w hSw
    (try dsimp only at hSw)
    go_simp
    try with_reducible rfl
  try simp only [Act.put, List.setIfInBounds_toArray, List.set_cons_zero, List.set_cons_succ]
  refine wpAnyH_done (by kernel_rfl) ?_ _
  all_goals
    go_wp2
    go_ret
    exact ⟨rfl, HL.out⟩

set_option maxHeartbeats 8000000 in
set_option maxRecDepth 100000 in
theorem pascal_ft (x y : Int) (m l : Nat) (w : World) (hx0 : -9223372036854775808 ≤ x) (hx1 : x ≤ 9223372036854775807) (hy0 : -9223372036854775808 ≤ y) (hy1 : y ≤ 9223372036854775807) (hm : x % 200 = (m : Int)) (hl : y % ((m : Int) + 1) = (l : Int)) (hm9 : m < 200) (hlm : l = m) (hl9 : 100 ≤ l) (hE : Env w) :
    Calls Tryz.prog 4 #[.int .i64 x, .int .i64 y] w fun e w' => e = .returned (.bool true) ∧ Below w.heap.size w w' := by
  obtain ⟨N, hN⟩ : ∃ N : Int, 1 + (m : Int) = N := ⟨_, rfl⟩
  obtain ⟨K, hK⟩ : ∃ K : Int, 1 + (l : Int) = K := ⟨_, rfl⟩
  have TMx := Lib.hid (fun W => kmod_any x 200 hx0 hx1 (by decide) (by decide) W)
  have TMy := Lib.hid (fun W => kmod_any y N hy0 hy1 (by omega) (by omega) W)
  rw [hm] at TMx
  rw [show y % N = (l : Int) by rw [← hN, Int.add_comm]; exact hl] at TMy
  have TW := Lib.hid whole_agg
  have TZ := Lib.hid (fun W g => whole_agg 0 W (by decide) (by decide) g)
  obtain ⟨O, hO⟩ : ∃ O : Rat, ((0 : Int) : Rat) = O := ⟨_, rfl⟩
  rw [hO] at TZ
  have eN : ((m + 1 : Nat) : Int) = N := by omega
  have eK : ((l + 1 : Nat) : Int) = K := by omega
  have RA := Lib.hid (fun (W : World) g => math2 (fun W B C h g => m_COMBIN m l B 0 C W (by omega) (by omega) h g) W g)
  have RC := Lib.hid (fun (W : World) g => math2 (fun W B C h g => m_COMBIN (m + 1) (l + 1) B 0 C W (by omega) (by omega) h g) W g)
  rw [eN, eK] at RC
  have hsum : ((choose (m + 1) (l + 1) : Nat) : Int) = ((choose m l : Nat) : Int) + ((choose m (l + 1) : Nat) : Int) := by rw [choose_succ]; omega
  have fA : fits (((choose m l : Nat) : Int) : Rat) = true := fits_nat _ (lt_300 (Nat.le_trans (choose_small (by omega)) (by decide +kernel)))
  have fB : fits (((choose m (l + 1) : Nat) : Int) : Rat) = true := fits_nat _ (lt_300 (Nat.le_trans (choose_small (by omega)) (by decide +kernel)))
  have fC : fits (((choose (m + 1) (l + 1) : Nat) : Int) : Rat) = true := fits_nat _ (lt_300 (Nat.le_trans (choose_small (by omega)) (by decide +kernel)))
  have hsr : (((choose m l : Nat) : Int) : Rat) + (((choose m (l + 1) : Nat) : Int) : Rat) = (((choose (m + 1) (l + 1) : Nat) : Int) : Rat) := by rw [hsum, Rat.intCast_add]
  have TP := Lib.hid (fun W g => plus_agg (((choose m l : Nat) : Int) : Rat) (((choose m (l + 1) : Nat) : Int) : Rat) W fA fB (by rw [hsr]; exact fC) g)
  rw [hsr] at TP
  have RS := Lib.hid same_self
  have hB0 : (((choose m (l + 1) : Nat) : Int) : Rat) = O := by rw [choose_more m (l + 1) (by omega), ← hO]; rfl
  rw [hB0] at TP
  obtain ⟨A, hA⟩ : ∃ q : Rat, (((choose m l : Nat) : Int) : Rat) = q := ⟨_, rfl⟩
  obtain ⟨C, hC⟩ : ∃ q : Rat, (((choose (m + 1) (l + 1) : Nat) : Int) : Rat) = q := ⟨_, rfl⟩
  rw [hA] at RA TP
  rw [hC] at RC TP
  have hNm : N - 1 = (m : Int) := by omega
  have hKl : K - 1 = (l : Int) := by omega
  have hKb : 1 ≤ K ∧ K ≤ 200 := by omega
  have hNb : 1 ≤ N ∧ N ≤ 200 := by omega
  have d1 : decide (K < N) = false := decide_eq_false (by omega)
  have d2 : decide (100 < K) = true := decide_eq_true (by omega)
  have HE := Lib.hid hE
  have HL := Lib.hid (Below.refl w.heap.size w)
  clear hm hl hx0 hx1 hy0 hy1 hE hO eN eK fA fB fC hsum hsr hA hC hlm hl9 hB0
  go_enter Tryz.func4, Tryz.ntmps4
  go_wp2_with fail
  refine (TMx.out _).mono ?_
  rintro e w1 ⟨rfl, rfl⟩
  go_wp2_with fail
  refine (TMy.out _).mono ?_
  rintro e w2 ⟨rfl, rfl⟩
  go_wp2_with fail
  refine (TW.out _ _ (by omega) (by omega) HE.out).mono ?_
  rintro e w3 ⟨rfl, hq⟩
  replace HE := Lib.hid (HE.out.below hq)
  replace HL := Lib.hid (HL.out.trans (hq.mono HL.out.size))
  clear hq
  go_wp2_with fail
  refine (TW.out _ _ (by omega) (by omega) HE.out).mono ?_
  rintro e w4 ⟨rfl, hq⟩
  replace HE := Lib.hid (HE.out.below hq)
  replace HL := Lib.hid (HL.out.trans (hq.mono HL.out.size))
  clear hq
  go_wp2_with fail
  refine (RA.out _ HE.out).mono ?_
  rintro e w5 ⟨rfl, hq⟩
  replace HE := Lib.hid (HE.out.below hq)
  replace HL := Lib.hid (HL.out.trans (hq.mono HL.out.size))
  clear hq
  go_wp2_with fail
  refine (TZ.out _ HE.out).mono ?_
  rintro e w6 ⟨rfl, hq⟩
  replace HE := Lib.hid (HE.out.below hq)
  replace HL := Lib.hid (HL.out.trans (hq.mono HL.out.size))
  clear hq
  have hq : Below w6.heap.size w6 ((w6.alloc (.cells #[.int .i64 1, .string (numS A), .string (denS A), .string { data := #[] }, .bool false, .int .i64 0, .int .i64 0, .int .i64 0, .slice none 0 0] 27)).alloc (.cells #[.int .i64 1, .string (numS O), .string (denS O), .string { data := #[] }, .bool false, .int .i64 0, .int .i64 0, .int .i64 0, .slice none 0 0] 27)) := ((Below.refl _ _).alloc (Nat.le_refl _) _).alloc (by simp) _
  replace HE := Lib.hid (HE.out.below hq)
  replace HL := Lib.hid (HL.out.trans (hq.mono HL.out.size))
  obtain ⟨hx, hy, _⟩ := two_new w6 (.cells #[.int .i64 1, .string (numS A), .string (denS A), .string { data := #[] }, .bool false, .int .i64 0, .int .i64 0, .int .i64 0, .slice none 0 0] 27) (.cells #[.int .i64 1, .string (numS O), .string (denS O), .string { data := #[] }, .bool false, .int .i64 0, .int .i64 0, .int .i64 0, .slice none 0 0] 27)
  have HX := Lib.hid hx
  have HY := Lib.hid hy
  clear hq hx hy
  obtain ⟨WA, hWA⟩ : ∃ Z, (w6.alloc (.cells #[.int .i64 1, .string (numS A), .string (denS A), .string { data := #[] }, .bool false, .int .i64 0, .int .i64 0, .int .i64 0, .slice none 0 0] 27)).alloc (.cells #[.int .i64 1, .string (numS O), .string (denS O), .string { data := #[] }, .bool false, .int .i64 0, .int .i64 0, .int .i64 0, .slice none 0 0] 27) = Z := ⟨_, rfl⟩
  rw [hWA] at HE HL HX HY
  have EWA := Lib.hid hWA
  clear hWA
  go_wp2_with fail
  rw [EWA.out]
  refine (TW.out _ _ (by omega) (by omega) HE.out).mono ?_
  rintro e w7 ⟨rfl, hq⟩
  replace HE := Lib.hid (HE.out.below hq)
  replace HL := Lib.hid (HL.out.trans (hq.mono HL.out.size))
  replace HX := Lib.hid (keep_block HX.out hq)
  replace HY := Lib.hid (keep_block HY.out hq)
  clear hq
  go_wp2_with fail
  refine (TW.out _ _ (by omega) (by omega) HE.out).mono ?_
  rintro e w8 ⟨rfl, hq⟩
  replace HE := Lib.hid (HE.out.below hq)
  replace HL := Lib.hid (HL.out.trans (hq.mono HL.out.size))
  replace HX := Lib.hid (keep_block HX.out hq)
  replace HY := Lib.hid (keep_block HY.out hq)
  clear hq
  go_wp2_with fail
  refine (RC.out _ HE.out).mono ?_
  rintro e w9 ⟨rfl, hq⟩
  replace HE := Lib.hid (HE.out.below hq)
  replace HL := Lib.hid (HL.out.trans (hq.mono HL.out.size))
  replace HX := Lib.hid (keep_block HX.out hq)
  replace HY := Lib.hid (keep_block HY.out hq)
  clear hq
  have hq : Below w9.heap.size w9 (w9.alloc (.cells #[.int .i64 1, .string (numS C), .string (denS C), .string { data := #[] }, .bool false, .int .i64 0, .int .i64 0, .int .i64 0, .slice none 0 0] 27)) := (Below.refl _ _).alloc (Nat.le_refl _) _
  replace HE := Lib.hid (HE.out.below hq)
  replace HL := Lib.hid (HL.out.trans (hq.mono HL.out.size))
  replace HX := Lib.hid (keep_block HX.out hq)
  replace HY := Lib.hid (keep_block HY.out hq)
  have HC := Lib.hid (heap_alloc_new w9 (.cells #[.int .i64 1, .string (numS C), .string (denS C), .string { data := #[] }, .bool false, .int .i64 0, .int .i64 0, .int .i64 0, .slice none 0 0] 27))
  clear hq
  obtain ⟨WC, hWC⟩ : ∃ Z, (w9.alloc (.cells #[.int .i64 1, .string (numS C), .string (denS C), .string { data := #[] }, .bool false, .int .i64 0, .int .i64 0, .int .i64 0, .slice none 0 0] 27)) = Z := ⟨_, rfl⟩
  rw [hWC] at HE HL HX HY HC
  have EWC := Lib.hid hWC
  clear hWC
  go_wp2_with fail
  rw [EWC.out]
  have hq : Below WC.heap.size WC WC.drew := (Below.refl _ _).drew
  replace HE := Lib.hid (HE.out.below hq)
  replace HL := Lib.hid (HL.out.trans (hq.mono HL.out.size))
  replace HX := Lib.hid (keep_block HX.out hq)
  replace HY := Lib.hid (keep_block HY.out hq)
  replace HC := Lib.hid (keep_block HC.out hq)
  clear hq
  go_region_held3 (fun Z => (Z.cell? ⟨w6.heap.size, 0, none⟩ = some (.int .i64 1) ∧ Z.cell? ⟨w6.heap.size, 1, none⟩ = some (.string (numS A)) ∧ Z.cell? ⟨w6.heap.size, 2, none⟩ = some (.string (denS A)) ∧ Z.cell? ⟨w6.heap.size, 3, none⟩ = some (.string { data := #[] }) ∧ Z.cell? ⟨w6.heap.size, 4, none⟩ = some (.bool false) ∧ Z.cell? ⟨w6.heap.size, 5, none⟩ = some (.int .i64 0) ∧ Z.cell? ⟨w6.heap.size, 6, none⟩ = some (.int .i64 0) ∧ Z.cell? ⟨w6.heap.size, 7, none⟩ = some (.int .i64 0) ∧ Z.cell? ⟨w6.heap.size, 8, none⟩ = some (.slice none 0 0)) ∧ (Z.cell? ⟨w6.heap.size + 1, 0, none⟩ = some (.int .i64 1) ∧ Z.cell? ⟨w6.heap.size + 1, 1, none⟩ = some (.string (numS O)) ∧ Z.cell? ⟨w6.heap.size + 1, 2, none⟩ = some (.string (denS O)) ∧ Z.cell? ⟨w6.heap.size + 1, 3, none⟩ = some (.string { data := #[] }) ∧ Z.cell? ⟨w6.heap.size + 1, 4, none⟩ = some (.bool false) ∧ Z.cell? ⟨w6.heap.size + 1, 5, none⟩ = some (.int .i64 0) ∧ Z.cell? ⟨w6.heap.size + 1, 6, none⟩ = some (.int .i64 0) ∧ Z.cell? ⟨w6.heap.size + 1, 7, none⟩ = some (.int .i64 0) ∧ Z.cell? ⟨w6.heap.size + 1, 8, none⟩ = some (.slice none 0 0)) ∧ (Z.cell? ⟨w9.heap.size, 0, none⟩ = some (.int .i64 1) ∧ Z.cell? ⟨w9.heap.size, 1, none⟩ = some (.string (numS C)) ∧ Z.cell? ⟨w9.heap.size, 2, none⟩ = some (.string (denS C)) ∧ Z.cell? ⟨w9.heap.size, 3, none⟩ = some (.string { data := #[] }) ∧ Z.cell? ⟨w9.heap.size, 4, none⟩ = some (.bool false) ∧ Z.cell? ⟨w9.heap.size, 5, none⟩ = some (.int .i64 0) ∧ Z.cell? ⟨w9.heap.size, 6, none⟩ = some (.int .i64 0) ∧ Z.cell? ⟨w9.heap.size, 7, none⟩ = some (.int .i64 0) ∧ Z.cell? ⟨w9.heap.size, 8, none⟩ = some (.slice none 0 0)))
    (first | (with_reducible exact nine3 HX.out HY.out HC.out) | (with_reducible exact nine3 (drew_block HX.out) (drew_block HY.out) (drew_block HC.out)) | fail)
    ((first | (go_at_call 13; (first | (with_reducible refine (TP.out _ HE.out).mono ?_)); rintro e V1 ⟨rfl, hq⟩; replace HX := Lib.hid (keep_block HX.out hq); replace HY := Lib.hid (keep_block HY.out hq); replace HC := Lib.hid (keep_block HC.out hq); replace HE := Lib.hid (HE.out.below hq); replace HL := Lib.hid (HL.out.trans (hq.mono HL.out.size)); clear hq) | (go_at_call 12; (first | (with_reducible refine (RS.out _ _).mono ?_)); rintro e V1 ⟨rfl, hq⟩; replace HX := Lib.hid (keep_block HX.out hq); replace HY := Lib.hid (keep_block HY.out hq); replace HC := Lib.hid (keep_block HC.out hq); replace HE := Lib.hid (HE.out.below hq); replace HL := Lib.hid (HL.out.trans (hq.mono HL.out.size)); clear hq)))
  go_wp2_with fail
  refine wp_region_held_drew (S := fun _ => True) (by kernel_rfl) trivial (fun hHeld => ?_)
  refine wpAnyH_take (i := 0) (oi := ⟨some 46, _, _, _, _, _⟩) (v := ?v0) rfl (by kernel_rfl) (by kernel_rfl) (by kernel_rfl) (fun _ _ _ h => h) (Or.inl ⟨by rfl, ?y0⟩) (by assumption) ?r0
  case y0 =>
    intro w hSw
    (try dsimp only at hSw)
    go_simp
    try with_reducible rfl
  try simp only [Act.put, List.setIfInBounds_toArray, List.set_cons_zero, List.set_cons_succ]
  refine wpAnyH_take (i := 1) (oi := ⟨some 47, _, _, _, _, _⟩) (v := ?v1) rfl (by kernel_rfl) (by kernel_rfl) (by kernel_rfl) (fun _ _ _ h => h) (Or.inl ⟨by rfl, ?y1⟩) (by assumption) ?r1
  case y1 =>
    intro w hSw
    (try dsimp only at hSw)
    go_simp
    try with_reducible rfl
  try simp only [Act.put, List.setIfInBounds_toArray, List.set_cons_zero, List.set_cons_succ]
  refine wpAnyH_take (i := 2) (oi := ⟨some 48, _, _, _, _, _⟩) (v := ?v2) rfl (by kernel_rfl) (by kernel_rfl) (by kernel_rfl) (fun _ _ _ h => h) (Or.inl ⟨by rfl, ?y2⟩) (by assumption) ?r2
  case y2 =>
    intro w hSw
    (try dsimp only at hSw)
    go_simp
    try with_reducible rfl
  try simp only [Act.put, List.setIfInBounds_toArray, List.set_cons_zero, List.set_cons_succ]
  refine wpAnyH_take (i := 3) (oi := ⟨some 49, _, _, _, _, _⟩) (v := undef) rfl (by kernel_rfl) (by kernel_rfl) (by kernel_rfl) (fun _ _ _ h => h) (Or.inr ⟨by rfl, rfl⟩) (by assumption) ?_
  try simp only [Act.put, List.setIfInBounds_toArray, List.set_cons_zero, List.set_cons_succ]
  refine wpAnyH_take (i := 4) (oi := ⟨some 50, _, _, _, _, _⟩) (v := undef) rfl (by kernel_rfl) (by kernel_rfl) (by kernel_rfl) (fun _ _ _ h => h) (Or.inr ⟨by rfl, rfl⟩) (by assumption) ?_
  try simp only [Act.put, List.setIfInBounds_toArray, List.set_cons_zero, List.set_cons_succ]
  refine wpAnyH_take (i := 5) (oi := ⟨some 51, _, _, _, _, _⟩) (v := undef) rfl (by kernel_rfl) (by kernel_rfl) (by kernel_rfl) (fun _ _ _ h => h) (Or.inr ⟨by rfl, rfl⟩) (by assumption) ?_
  try simp only [Act.put, List.setIfInBounds_toArray, List.set_cons_zero, List.set_cons_succ]
  refine wpAnyH_take (i := 6) (oi := ⟨some 52, _, _, _, _, _⟩) (v := undef) rfl (by kernel_rfl) (by kernel_rfl) (by kernel_rfl) (fun _ _ _ h => h) (Or.inr ⟨by rfl, rfl⟩) (by assumption) ?_
  try simp only [Act.put, List.setIfInBounds_toArray, List.set_cons_zero, List.set_cons_succ]
  refine wpAnyH_take (i := 7) (oi := ⟨some 53, _, _, _, _, _⟩) (v := undef) rfl (by kernel_rfl) (by kernel_rfl) (by kernel_rfl) (fun _ _ _ h => h) (Or.inr ⟨by rfl, rfl⟩) (by assumption) ?_
  try simp only [Act.put, List.setIfInBounds_toArray, List.set_cons_zero, List.set_cons_succ]
  refine wpAnyH_take (i := 8) (oi := ⟨some 54, _, _, _, _, _⟩) (v := undef) rfl (by kernel_rfl) (by kernel_rfl) (by kernel_rfl) (fun _ _ _ h => h) (Or.inr ⟨by rfl, rfl⟩) (by assumption) ?_
  try simp only [Act.put, List.setIfInBounds_toArray, List.set_cons_zero, List.set_cons_succ]
  refine wpAnyH_take (i := 9) (oi := ⟨some 55, _, _, _, _, _⟩) (v := undef) rfl (by kernel_rfl) (by kernel_rfl) (by kernel_rfl) (fun _ _ _ h => h) (Or.inr ⟨by rfl, rfl⟩) (by assumption) ?_
  try simp only [Act.put, List.setIfInBounds_toArray, List.set_cons_zero, List.set_cons_succ]
  refine wpAnyH_take (i := 10) (oi := ⟨some 56, _, _, _, _, _⟩) (v := undef) rfl (by kernel_rfl) (by kernel_rfl) (by kernel_rfl) (fun _ _ _ h => h) (Or.inr ⟨by rfl, rfl⟩) (by assumption) ?_
  try simp only [Act.put, List.setIfInBounds_toArray, List.set_cons_zero, List.set_cons_succ]
  refine wpAnyH_take (i := 11) (oi := ⟨some 57, _, _, _, _, _⟩) (v := undef) rfl (by kernel_rfl) (by kernel_rfl) (by kernel_rfl) (fun _ _ _ h => h) (Or.inr ⟨by rfl, rfl⟩) (by assumption) ?_
  try simp only [Act.put, List.setIfInBounds_toArray, List.set_cons_zero, List.set_cons_succ]
  refine wpAnyH_take (i := 12) (oi := ⟨some 58, _, _, _, _, _⟩) (v := undef) rfl (by kernel_rfl) (by kernel_rfl) (by kernel_rfl) (fun _ _ _ h => h) (Or.inr ⟨by rfl, rfl⟩) (by assumption) ?_
  try simp only [Act.put, List.setIfInBounds_toArray, List.set_cons_zero, List.set_cons_succ]
  refine wpAnyH_take (i := 13) (oi := ⟨some 59, _, _, _, _, _⟩) (v := undef) rfl (by kernel_rfl) (by kernel_rfl) (by kernel_rfl) (fun _ _ _ h => h) (Or.inr ⟨by rfl, rfl⟩) (by assumption) ?_
  try simp only [Act.put, List.setIfInBounds_toArray, List.set_cons_zero, List.set_cons_succ]
  refine wpAnyH_take (i := 14) (oi := ⟨some 60, _, _, _, _, _⟩) (v := undef) rfl (by kernel_rfl) (by kernel_rfl) (by kernel_rfl) (fun _ _ _ h => h) (Or.inr ⟨by rfl, rfl⟩) (by assumption) ?_
  try simp only [Act.put, List.setIfInBounds_toArray, List.set_cons_zero, List.set_cons_succ]
  refine wpAnyH_take (i := 15) (oi := ⟨some 61, _, _, _, _, _⟩) (v := undef) rfl (by kernel_rfl) (by kernel_rfl) (by kernel_rfl) (fun _ _ _ h => h) (Or.inr ⟨by rfl, rfl⟩) (by assumption) ?_
  try simp only [Act.put, List.setIfInBounds_toArray, List.set_cons_zero, List.set_cons_succ]
  refine wpAnyH_take (i := 16) (oi := ⟨some 62, _, _, _, _, _⟩) (v := undef) rfl (by kernel_rfl) (by kernel_rfl) (by kernel_rfl) (fun _ _ _ h => h) (Or.inr ⟨by rfl, rfl⟩) (by assumption) ?_
  try simp only [Act.put, List.setIfInBounds_toArray, List.set_cons_zero, List.set_cons_succ]
  refine wpAnyH_take (i := 17) (oi := ⟨some 63, _, _, _, _, _⟩) (v := ?v17) rfl (by kernel_rfl) (by kernel_rfl) (by kernel_rfl) (fun _ _ _ h => h) (Or.inl ⟨by rfl, ?y17⟩) (by assumption) ?r17
  case y17 =>
    intro w hSw
    (try dsimp only at hSw)
    go_simp
    try with_reducible rfl
  try simp only [Act.put, List.setIfInBounds_toArray, List.set_cons_zero, List.set_cons_succ]
  refine wpAnyH_take (i := 18) (oi := ⟨some 64, _, _, _, _, _⟩) (v := ?v18) rfl (by kernel_rfl) (by kernel_rfl) (by kernel_rfl) (fun _ _ _ h => h) (Or.inl ⟨by rfl, ?y18⟩) (by assumption) ?r18
  case y18 =>
    intro w hSw
    (try dsimp only at hSw)
    go_simp
    try with_reducible rfl
  try simp only [Act.put, List.setIfInBounds_toArray, List.set_cons_zero, List.set_cons_succ]
  refine wpAnyH_take (i := 19) (oi := ⟨some 65, _, _, _, _, _⟩) (v := undef) rfl (by kernel_rfl) (by kernel_rfl) (by kernel_rfl) (fun _ _ _ h => h) (Or.inr ⟨by rfl, rfl⟩) (by assumption) ?_
  try simp only [Act.put, List.setIfInBounds_toArray, List.set_cons_zero, List.set_cons_succ]
  refine wpAnyH_take (i := 20) (oi := ⟨some 66, _, _, _, _, _⟩) (v := undef) rfl (by kernel_rfl) (by kernel_rfl) (by kernel_rfl) (fun _ _ _ h => h) (Or.inr ⟨by rfl, rfl⟩) (by assumption) ?_
  try simp only [Act.put, List.setIfInBounds_toArray, List.set_cons_zero, List.set_cons_succ]
  refine wpAnyH_take (i := 21) (oi := ⟨some 67, _, _, _, _, _⟩) (v := undef) rfl (by kernel_rfl) (by kernel_rfl) (by kernel_rfl) (fun _ _ _ h => h) (Or.inr ⟨by rfl, rfl⟩) (by assumption) ?_
  try simp only [Act.put, List.setIfInBounds_toArray, List.set_cons_zero, List.set_cons_succ]
  refine wpAnyH_take (i := 22) (oi := ⟨some 68, _, _, _, _, _⟩) (v := undef) rfl (by kernel_rfl) (by kernel_rfl) (by kernel_rfl) (fun _ _ _ h => h) (Or.inr ⟨by rfl, rfl⟩) (by assumption) ?_
  try simp only [Act.put, List.setIfInBounds_toArray, List.set_cons_zero, List.set_cons_succ]
  refine wpAnyH_take (i := 23) (oi := ⟨some 69, _, _, _, _, _⟩) (v := undef) rfl (by kernel_rfl) (by kernel_rfl) (by kernel_rfl) (fun _ _ _ h => h) (Or.inr ⟨by rfl, rfl⟩) (by assumption) ?_
  try simp only [Act.put, List.setIfInBounds_toArray, List.set_cons_zero, List.set_cons_succ]
  refine wpAnyH_take (i := 24) (oi := ⟨some 70, _, _, _, _, _⟩) (v := undef) rfl (by kernel_rfl) (by kernel_rfl) (by kernel_rfl) (fun _ _ _ h => h) (Or.inr ⟨by rfl, rfl⟩) (by assumption) ?_
  try simp only [Act.put, List.setIfInBounds_toArray, List.set_cons_zero, List.set_cons_succ]
  refine wpAnyH_take (i := 25) (oi := ⟨some 71, _, _, _, _, _⟩) (v := undef) rfl (by kernel_rfl) (by kernel_rfl) (by kernel_rfl) (fun _ _ _ h => h) (Or.inr ⟨by rfl, rfl⟩) (by assumption) ?_
  try simp only [Act.put, List.setIfInBounds_toArray, List.set_cons_zero, List.set_cons_succ]
  refine wpAnyH_take (i := 26) (oi := ⟨some 72, _, _, _, _, _⟩) (v := undef) rfl (by kernel_rfl) (by kernel_rfl) (by kernel_rfl) (fun _ _ _ h => h) (Or.inr ⟨by rfl, rfl⟩) (by assumption) ?_
  try simp only [Act.put, List.setIfInBounds_toArray, List.set_cons_zero, List.set_cons_succ]
  refine wpAnyH_take (i := 27) (oi := ⟨some 73, _, _, _, _, _⟩) (v := ?v27) rfl (by kernel_rfl) (by kernel_rfl) (by kernel_rfl) (fun _ _ _ h => h) (Or.inl ⟨by rfl, ?y27⟩) (by assumption) ?r27
  case y27 =>
    intro w hSw
    (try dsimp only at hSw)
    go_simp
    try with_reducible rfl
  try simp only [Act.put, List.setIfInBounds_toArray, List.set_cons_zero, List.set_cons_succ]
  refine wpAnyH_take (i := 28) (oi := ⟨some 4, _, _, _, _, _⟩) (v := ?v28) rfl (by kernel_rfl) (by kernel_rfl) (by kernel_rfl) (fun _ _ _ h => h) (Or.inl ⟨by rfl, ?y28⟩) (by assumption) ?r28
  case y28 =>
    intro w hSw
    (try dsimp only at hSw)
    go_simp
    try with_reducible rfl
  try simp only [Act.put, List.setIfInBounds_toArray, List.set_cons_zero, List.set_cons_succ]
  refine wpAnyH_done (by kernel_rfl) ?_ _
  all_goals
    go_wp2
    go_ret
    exact ⟨rfl, HL.out.drew⟩

set_option maxHeartbeats 8000000 in
set_option maxRecDepth 100000 in
theorem pascal_tf (x y : Int) (m l : Nat) (w : World) (hx0 : -9223372036854775808 ≤ x) (hx1 : x ≤ 9223372036854775807) (hy0 : -9223372036854775808 ≤ y) (hy1 : y ≤ 9223372036854775807) (hm : x % 200 = (m : Int)) (hl : y % ((m : Int) + 1) = (l : Int)) (hm9 : m < 200) (hlm : l < m) (hl9 : l < 100) (hE : Env w) :
    Calls Tryz.prog 4 #[.int .i64 x, .int .i64 y] w fun e w' => e = .returned (.bool true) ∧ Below w.heap.size w w' := by
  obtain ⟨N, hN⟩ : ∃ N : Int, 1 + (m : Int) = N := ⟨_, rfl⟩
  obtain ⟨K, hK⟩ : ∃ K : Int, 1 + (l : Int) = K := ⟨_, rfl⟩
  have TMx := Lib.hid (fun W => kmod_any x 200 hx0 hx1 (by decide) (by decide) W)
  have TMy := Lib.hid (fun W => kmod_any y N hy0 hy1 (by omega) (by omega) W)
  rw [hm] at TMx
  rw [show y % N = (l : Int) by rw [← hN, Int.add_comm]; exact hl] at TMy
  have TW := Lib.hid whole_agg
  have TZ := Lib.hid (fun W g => whole_agg 0 W (by decide) (by decide) g)
  obtain ⟨O, hO⟩ : ∃ O : Rat, ((0 : Int) : Rat) = O := ⟨_, rfl⟩
  rw [hO] at TZ
  have eN : ((m + 1 : Nat) : Int) = N := by omega
  have eK : ((l + 1 : Nat) : Int) = K := by omega
  have RA := Lib.hid (fun (W : World) g => math2 (fun W B C h g => m_COMBIN m l B 0 C W (by omega) (by omega) h g) W g)
  have RC := Lib.hid (fun (W : World) g => math2 (fun W B C h g => m_COMBIN (m + 1) (l + 1) B 0 C W (by omega) (by omega) h g) W g)
  rw [eN, eK] at RC
  have hsum : ((choose (m + 1) (l + 1) : Nat) : Int) = ((choose m l : Nat) : Int) + ((choose m (l + 1) : Nat) : Int) := by rw [choose_succ]; omega
  have fA : fits (((choose m l : Nat) : Int) : Rat) = true := fits_nat _ (lt_300 (Nat.le_trans (choose_small (by omega)) (by decide +kernel)))
  have fB : fits (((choose m (l + 1) : Nat) : Int) : Rat) = true := fits_nat _ (lt_300 (Nat.le_trans (choose_small (by omega)) (by decide +kernel)))
  have fC : fits (((choose (m + 1) (l + 1) : Nat) : Int) : Rat) = true := fits_nat _ (lt_300 (Nat.le_trans (choose_small (by omega)) (by decide +kernel)))
  have hsr : (((choose m l : Nat) : Int) : Rat) + (((choose m (l + 1) : Nat) : Int) : Rat) = (((choose (m + 1) (l + 1) : Nat) : Int) : Rat) := by rw [hsum, Rat.intCast_add]
  have TP := Lib.hid (fun W g => plus_agg (((choose m l : Nat) : Int) : Rat) (((choose m (l + 1) : Nat) : Int) : Rat) W fA fB (by rw [hsr]; exact fC) g)
  rw [hsr] at TP
  have RS := Lib.hid same_self
  have RB := Lib.hid (fun (W : World) g => math2 (fun W B C h g => m_COMBIN m (l + 1) B 0 C W (by omega) (by omega) h g) W g)
  rw [eK] at RB
  have RP := Lib.hid (fun (W : World) g => math2 (fun W B C h g => m_PERMUT (m + 1) (l + 1) B 0 C W (by omega) (by omega) (by omega) h g) W g)
  have RF := Lib.hid (fun (W : World) g => math1 (fun W B C h g => m_FACT (l + 1) B 0 C W (by omega) h g) W g)
  have fF := fits_desc (l + 1) (l + 1) (by omega) (by omega)
  have fD := fits_desc (m + 1) (l + 1) (by omega) (by omega)
  have hpr : (((choose (m + 1) (l + 1) : Nat) : Int) : Rat) * descR (l + 1) (l + 1) = descR (m + 1) (l + 1) := by
    unfold descR
    rw [← Rat.intCast_mul, ← Int.natCast_mul, ← desc_choose]
  have RQ := Lib.hid (fun (W : World) g => math2 (fun W B C h g => m_PRODUCT [(((choose (m + 1) (l + 1) : Nat) : Int) : Rat), descR (l + 1) (l + 1)] B 0 C W (by simp) (by simp) (by
    intro q hq
    simp only [List.mem_cons, List.not_mem_nil, or_false] at hq
    rcases hq with rfl | rfl
    · exact fC
    · exact fF) (by
    intro k hk
    match k, hk with
    | 0, _ => exact fits_int 1 (by decide)
    | 1, _ => simp only [List.take, prodL, List.foldl]; rw [Rat.one_mul]; exact fC
    | 2, _ => simp only [List.take, prodL, List.foldl]; rw [Rat.one_mul, hpr]; exact fD
    | k + 3, hk => simp at hk) h g) W g)
  rw [prod_ab, hpr] at RQ
  rw [eK] at RF
  rw [eN, eK] at RP
  obtain ⟨FF, hFF⟩ : ∃ q, descR (l + 1) (l + 1) = q := ⟨_, rfl⟩
  obtain ⟨DD, hDD⟩ : ∃ q, descR (m + 1) (l + 1) = q := ⟨_, rfl⟩
  rw [hFF] at RF RQ
  rw [hDD] at RP RQ
  clear hFF hDD hpr fF fD
  obtain ⟨A, hA⟩ : ∃ q : Rat, (((choose m l : Nat) : Int) : Rat) = q := ⟨_, rfl⟩
  obtain ⟨C, hC⟩ : ∃ q : Rat, (((choose (m + 1) (l + 1) : Nat) : Int) : Rat) = q := ⟨_, rfl⟩
  rw [hA] at RA TP
  rw [hC] at RC TP RQ
  obtain ⟨B, hB⟩ : ∃ q : Rat, (((choose m (l + 1) : Nat) : Int) : Rat) = q := ⟨_, rfl⟩
  rw [hB] at RB TP
  clear hB
  have hNm : N - 1 = (m : Int) := by omega
  have hKl : K - 1 = (l : Int) := by omega
  have hKb : 1 ≤ K ∧ K ≤ 200 := by omega
  have hNb : 1 ≤ N ∧ N ≤ 200 := by omega
  have d1 : decide (K < N) = true := decide_eq_true (by omega)
  have d2 : decide (100 < K) = false := decide_eq_false (by omega)
  have HE := Lib.hid hE
  have HL := Lib.hid (Below.refl w.heap.size w)
  clear hm hl hx0 hx1 hy0 hy1 hE hO eN eK fA fB fC hsum hsr hA hC hlm hl9
  go_enter Tryz.func4, Tryz.ntmps4
  go_wp2_with fail
  refine (TMx.out _).mono ?_
  rintro e w1 ⟨rfl, rfl⟩
  go_wp2_with fail
  refine (TMy.out _).mono ?_
  rintro e w2 ⟨rfl, rfl⟩
  go_wp2_with fail
  refine (TW.out _ _ (by omega) (by omega) HE.out).mono ?_
  rintro e w3 ⟨rfl, hq⟩
  replace HE := Lib.hid (HE.out.below hq)
  replace HL := Lib.hid (HL.out.trans (hq.mono HL.out.size))
  clear hq
  go_wp2_with fail
  refine (TW.out _ _ (by omega) (by omega) HE.out).mono ?_
  rintro e w4 ⟨rfl, hq⟩
  replace HE := Lib.hid (HE.out.below hq)
  replace HL := Lib.hid (HL.out.trans (hq.mono HL.out.size))
  clear hq
  go_wp2_with fail
  refine (RA.out _ HE.out).mono ?_
  rintro e w5 ⟨rfl, hq⟩
  replace HE := Lib.hid (HE.out.below hq)
  replace HL := Lib.hid (HL.out.trans (hq.mono HL.out.size))
  clear hq
  go_wp2_with fail
  refine (TZ.out _ HE.out).mono ?_
  rintro e w6 ⟨rfl, hq⟩
  replace HE := Lib.hid (HE.out.below hq)
  replace HL := Lib.hid (HL.out.trans (hq.mono HL.out.size))
  clear hq
  have HLB := HL
  have HEB := HE
  have hq : Below w6.heap.size w6 ((w6.alloc (.cells #[.int .i64 1, .string (numS A), .string (denS A), .string { data := #[] }, .bool false, .int .i64 0, .int .i64 0, .int .i64 0, .slice none 0 0] 27)).alloc (.cells #[.int .i64 1, .string (numS O), .string (denS O), .string { data := #[] }, .bool false, .int .i64 0, .int .i64 0, .int .i64 0, .slice none 0 0] 27)) := ((Below.refl _ _).alloc (Nat.le_refl _) _).alloc (by simp) _
  replace HE := Lib.hid (HE.out.below hq)
  replace HL := Lib.hid (HL.out.trans (hq.mono HL.out.size))
  have HLA := Lib.hid (show w2.heap.size ≤ w6.heap.size from HLB.out.size)
  have HPA := Lib.hid (show Past w6.heap.size from HEB.out.room)
  clear HLB HEB
  obtain ⟨hx, hy, _⟩ := two_new w6 (.cells #[.int .i64 1, .string (numS A), .string (denS A), .string { data := #[] }, .bool false, .int .i64 0, .int .i64 0, .int .i64 0, .slice none 0 0] 27) (.cells #[.int .i64 1, .string (numS O), .string (denS O), .string { data := #[] }, .bool false, .int .i64 0, .int .i64 0, .int .i64 0, .slice none 0 0] 27)
  have HX := Lib.hid hx
  have HY := Lib.hid hy
  clear hq hx hy
  obtain ⟨WA, hWA⟩ : ∃ Z, (w6.alloc (.cells #[.int .i64 1, .string (numS A), .string (denS A), .string { data := #[] }, .bool false, .int .i64 0, .int .i64 0, .int .i64 0, .slice none 0 0] 27)).alloc (.cells #[.int .i64 1, .string (numS O), .string (denS O), .string { data := #[] }, .bool false, .int .i64 0, .int .i64 0, .int .i64 0, .slice none 0 0] 27) = Z := ⟨_, rfl⟩
  rw [hWA] at HE HL HX HY
  have EWA := Lib.hid hWA
  clear hWA
  go_wp2_with fail
  rw [EWA.out]
  refine (TW.out _ _ (by omega) (by omega) HE.out).mono ?_
  rintro e w7 ⟨rfl, hq⟩
  replace HE := Lib.hid (HE.out.below hq)
  replace HL := Lib.hid (HL.out.trans (hq.mono HL.out.size))
  replace HX := Lib.hid (keep_block HX.out hq)
  replace HY := Lib.hid (keep_block HY.out hq)
  clear hq
  go_wp2_with fail
  refine (TW.out _ _ (by omega) (by omega) HE.out).mono ?_
  rintro e w8 ⟨rfl, hq⟩
  replace HE := Lib.hid (HE.out.below hq)
  replace HL := Lib.hid (HL.out.trans (hq.mono HL.out.size))
  replace HX := Lib.hid (keep_block HX.out hq)
  replace HY := Lib.hid (keep_block HY.out hq)
  clear hq
  go_wp2_with fail
  refine (RB.out _ HE.out).mono ?_
  rintro e w9 ⟨rfl, hq⟩
  replace HE := Lib.hid (HE.out.below hq)
  replace HL := Lib.hid (HL.out.trans (hq.mono HL.out.size))
  replace HX := Lib.hid (keep_block HX.out hq)
  replace HY := Lib.hid (keep_block HY.out hq)
  clear hq
  have hb0 : w6.heap.size ≤ w6.heap.size + 1 := Nat.le_succ _
  have hbw : w2.heap.size ≤ w6.heap.size + 1 := Nat.le_trans HLA.out hb0
  have hEn := HE.out.but (W' := (((((((((w9.setCell ⟨w6.heap.size + 1, 0, none⟩ (.int .i64 1)).setCell ⟨w6.heap.size + 1, 1, none⟩ (.string (numS B))).setCell ⟨w6.heap.size + 1, 2, none⟩ (.string (denS B))).setCell ⟨w6.heap.size + 1, 3, none⟩ (.string { data := #[] })).setCell ⟨w6.heap.size + 1, 4, none⟩ (.bool false)).setCell ⟨w6.heap.size + 1, 5, none⟩ (.int .i64 0)).setCell ⟨w6.heap.size + 1, 6, none⟩ (.int .i64 0)).setCell ⟨w6.heap.size + 1, 7, none⟩ (.int .i64 0)).setCell ⟨w6.heap.size + 1, 8, none⟩ (.slice none 0 0))) (R := w6.heap.size + 1) (fun k hk => set9_other w9 _ (.int .i64 1) (.string (numS B)) (.string (denS B)) (.string { data := #[] }) (.bool false) (.int .i64 0) (.int .i64 0) (.int .i64 0) (.slice none 0 0) hk) (by simp [size_setCell]) ⟨Nat.lt_of_lt_of_le HPA.out.1 hb0, Nat.lt_of_lt_of_le HPA.out.2 hb0⟩
  have hXn := (set9_other w9 (w6.heap.size + 1) (.int .i64 1) (.string (numS B)) (.string (denS B)) (.string { data := #[] }) (.bool false) (.int .i64 0) (.int .i64 0) (.int .i64 0) (.slice none 0 0) (show w6.heap.size ≠ w6.heap.size + 1 by omega)).trans HX.out
  have hYn := set9_at HY.out (.int .i64 1) (.string (numS B)) (.string (denS B)) (.string { data := #[] }) (.bool false) (.int .i64 0) (.int .i64 0) (.int .i64 0) (.slice none 0 0)
  have hLn := (nine_end (x0 := (.int .i64 1)) (x1 := (.string (numS B))) (x2 := (.string (denS B))) (x3 := (.string { data := #[] })) (x4 := (.bool false)) (x5 := (.int .i64 0)) (x6 := (.int .i64 0)) (x7 := (.int .i64 0)) (x8 := (.slice none 0 0)) HY.out HL.out hbw).1
  obtain ⟨⟨y0, y1, y2, y3, y4, y5, y6, y7, y8⟩, g0, g1, g2, g3, g4, g5, g6, g7, g8⟩ := nine_at HY.out
  obtain ⟨WB, hWB⟩ : ∃ Z, (((((((((w9.setCell ⟨w6.heap.size + 1, 0, none⟩ (.int .i64 1)).setCell ⟨w6.heap.size + 1, 1, none⟩ (.string (numS B))).setCell ⟨w6.heap.size + 1, 2, none⟩ (.string (denS B))).setCell ⟨w6.heap.size + 1, 3, none⟩ (.string { data := #[] })).setCell ⟨w6.heap.size + 1, 4, none⟩ (.bool false)).setCell ⟨w6.heap.size + 1, 5, none⟩ (.int .i64 0)).setCell ⟨w6.heap.size + 1, 6, none⟩ (.int .i64 0)).setCell ⟨w6.heap.size + 1, 7, none⟩ (.int .i64 0)).setCell ⟨w6.heap.size + 1, 8, none⟩ (.slice none 0 0)) = Z := ⟨_, rfl⟩
  rw [hWB] at hEn hXn hYn hLn
  replace HE := Lib.hid hEn
  replace HL := Lib.hid hLn
  replace HX := Lib.hid hXn
  replace HY := Lib.hid hYn
  have EWB := Lib.hid hWB
  clear hWB hEn hXn hYn hLn hb0 hbw
  go_wp2_with fail
  rw [EWB.out]
  clear y0 y1 y2 y3 y4 y5 y6 y7 y8 g0 g1 g2 g3 g4 g5 g6 g7 g8
  refine (TW.out _ _ (by omega) (by omega) HE.out).mono ?_
  rintro e w10 ⟨rfl, hq⟩
  replace HE := Lib.hid (HE.out.below hq)
  replace HL := Lib.hid (HL.out.trans (hq.mono HL.out.size))
  replace HX := Lib.hid (keep_block HX.out hq)
  replace HY := Lib.hid (keep_block HY.out hq)
  clear hq
  go_wp2_with fail
  refine (TW.out _ _ (by omega) (by omega) HE.out).mono ?_
  rintro e w11 ⟨rfl, hq⟩
  replace HE := Lib.hid (HE.out.below hq)
  replace HL := Lib.hid (HL.out.trans (hq.mono HL.out.size))
  replace HX := Lib.hid (keep_block HX.out hq)
  replace HY := Lib.hid (keep_block HY.out hq)
  clear hq
  go_wp2_with fail
  refine (RC.out _ HE.out).mono ?_
  rintro e w12 ⟨rfl, hq⟩
  replace HE := Lib.hid (HE.out.below hq)
  replace HL := Lib.hid (HL.out.trans (hq.mono HL.out.size))
  replace HX := Lib.hid (keep_block HX.out hq)
  replace HY := Lib.hid (keep_block HY.out hq)
  clear hq
  have hq : Below w12.heap.size w12 (w12.alloc (.cells #[.int .i64 1, .string (numS C), .string (denS C), .string { data := #[] }, .bool false, .int .i64 0, .int .i64 0, .int .i64 0, .slice none 0 0] 27)) := (Below.refl _ _).alloc (Nat.le_refl _) _
  replace HE := Lib.hid (HE.out.below hq)
  replace HL := Lib.hid (HL.out.trans (hq.mono HL.out.size))
  replace HX := Lib.hid (keep_block HX.out hq)
  replace HY := Lib.hid (keep_block HY.out hq)
  have HC := Lib.hid (heap_alloc_new w12 (.cells #[.int .i64 1, .string (numS C), .string (denS C), .string { data := #[] }, .bool false, .int .i64 0, .int .i64 0, .int .i64 0, .slice none 0 0] 27))
  clear hq
  obtain ⟨WC, hWC⟩ : ∃ Z, (w12.alloc (.cells #[.int .i64 1, .string (numS C), .string (denS C), .string { data := #[] }, .bool false, .int .i64 0, .int .i64 0, .int .i64 0, .slice none 0 0] 27)) = Z := ⟨_, rfl⟩
  rw [hWC] at HE HL HX HY HC
  have EWC := Lib.hid hWC
  clear hWC
  go_wp2_with fail
  rw [EWC.out]
  have hq : Below WC.heap.size WC WC.drew := (Below.refl _ _).drew
  replace HE := Lib.hid (HE.out.below hq)
  replace HL := Lib.hid (HL.out.trans (hq.mono HL.out.size))
  replace HX := Lib.hid (keep_block HX.out hq)
  replace HY := Lib.hid (keep_block HY.out hq)
  replace HC := Lib.hid (keep_block HC.out hq)
  clear hq
  go_region_held3 (fun Z => (Z.cell? ⟨w6.heap.size, 0, none⟩ = some (.int .i64 1) ∧ Z.cell? ⟨w6.heap.size, 1, none⟩ = some (.string (numS A)) ∧ Z.cell? ⟨w6.heap.size, 2, none⟩ = some (.string (denS A)) ∧ Z.cell? ⟨w6.heap.size, 3, none⟩ = some (.string { data := #[] }) ∧ Z.cell? ⟨w6.heap.size, 4, none⟩ = some (.bool false) ∧ Z.cell? ⟨w6.heap.size, 5, none⟩ = some (.int .i64 0) ∧ Z.cell? ⟨w6.heap.size, 6, none⟩ = some (.int .i64 0) ∧ Z.cell? ⟨w6.heap.size, 7, none⟩ = some (.int .i64 0) ∧ Z.cell? ⟨w6.heap.size, 8, none⟩ = some (.slice none 0 0)) ∧ (Z.cell? ⟨w6.heap.size + 1, 0, none⟩ = some (.int .i64 1) ∧ Z.cell? ⟨w6.heap.size + 1, 1, none⟩ = some (.string (numS B)) ∧ Z.cell? ⟨w6.heap.size + 1, 2, none⟩ = some (.string (denS B)) ∧ Z.cell? ⟨w6.heap.size + 1, 3, none⟩ = some (.string { data := #[] }) ∧ Z.cell? ⟨w6.heap.size + 1, 4, none⟩ = some (.bool false) ∧ Z.cell? ⟨w6.heap.size + 1, 5, none⟩ = some (.int .i64 0) ∧ Z.cell? ⟨w6.heap.size + 1, 6, none⟩ = some (.int .i64 0) ∧ Z.cell? ⟨w6.heap.size + 1, 7, none⟩ = some (.int .i64 0) ∧ Z.cell? ⟨w6.heap.size + 1, 8, none⟩ = some (.slice none 0 0)) ∧ (Z.cell? ⟨w12.heap.size, 0, none⟩ = some (.int .i64 1) ∧ Z.cell? ⟨w12.heap.size, 1, none⟩ = some (.string (numS C)) ∧ Z.cell? ⟨w12.heap.size, 2, none⟩ = some (.string (denS C)) ∧ Z.cell? ⟨w12.heap.size, 3, none⟩ = some (.string { data := #[] }) ∧ Z.cell? ⟨w12.heap.size, 4, none⟩ = some (.bool false) ∧ Z.cell? ⟨w12.heap.size, 5, none⟩ = some (.int .i64 0) ∧ Z.cell? ⟨w12.heap.size, 6, none⟩ = some (.int .i64 0) ∧ Z.cell? ⟨w12.heap.size, 7, none⟩ = some (.int .i64 0) ∧ Z.cell? ⟨w12.heap.size, 8, none⟩ = some (.slice none 0 0)))
    (first | (with_reducible exact nine3 HX.out HY.out HC.out) | (with_reducible exact nine3 (drew_block HX.out) (drew_block HY.out) (drew_block HC.out)) | fail)
    ((first | (go_at_call 13; (first | (with_reducible refine (TP.out _ HE.out).mono ?_)); rintro e V1 ⟨rfl, hq⟩; replace HX := Lib.hid (keep_block HX.out hq); replace HY := Lib.hid (keep_block HY.out hq); replace HC := Lib.hid (keep_block HC.out hq); replace HE := Lib.hid (HE.out.below hq); replace HL := Lib.hid (HL.out.trans (hq.mono HL.out.size)); clear hq) | (go_at_call 12; (first | (with_reducible refine (RS.out _ _).mono ?_)); rintro e V1 ⟨rfl, hq⟩; replace HX := Lib.hid (keep_block HX.out hq); replace HY := Lib.hid (keep_block HY.out hq); replace HC := Lib.hid (keep_block HC.out hq); replace HE := Lib.hid (HE.out.below hq); replace HL := Lib.hid (HL.out.trans (hq.mono HL.out.size)); clear hq)))
  go_wp2_with fail
  replace HE := Lib.hid (HE.out.below (Below.refl _ _).drew)
  replace HL := Lib.hid (HL.out.drew)
  replace HC := Lib.hid (drew_block HC.out)
  refine wp_region_held_drew (S := (fun Z => (Z.cell? ⟨w12.heap.size, 0, none⟩ = some (.int .i64 1) ∧ Z.cell? ⟨w12.heap.size, 1, none⟩ = some (.string (numS C)) ∧ Z.cell? ⟨w12.heap.size, 2, none⟩ = some (.string (denS C)) ∧ Z.cell? ⟨w12.heap.size, 3, none⟩ = some (.string { data := #[] }) ∧ Z.cell? ⟨w12.heap.size, 4, none⟩ = some (.bool false) ∧ Z.cell? ⟨w12.heap.size, 5, none⟩ = some (.int .i64 0) ∧ Z.cell? ⟨w12.heap.size, 6, none⟩ = some (.int .i64 0) ∧ Z.cell? ⟨w12.heap.size, 7, none⟩ = some (.int .i64 0) ∧ Z.cell? ⟨w12.heap.size, 8, none⟩ = some (.slice none 0 0)))) (by kernel_rfl) (nine1 HC.out) (fun hHeld => ?_)
  refine wpAnyH_take (i := 0) (oi := ⟨some 46, _, _, _, _, _⟩) (v := ?v0) rfl (by kernel_rfl) (by kernel_rfl) (by kernel_rfl) (fun _ _ _ h => h) (Or.inl ⟨by rfl, ?y0⟩) (by assumption) ?r0
  case y0 =>
    intro w hSw
    (try dsimp only at hSw)
    go_simp
    try with_reducible rfl
  try simp only [Act.put, List.setIfInBounds_toArray, List.set_cons_zero, List.set_cons_succ]
  refine wpAnyH_take (i := 1) (oi := ⟨some 47, _, _, _, _, _⟩) (v := ?v1) rfl (by kernel_rfl) (by kernel_rfl) (by kernel_rfl) (fun _ _ _ h => h) (Or.inl ⟨by rfl, ?y1⟩) (by assumption) ?r1
  case y1 =>
    intro w hSw
    (try dsimp only at hSw)
    go_simp
    try with_reducible rfl
  try simp only [Act.put, List.setIfInBounds_toArray, List.set_cons_zero, List.set_cons_succ]
  refine wpAnyH_take (i := 2) (oi := ⟨some 48, _, _, _, _, _⟩) (v := ?v2) rfl (by kernel_rfl) (by kernel_rfl) (by kernel_rfl) (fun _ _ _ h => h) (Or.inl ⟨by rfl, ?y2⟩) (by assumption) ?r2
  case y2 =>
    intro w hSw
    (try dsimp only at hSw)
    go_simp
    try with_reducible rfl
  try simp only [Act.put, List.setIfInBounds_toArray, List.set_cons_zero, List.set_cons_succ]
  refine wpAnyH_take (i := 3) (oi := ⟨some 49, _, _, _, _, _⟩) (v := ?v3) rfl (by kernel_rfl) (by kernel_rfl) (by kernel_rfl) (fun _ _ _ h => h) (Or.inl ⟨by rfl, ?y3⟩) (by assumption) ?r3
  case y3 =>
    intro w hSw
    (try dsimp only at hSw)
    go_simp
    try with_reducible rfl
  try simp only [Act.put, List.setIfInBounds_toArray, List.set_cons_zero, List.set_cons_succ]
  refine wpAnyH_take (i := 5) (oi := ⟨some 51, _, _, _, _, _⟩) (v := ?v5) rfl (by kernel_rfl) (by kernel_rfl) (by kernel_rfl) (fun _ _ _ h => h) (Or.inl ⟨by rfl, ?y5⟩) (by assumption) ?r5
  case y5 =>
    intro w hSw
    (try dsimp only at hSw)
    go_simp
    try with_reducible rfl
  try simp only [Act.put, List.setIfInBounds_toArray, List.set_cons_zero, List.set_cons_succ]
  refine wpAnyH_take (i := 9) (oi := ⟨some 55, _, _, _, _, _⟩) (v := ?v9) rfl (by kernel_rfl) (by kernel_rfl) (by kernel_rfl) (fun _ _ _ h => h) (Or.inl ⟨by rfl, ?y9⟩) (by assumption) ?r9
  case y9 =>
    intro w hSw
    (try dsimp only at hSw)
    go_simp
    try with_reducible rfl
  try simp only [Act.put, List.setIfInBounds_toArray, List.set_cons_zero, List.set_cons_succ]
  refine wpAnyH_take (i := 10) (oi := ⟨some 56, _, _, _, _, _⟩) (v := ?v10) rfl (by kernel_rfl) (by kernel_rfl) (by kernel_rfl) (fun _ _ _ h => h) (Or.inl ⟨by rfl, ?y10⟩) (by assumption) ?r10
  case y10 =>
    intro w hSw
    (try dsimp only at hSw)
    go_simp
    try with_reducible rfl
  try simp only [Act.put, List.setIfInBounds_toArray, List.set_cons_zero, List.set_cons_succ]
  refine wpAnyH_ready (rs := [4]) (by kernel_rfl) (by simp) ?_
  refine AllReadyH.cons rfl (fun K hK => ?_) AllReadyH.nil
  go_simp
  (with_reducible refine (TW.out _ _ (by omega) (by omega) HE.out).mono ?_)
  rintro e w13 ⟨rfl, hq⟩
  replace HE := Lib.hid (HE.out.below hq)
  replace HL := Lib.hid (HL.out.trans (hq.mono HL.out.size))
  replace HC := Lib.hid (keep_block HC.out hq)
  clear hq
  refine hK.out _ _ (nine1 HC.out) (fun hHeld => ?_)
  clear hK K
  try simp only [Act.put, List.setIfInBounds_toArray, List.set_cons_zero, List.set_cons_succ]
  refine wpAnyH_ready (rs := [6]) (by kernel_rfl) (by simp) ?_
  refine AllReadyH.cons rfl (fun K hK => ?_) AllReadyH.nil
  go_simp
  (with_reducible refine (TW.out _ _ (by omega) (by omega) HE.out).mono ?_)
  rintro e w14 ⟨rfl, hq⟩
  replace HE := Lib.hid (HE.out.below hq)
  replace HL := Lib.hid (HL.out.trans (hq.mono HL.out.size))
  replace HC := Lib.hid (keep_block HC.out hq)
  clear hq
  refine hK.out _ _ (nine1 HC.out) (fun hHeld => ?_)
  clear hK K
  try simp only [Act.put, List.setIfInBounds_toArray, List.set_cons_zero, List.set_cons_succ]
  refine wpAnyH_ready (rs := [7]) (by kernel_rfl) (by simp) ?_
  refine AllReadyH.cons rfl (fun K hK => ?_) AllReadyH.nil
  go_simp
  refine hK.out _ _ (nine1 (new_keep HC.out)) (fun hHeld => ?_)
  clear hK K
  try simp only [Act.put, List.setIfInBounds_toArray, List.set_cons_zero, List.set_cons_succ]
  refine wpAnyH_ready (rs := [8]) (by kernel_rfl) (by simp) ?_
  refine AllReadyH.cons rfl (fun K hK => ?_) AllReadyH.nil
  go_simp
  (with_reducible refine (RP.out _ HE.out).mono ?_)
  rintro e w15 ⟨rfl, hq⟩
  replace HE := Lib.hid (HE.out.below hq)
  replace HL := Lib.hid (HL.out.trans (hq.mono HL.out.size))
  replace HC := Lib.hid (keep_block HC.out hq)
  clear hq
  refine hK.out _ _ (nine1 HC.out) (fun hHeld => ?_)
  clear hK K
  try simp only [Act.put, List.setIfInBounds_toArray, List.set_cons_zero, List.set_cons_succ]
  refine wpAnyH_ready (rs := [11]) (by kernel_rfl) (by simp) ?_
  refine AllReadyH.cons rfl (fun K hK => ?_) AllReadyH.nil
  go_simp
  (with_reducible refine (TW.out _ _ (by omega) (by omega) HE.out).mono ?_)
  rintro e w16 ⟨rfl, hq⟩
  replace HE := Lib.hid (HE.out.below hq)
  replace HL := Lib.hid (HL.out.trans (hq.mono HL.out.size))
  replace HC := Lib.hid (keep_block HC.out hq)
  clear hq
  refine hK.out _ _ (nine1 HC.out) (fun hHeld => ?_)
  clear hK K
  try simp only [Act.put, List.setIfInBounds_toArray, List.set_cons_zero, List.set_cons_succ]
  refine wpAnyH_ready (rs := [12]) (by kernel_rfl) (by simp) ?_
  refine AllReadyH.cons rfl (fun K hK => ?_) AllReadyH.nil
  go_simp
  refine hK.out _ _ (nine1 (new_keep HC.out)) (fun hHeld => ?_)
  clear hK K
  try simp only [Act.put, List.setIfInBounds_toArray, List.set_cons_zero, List.set_cons_succ]
  refine wpAnyH_ready (rs := [13]) (by kernel_rfl) (by simp) ?_
  refine AllReadyH.cons rfl (fun K hK => ?_) AllReadyH.nil
  go_simp
  (with_reducible refine (RF.out _ HE.out).mono ?_)
  rintro e w17 ⟨rfl, hq⟩
  replace HE := Lib.hid (HE.out.below hq)
  replace HL := Lib.hid (HL.out.trans (hq.mono HL.out.size))
  replace HC := Lib.hid (keep_block HC.out hq)
  clear hq
  refine hK.out _ _ (nine1 HC.out) (fun hHeld => ?_)
  clear hK K
  try simp only [Act.put, List.setIfInBounds_toArray, List.set_cons_zero, List.set_cons_succ]
  refine wpAnyH_ready (rs := [14]) (by kernel_rfl) (by simp) ?_
  refine AllReadyH.cons rfl (fun K hK => ?_) AllReadyH.nil
  go_simp
  refine hK.out _ _ (nine1 (new_keep HC.out)) (fun hHeld => ?_)
  clear hK K
  try simp only [Act.put, List.setIfInBounds_toArray, List.set_cons_zero, List.set_cons_succ]
  refine wpAnyH_ready (rs := [15]) (by kernel_rfl) (by simp) ?_
  refine AllReadyH.cons rfl (fun K hK => ?_) AllReadyH.nil
  go_simp
  (with_reducible refine (RQ.out _ HE.out).mono ?_)
  rintro e w18 ⟨rfl, hq⟩
  replace HE := Lib.hid (HE.out.below hq)
  replace HL := Lib.hid (HL.out.trans (hq.mono HL.out.size))
  replace HC := Lib.hid (keep_block HC.out hq)
  clear hq
  refine hK.out _ _ (nine1 HC.out) (fun hHeld => ?_)
  clear hK K
  try simp only [Act.put, List.setIfInBounds_toArray, List.set_cons_zero, List.set_cons_succ]
  refine wpAnyH_ready (rs := [16]) (by kernel_rfl) (by simp) ?_
  refine AllReadyH.cons rfl (fun K hK => ?_) AllReadyH.nil
  go_simp
  (with_reducible refine (RS.out _ _).mono ?_)
  rintro e w19 ⟨rfl, hq⟩
  replace HE := Lib.hid (HE.out.below hq)
  replace HL := Lib.hid (HL.out.trans (hq.mono HL.out.size))
  replace HC := Lib.hid (keep_block HC.out hq)
  clear hq
  refine hK.out _ _ (nine1 HC.out) (fun hHeld => ?_)
  clear hK K
  try simp only [Act.put, List.setIfInBounds_toArray, List.set_cons_zero, List.set_cons_succ]
  refine wpAnyH_take (i := 17) (oi := ⟨some 63, _, _, _, _, _⟩) (v := ?v17) rfl (by kernel_rfl) (by kernel_rfl) (by kernel_rfl) (fun _ _ _ h => h) (Or.inl ⟨by rfl, ?y17⟩) (by assumption) ?r17
  case y17 =>
    intro w hSw
    (try dsimp only at hSw)
    go_simp
    try with_reducible rfl
  try simp only [Act.put, List.setIfInBounds_toArray, List.set_cons_zero, List.set_cons_succ]
  refine wpAnyH_take (i := 18) (oi := ⟨some 64, _, _, _, _, _⟩) (v := ?v18) rfl (by kernel_rfl) (by kernel_rfl) (by kernel_rfl) (fun _ _ _ h => h) (Or.inl ⟨by rfl, ?y18⟩) (by assumption) ?r18
  case y18 =>
    intro w hSw
    (try dsimp only at hSw)
    go_simp
    try with_reducible rfl
  try simp only [Act.put, List.setIfInBounds_toArray, List.set_cons_zero, List.set_cons_succ]
  refine wpAnyH_take (i := 19) (oi := ⟨some 65, _, _, _, _, _⟩) (v := undef) rfl (by kernel_rfl) (by kernel_rfl) (by kernel_rfl) (fun _ _ _ h => h) (Or.inr ⟨by rfl, rfl⟩) (by assumption) ?_
  try simp only [Act.put, List.setIfInBounds_toArray, List.set_cons_zero, List.set_cons_succ]
  refine wpAnyH_take (i := 20) (oi := ⟨some 66, _, _, _, _, _⟩) (v := undef) rfl (by kernel_rfl) (by kernel_rfl) (by kernel_rfl) (fun _ _ _ h => h) (Or.inr ⟨by rfl, rfl⟩) (by assumption) ?_
  try simp only [Act.put, List.setIfInBounds_toArray, List.set_cons_zero, List.set_cons_succ]
  refine wpAnyH_take (i := 21) (oi := ⟨some 67, _, _, _, _, _⟩) (v := undef) rfl (by kernel_rfl) (by kernel_rfl) (by kernel_rfl) (fun _ _ _ h => h) (Or.inr ⟨by rfl, rfl⟩) (by assumption) ?_
  try simp only [Act.put, List.setIfInBounds_toArray, List.set_cons_zero, List.set_cons_succ]
  refine wpAnyH_take (i := 22) (oi := ⟨some 68, _, _, _, _, _⟩) (v := undef) rfl (by kernel_rfl) (by kernel_rfl) (by kernel_rfl) (fun _ _ _ h => h) (Or.inr ⟨by rfl, rfl⟩) (by assumption) ?_
  try simp only [Act.put, List.setIfInBounds_toArray, List.set_cons_zero, List.set_cons_succ]
  refine wpAnyH_take (i := 23) (oi := ⟨some 69, _, _, _, _, _⟩) (v := undef) rfl (by kernel_rfl) (by kernel_rfl) (by kernel_rfl) (fun _ _ _ h => h) (Or.inr ⟨by rfl, rfl⟩) (by assumption) ?_
  try simp only [Act.put, List.setIfInBounds_toArray, List.set_cons_zero, List.set_cons_succ]
  refine wpAnyH_take (i := 24) (oi := ⟨some 70, _, _, _, _, _⟩) (v := undef) rfl (by kernel_rfl) (by kernel_rfl) (by kernel_rfl) (fun _ _ _ h => h) (Or.inr ⟨by rfl, rfl⟩) (by assumption) ?_
  try simp only [Act.put, List.setIfInBounds_toArray, List.set_cons_zero, List.set_cons_succ]
  refine wpAnyH_take (i := 25) (oi := ⟨some 71, _, _, _, _, _⟩) (v := undef) rfl (by kernel_rfl) (by kernel_rfl) (by kernel_rfl) (fun _ _ _ h => h) (Or.inr ⟨by rfl, rfl⟩) (by assumption) ?_
  try simp only [Act.put, List.setIfInBounds_toArray, List.set_cons_zero, List.set_cons_succ]
  refine wpAnyH_take (i := 26) (oi := ⟨some 72, _, _, _, _, _⟩) (v := undef) rfl (by kernel_rfl) (by kernel_rfl) (by kernel_rfl) (fun _ _ _ h => h) (Or.inr ⟨by rfl, rfl⟩) (by assumption) ?_
  try simp only [Act.put, List.setIfInBounds_toArray, List.set_cons_zero, List.set_cons_succ]
  refine wpAnyH_take (i := 27) (oi := ⟨some 73, _, _, _, _, _⟩) (v := ?v27) rfl (by kernel_rfl) (by kernel_rfl) (by kernel_rfl) (fun _ _ _ h => h) (Or.inl ⟨by rfl, ?y27⟩) (by assumption) ?r27
  case y27 =>
    intro w hSw
    (try dsimp only at hSw)
    go_simp
    try with_reducible rfl
  try simp only [Act.put, List.setIfInBounds_toArray, List.set_cons_zero, List.set_cons_succ]
  refine wpAnyH_take (i := 28) (oi := ⟨some 4, _, _, _, _, _⟩) (v := ?v28) rfl (by kernel_rfl) (by kernel_rfl) (by kernel_rfl) (fun _ _ _ h => h) (Or.inl ⟨by rfl, ?y28⟩) (by assumption) ?r28
  case y28 =>
    intro w hSw
    (try dsimp only at hSw)
    go_simp
    try with_reducible rfl
  try simp only [Act.put, List.setIfInBounds_toArray, List.set_cons_zero, List.set_cons_succ]
  refine wpAnyH_done (by kernel_rfl) ?_ _
  all_goals
    go_wp2
    go_ret
    exact ⟨rfl, HL.out⟩

set_option maxHeartbeats 8000000 in
set_option maxRecDepth 100000 in
theorem pascal_tt (x y : Int) (m l : Nat) (w : World) (hx0 : -9223372036854775808 ≤ x) (hx1 : x ≤ 9223372036854775807) (hy0 : -9223372036854775808 ≤ y) (hy1 : y ≤ 9223372036854775807) (hm : x % 200 = (m : Int)) (hl : y % ((m : Int) + 1) = (l : Int)) (hm9 : m < 200) (hlm : l < m) (hl9 : 100 ≤ l) (hE : Env w) :
    Calls Tryz.prog 4 #[.int .i64 x, .int .i64 y] w fun e w' => e = .returned (.bool true) ∧ Below w.heap.size w w' := by
  obtain ⟨N, hN⟩ : ∃ N : Int, 1 + (m : Int) = N := ⟨_, rfl⟩
  obtain ⟨K, hK⟩ : ∃ K : Int, 1 + (l : Int) = K := ⟨_, rfl⟩
  have TMx := Lib.hid (fun W => kmod_any x 200 hx0 hx1 (by decide) (by decide) W)
  have TMy := Lib.hid (fun W => kmod_any y N hy0 hy1 (by omega) (by omega) W)
  rw [hm] at TMx
  rw [show y % N = (l : Int) by rw [← hN, Int.add_comm]; exact hl] at TMy
  have TW := Lib.hid whole_agg
  have TZ := Lib.hid (fun W g => whole_agg 0 W (by decide) (by decide) g)
  obtain ⟨O, hO⟩ : ∃ O : Rat, ((0 : Int) : Rat) = O := ⟨_, rfl⟩
  rw [hO] at TZ
  have eN : ((m + 1 : Nat) : Int) = N := by omega
  have eK : ((l + 1 : Nat) : Int) = K := by omega
  have RA := Lib.hid (fun (W : World) g => math2 (fun W B C h g => m_COMBIN m l B 0 C W (by omega) (by omega) h g) W g)
  have RC := Lib.hid (fun (W : World) g => math2 (fun W B C h g => m_COMBIN (m + 1) (l + 1) B 0 C W (by omega) (by omega) h g) W g)
  rw [eN, eK] at RC
  have hsum : ((choose (m + 1) (l + 1) : Nat) : Int) = ((choose m l : Nat) : Int) + ((choose m (l + 1) : Nat) : Int) := by rw [choose_succ]; omega
  have fA : fits (((choose m l : Nat) : Int) : Rat) = true := fits_nat _ (lt_300 (Nat.le_trans (choose_small (by omega)) (by decide +kernel)))
  have fB : fits (((choose m (l + 1) : Nat) : Int) : Rat) = true := fits_nat _ (lt_300 (Nat.le_trans (choose_small (by omega)) (by decide +kernel)))
  have fC : fits (((choose (m + 1) (l + 1) : Nat) : Int) : Rat) = true := fits_nat _ (lt_300 (Nat.le_trans (choose_small (by omega)) (by decide +kernel)))
  have hsr : (((choose m l : Nat) : Int) : Rat) + (((choose m (l + 1) : Nat) : Int) : Rat) = (((choose (m + 1) (l + 1) : Nat) : Int) : Rat) := by rw [hsum, Rat.intCast_add]
  have TP := Lib.hid (fun W g => plus_agg (((choose m l : Nat) : Int) : Rat) (((choose m (l + 1) : Nat) : Int) : Rat) W fA fB (by rw [hsr]; exact fC) g)
  rw [hsr] at TP
  have RS := Lib.hid same_self
  have RB := Lib.hid (fun (W : World) g => math2 (fun W B C h g => m_COMBIN m (l + 1) B 0 C W (by omega) (by omega) h g) W g)
  rw [eK] at RB
  obtain ⟨A, hA⟩ : ∃ q : Rat, (((choose m l : Nat) : Int) : Rat) = q := ⟨_, rfl⟩
  obtain ⟨C, hC⟩ : ∃ q : Rat, (((choose (m + 1) (l + 1) : Nat) : Int) : Rat) = q := ⟨_, rfl⟩
  rw [hA] at RA TP
  rw [hC] at RC TP
  obtain ⟨B, hB⟩ : ∃ q : Rat, (((choose m (l + 1) : Nat) : Int) : Rat) = q := ⟨_, rfl⟩
  rw [hB] at RB TP
  clear hB
  have hNm : N - 1 = (m : Int) := by omega
  have hKl : K - 1 = (l : Int) := by omega
  have hKb : 1 ≤ K ∧ K ≤ 200 := by omega
  have hNb : 1 ≤ N ∧ N ≤ 200 := by omega
  have d1 : decide (K < N) = true := decide_eq_true (by omega)
  have d2 : decide (100 < K) = true := decide_eq_true (by omega)
  have HE := Lib.hid hE
  have HL := Lib.hid (Below.refl w.heap.size w)
  clear hm hl hx0 hx1 hy0 hy1 hE hO eN eK fA fB fC hsum hsr hA hC hlm hl9
  go_enter Tryz.func4, Tryz.ntmps4
  go_wp2_with fail
  refine (TMx.out _).mono ?_
  rintro e w1 ⟨rfl, rfl⟩
  go_wp2_with fail
  refine (TMy.out _).mono ?_
  rintro e w2 ⟨rfl, rfl⟩
  go_wp2_with fail
  refine (TW.out _ _ (by omega) (by omega) HE.out).mono ?_
  rintro e w3 ⟨rfl, hq⟩
  replace HE := Lib.hid (HE.out.below hq)
  replace HL := Lib.hid (HL.out.trans (hq.mono HL.out.size))
  clear hq
  go_wp2_with fail
  refine (TW.out _ _ (by omega) (by omega) HE.out).mono ?_
  rintro e w4 ⟨rfl, hq⟩
  replace HE := Lib.hid (HE.out.below hq)
  replace HL := Lib.hid (HL.out.trans (hq.mono HL.out.size))
  clear hq
  go_wp2_with fail
  refine (RA.out _ HE.out).mono ?_
  rintro e w5 ⟨rfl, hq⟩
  replace HE := Lib.hid (HE.out.below hq)
  replace HL := Lib.hid (HL.out.trans (hq.mono HL.out.size))
  clear hq
  go_wp2_with fail
  refine (TZ.out _ HE.out).mono ?_
  rintro e w6 ⟨rfl, hq⟩
  replace HE := Lib.hid (HE.out.below hq)
  replace HL := Lib.hid (HL.out.trans (hq.mono HL.out.size))
  clear hq
  have HLB := HL
  have HEB := HE
  have hq : Below w6.heap.size w6 ((w6.alloc (.cells #[.int .i64 1, .string (numS A), .string (denS A), .string { data := #[] }, .bool false, .int .i64 0, .int .i64 0, .int .i64 0, .slice none 0 0] 27)).alloc (.cells #[.int .i64 1, .string (numS O), .string (denS O), .string { data := #[] }, .bool false, .int .i64 0, .int .i64 0, .int .i64 0, .slice none 0 0] 27)) := ((Below.refl _ _).alloc (Nat.le_refl _) _).alloc (by simp) _
  replace HE := Lib.hid (HE.out.below hq)
  replace HL := Lib.hid (HL.out.trans (hq.mono HL.out.size))
  have HLA := Lib.hid (show w2.heap.size ≤ w6.heap.size from HLB.out.size)
  have HPA := Lib.hid (show Past w6.heap.size from HEB.out.room)
  clear HLB HEB
  obtain ⟨hx, hy, _⟩ := two_new w6 (.cells #[.int .i64 1, .string (numS A), .string (denS A), .string { data := #[] }, .bool false, .int .i64 0, .int .i64 0, .int .i64 0, .slice none 0 0] 27) (.cells #[.int .i64 1, .string (numS O), .string (denS O), .string { data := #[] }, .bool false, .int .i64 0, .int .i64 0, .int .i64 0, .slice none 0 0] 27)
  have HX := Lib.hid hx
  have HY := Lib.hid hy
  clear hq hx hy
  obtain ⟨WA, hWA⟩ : ∃ Z, (w6.alloc (.cells #[.int .i64 1, .string (numS A), .string (denS A), .string { data := #[] }, .bool false, .int .i64 0, .int .i64 0, .int .i64 0, .slice none 0 0] 27)).alloc (.cells #[.int .i64 1, .string (numS O), .string (denS O), .string { data := #[] }, .bool false, .int .i64 0, .int .i64 0, .int .i64 0, .slice none 0 0] 27) = Z := ⟨_, rfl⟩
  rw [hWA] at HE HL HX HY
  have EWA := Lib.hid hWA
  clear hWA
  go_wp2_with fail
  rw [EWA.out]
  refine (TW.out _ _ (by omega) (by omega) HE.out).mono ?_
  rintro e w7 ⟨rfl, hq⟩
  replace HE := Lib.hid (HE.out.below hq)
  replace HL := Lib.hid (HL.out.trans (hq.mono HL.out.size))
  replace HX := Lib.hid (keep_block HX.out hq)
  replace HY := Lib.hid (keep_block HY.out hq)
  clear hq
  go_wp2_with fail
  refine (TW.out _ _ (by omega) (by omega) HE.out).mono ?_
  rintro e w8 ⟨rfl, hq⟩
  replace HE := Lib.hid (HE.out.below hq)
  replace HL := Lib.hid (HL.out.trans (hq.mono HL.out.size))
  replace HX := Lib.hid (keep_block HX.out hq)
  replace HY := Lib.hid (keep_block HY.out hq)
  clear hq
  go_wp2_with fail
  refine (RB.out _ HE.out).mono ?_
  rintro e w9 ⟨rfl, hq⟩
  replace HE := Lib.hid (HE.out.below hq)
  replace HL := Lib.hid (HL.out.trans (hq.mono HL.out.size))
  replace HX := Lib.hid (keep_block HX.out hq)
  replace HY := Lib.hid (keep_block HY.out hq)
  clear hq
  have hb0 : w6.heap.size ≤ w6.heap.size + 1 := Nat.le_succ _
  have hbw : w2.heap.size ≤ w6.heap.size + 1 := Nat.le_trans HLA.out hb0
  have hEn := HE.out.but (W' := (((((((((w9.setCell ⟨w6.heap.size + 1, 0, none⟩ (.int .i64 1)).setCell ⟨w6.heap.size + 1, 1, none⟩ (.string (numS B))).setCell ⟨w6.heap.size + 1, 2, none⟩ (.string (denS B))).setCell ⟨w6.heap.size + 1, 3, none⟩ (.string { data := #[] })).setCell ⟨w6.heap.size + 1, 4, none⟩ (.bool false)).setCell ⟨w6.heap.size + 1, 5, none⟩ (.int .i64 0)).setCell ⟨w6.heap.size + 1, 6, none⟩ (.int .i64 0)).setCell ⟨w6.heap.size + 1, 7, none⟩ (.int .i64 0)).setCell ⟨w6.heap.size + 1, 8, none⟩ (.slice none 0 0))) (R := w6.heap.size + 1) (fun k hk => set9_other w9 _ (.int .i64 1) (.string (numS B)) (.string (denS B)) (.string { data := #[] }) (.bool false) (.int .i64 0) (.int .i64 0) (.int .i64 0) (.slice none 0 0) hk) (by simp [size_setCell]) ⟨Nat.lt_of_lt_of_le HPA.out.1 hb0, Nat.lt_of_lt_of_le HPA.out.2 hb0⟩
  have hXn := (set9_other w9 (w6.heap.size + 1) (.int .i64 1) (.string (numS B)) (.string (denS B)) (.string { data := #[] }) (.bool false) (.int .i64 0) (.int .i64 0) (.int .i64 0) (.slice none 0 0) (show w6.heap.size ≠ w6.heap.size + 1 by omega)).trans HX.out
  have hYn := set9_at HY.out (.int .i64 1) (.string (numS B)) (.string (denS B)) (.string { data := #[] }) (.bool false) (.int .i64 0) (.int .i64 0) (.int .i64 0) (.slice none 0 0)
  have hLn := (nine_end (x0 := (.int .i64 1)) (x1 := (.string (numS B))) (x2 := (.string (denS B))) (x3 := (.string { data := #[] })) (x4 := (.bool false)) (x5 := (.int .i64 0)) (x6 := (.int .i64 0)) (x7 := (.int .i64 0)) (x8 := (.slice none 0 0)) HY.out HL.out hbw).1
  obtain ⟨⟨y0, y1, y2, y3, y4, y5, y6, y7, y8⟩, g0, g1, g2, g3, g4, g5, g6, g7, g8⟩ := nine_at HY.out
  obtain ⟨WB, hWB⟩ : ∃ Z, (((((((((w9.setCell ⟨w6.heap.size + 1, 0, none⟩ (.int .i64 1)).setCell ⟨w6.heap.size + 1, 1, none⟩ (.string (numS B))).setCell ⟨w6.heap.size + 1, 2, none⟩ (.string (denS B))).setCell ⟨w6.heap.size + 1, 3, none⟩ (.string { data := #[] })).setCell ⟨w6.heap.size + 1, 4, none⟩ (.bool false)).setCell ⟨w6.heap.size + 1, 5, none⟩ (.int .i64 0)).setCell ⟨w6.heap.size + 1, 6, none⟩ (.int .i64 0)).setCell ⟨w6.heap.size + 1, 7, none⟩ (.int .i64 0)).setCell ⟨w6.heap.size + 1, 8, none⟩ (.slice none 0 0)) = Z := ⟨_, rfl⟩
  rw [hWB] at hEn hXn hYn hLn
  replace HE := Lib.hid hEn
  replace HL := Lib.hid hLn
  replace HX := Lib.hid hXn
  replace HY := Lib.hid hYn
  have EWB := Lib.hid hWB
  clear hWB hEn hXn hYn hLn hb0 hbw
  go_wp2_with fail
  rw [EWB.out]
  clear y0 y1 y2 y3 y4 y5 y6 y7 y8 g0 g1 g2 g3 g4 g5 g6 g7 g8
  refine (TW.out _ _ (by omega) (by omega) HE.out).mono ?_
  rintro e w10 ⟨rfl, hq⟩
  replace HE := Lib.hid (HE.out.below hq)
  replace HL := Lib.hid (HL.out.trans (hq.mono HL.out.size))
  replace HX := Lib.hid (keep_block HX.out hq)
  replace HY := Lib.hid (keep_block HY.out hq)
  clear hq
  go_wp2_with fail
  refine (TW.out _ _ (by omega) (by omega) HE.out).mono ?_
  rintro e w11 ⟨rfl, hq⟩
  replace HE := Lib.hid (HE.out.below hq)
  replace HL := Lib.hid (HL.out.trans (hq.mono HL.out.size))
  replace HX := Lib.hid (keep_block HX.out hq)
  replace HY := Lib.hid (keep_block HY.out hq)
  clear hq
  go_wp2_with fail
  refine (RC.out _ HE.out).mono ?_
  rintro e w12 ⟨rfl, hq⟩
  replace HE := Lib.hid (HE.out.below hq)
  replace HL := Lib.hid (HL.out.trans (hq.mono HL.out.size))
  replace HX := Lib.hid (keep_block HX.out hq)
  replace HY := Lib.hid (keep_block HY.out hq)
  clear hq
  have hq : Below w12.heap.size w12 (w12.alloc (.cells #[.int .i64 1, .string (numS C), .string (denS C), .string { data := #[] }, .bool false, .int .i64 0, .int .i64 0, .int .i64 0, .slice none 0 0] 27)) := (Below.refl _ _).alloc (Nat.le_refl _) _
  replace HE := Lib.hid (HE.out.below hq)
  replace HL := Lib.hid (HL.out.trans (hq.mono HL.out.size))
  replace HX := Lib.hid (keep_block HX.out hq)
  replace HY := Lib.hid (keep_block HY.out hq)
  have HC := Lib.hid (heap_alloc_new w12 (.cells #[.int .i64 1, .string (numS C), .string (denS C), .string { data := #[] }, .bool false, .int .i64 0, .int .i64 0, .int .i64 0, .slice none 0 0] 27))
  clear hq
  obtain ⟨WC, hWC⟩ : ∃ Z, (w12.alloc (.cells #[.int .i64 1, .string (numS C), .string (denS C), .string { data := #[] }, .bool false, .int .i64 0, .int .i64 0, .int .i64 0, .slice none 0 0] 27)) = Z := ⟨_, rfl⟩
  rw [hWC] at HE HL HX HY HC
  have EWC := Lib.hid hWC
  clear hWC
  go_wp2_with fail
  rw [EWC.out]
  have hq : Below WC.heap.size WC WC.drew := (Below.refl _ _).drew
  replace HE := Lib.hid (HE.out.below hq)
  replace HL := Lib.hid (HL.out.trans (hq.mono HL.out.size))
  replace HX := Lib.hid (keep_block HX.out hq)
  replace HY := Lib.hid (keep_block HY.out hq)
  replace HC := Lib.hid (keep_block HC.out hq)
  clear hq
  go_region_held3 (fun Z => (Z.cell? ⟨w6.heap.size, 0, none⟩ = some (.int .i64 1) ∧ Z.cell? ⟨w6.heap.size, 1, none⟩ = some (.string (numS A)) ∧ Z.cell? ⟨w6.heap.size, 2, none⟩ = some (.string (denS A)) ∧ Z.cell? ⟨w6.heap.size, 3, none⟩ = some (.string { data := #[] }) ∧ Z.cell? ⟨w6.heap.size, 4, none⟩ = some (.bool false) ∧ Z.cell? ⟨w6.heap.size, 5, none⟩ = some (.int .i64 0) ∧ Z.cell? ⟨w6.heap.size, 6, none⟩ = some (.int .i64 0) ∧ Z.cell? ⟨w6.heap.size, 7, none⟩ = some (.int .i64 0) ∧ Z.cell? ⟨w6.heap.size, 8, none⟩ = some (.slice none 0 0)) ∧ (Z.cell? ⟨w6.heap.size + 1, 0, none⟩ = some (.int .i64 1) ∧ Z.cell? ⟨w6.heap.size + 1, 1, none⟩ = some (.string (numS B)) ∧ Z.cell? ⟨w6.heap.size + 1, 2, none⟩ = some (.string (denS B)) ∧ Z.cell? ⟨w6.heap.size + 1, 3, none⟩ = some (.string { data := #[] }) ∧ Z.cell? ⟨w6.heap.size + 1, 4, none⟩ = some (.bool false) ∧ Z.cell? ⟨w6.heap.size + 1, 5, none⟩ = some (.int .i64 0) ∧ Z.cell? ⟨w6.heap.size + 1, 6, none⟩ = some (.int .i64 0) ∧ Z.cell? ⟨w6.heap.size + 1, 7, none⟩ = some (.int .i64 0) ∧ Z.cell? ⟨w6.heap.size + 1, 8, none⟩ = some (.slice none 0 0)) ∧ (Z.cell? ⟨w12.heap.size, 0, none⟩ = some (.int .i64 1) ∧ Z.cell? ⟨w12.heap.size, 1, none⟩ = some (.string (numS C)) ∧ Z.cell? ⟨w12.heap.size, 2, none⟩ = some (.string (denS C)) ∧ Z.cell? ⟨w12.heap.size, 3, none⟩ = some (.string { data := #[] }) ∧ Z.cell? ⟨w12.heap.size, 4, none⟩ = some (.bool false) ∧ Z.cell? ⟨w12.heap.size, 5, none⟩ = some (.int .i64 0) ∧ Z.cell? ⟨w12.heap.size, 6, none⟩ = some (.int .i64 0) ∧ Z.cell? ⟨w12.heap.size, 7, none⟩ = some (.int .i64 0) ∧ Z.cell? ⟨w12.heap.size, 8, none⟩ = some (.slice none 0 0)))
    (first | (with_reducible exact nine3 HX.out HY.out HC.out) | (with_reducible exact nine3 (drew_block HX.out) (drew_block HY.out) (drew_block HC.out)) | fail)
    ((first | (go_at_call 13; (first | (with_reducible refine (TP.out _ HE.out).mono ?_)); rintro e V1 ⟨rfl, hq⟩; replace HX := Lib.hid (keep_block HX.out hq); replace HY := Lib.hid (keep_block HY.out hq); replace HC := Lib.hid (keep_block HC.out hq); replace HE := Lib.hid (HE.out.below hq); replace HL := Lib.hid (HL.out.trans (hq.mono HL.out.size)); clear hq) | (go_at_call 12; (first | (with_reducible refine (RS.out _ _).mono ?_)); rintro e V1 ⟨rfl, hq⟩; replace HX := Lib.hid (keep_block HX.out hq); replace HY := Lib.hid (keep_block HY.out hq); replace HC := Lib.hid (keep_block HC.out hq); replace HE := Lib.hid (HE.out.below hq); replace HL := Lib.hid (HL.out.trans (hq.mono HL.out.size)); clear hq)))
  go_wp2_with fail
  refine wp_region_held_drew (S := fun _ => True) (by kernel_rfl) trivial (fun hHeld => ?_)
  refine wpAnyH_take (i := 0) (oi := ⟨some 46, _, _, _, _, _⟩) (v := ?v0) rfl (by kernel_rfl) (by kernel_rfl) (by kernel_rfl) (fun _ _ _ h => h) (Or.inl ⟨by rfl, ?y0⟩) (by assumption) ?r0
  case y0 =>
    intro w hSw
    (try dsimp only at hSw)
    go_simp
    try with_reducible rfl
  try simp only [Act.put, List.setIfInBounds_toArray, List.set_cons_zero, List.set_cons_succ]
  refine wpAnyH_take (i := 1) (oi := ⟨some 47, _, _, _, _, _⟩) (v := ?v1) rfl (by kernel_rfl) (by kernel_rfl) (by kernel_rfl) (fun _ _ _ h => h) (Or.inl ⟨by rfl, ?y1⟩) (by assumption) ?r1
  case y1 =>
    intro w hSw
    (try dsimp only at hSw)
    go_simp
    try with_reducible rfl
  try simp only [Act.put, List.setIfInBounds_toArray, List.set_cons_zero, List.set_cons_succ]
  refine wpAnyH_take (i := 2) (oi := ⟨some 48, _, _, _, _, _⟩) (v := ?v2) rfl (by kernel_rfl) (by kernel_rfl) (by kernel_rfl) (fun _ _ _ h => h) (Or.inl ⟨by rfl, ?y2⟩) (by assumption) ?r2
  case y2 =>
    intro w hSw
    (try dsimp only at hSw)
    go_simp
    try with_reducible rfl
  try simp only [Act.put, List.setIfInBounds_toArray, List.set_cons_zero, List.set_cons_succ]
  refine wpAnyH_take (i := 3) (oi := ⟨some 49, _, _, _, _, _⟩) (v := undef) rfl (by kernel_rfl) (by kernel_rfl) (by kernel_rfl) (fun _ _ _ h => h) (Or.inr ⟨by rfl, rfl⟩) (by assumption) ?_
  try simp only [Act.put, List.setIfInBounds_toArray, List.set_cons_zero, List.set_cons_succ]
  refine wpAnyH_take (i := 4) (oi := ⟨some 50, _, _, _, _, _⟩) (v := undef) rfl (by kernel_rfl) (by kernel_rfl) (by kernel_rfl) (fun _ _ _ h => h) (Or.inr ⟨by rfl, rfl⟩) (by assumption) ?_
  try simp only [Act.put, List.setIfInBounds_toArray, List.set_cons_zero, List.set_cons_succ]
  refine wpAnyH_take (i := 5) (oi := ⟨some 51, _, _, _, _, _⟩) (v := undef) rfl (by kernel_rfl) (by kernel_rfl) (by kernel_rfl) (fun _ _ _ h => h) (Or.inr ⟨by rfl, rfl⟩) (by assumption) ?_
  try simp only [Act.put, List.setIfInBounds_toArray, List.set_cons_zero, List.set_cons_succ]
  refine wpAnyH_take (i := 6) (oi := ⟨some 52, _, _, _, _, _⟩) (v := undef) rfl (by kernel_rfl) (by kernel_rfl) (by kernel_rfl) (fun _ _ _ h => h) (Or.inr ⟨by rfl, rfl⟩) (by assumption) ?_
  try simp only [Act.put, List.setIfInBounds_toArray, List.set_cons_zero, List.set_cons_succ]
  refine wpAnyH_take (i := 7) (oi := ⟨some 53, _, _, _, _, _⟩) (v := undef) rfl (by kernel_rfl) (by kernel_rfl) (by kernel_rfl) (fun _ _ _ h => h) (Or.inr ⟨by rfl, rfl⟩) (by assumption) ?_
  try simp only [Act.put, List.setIfInBounds_toArray, List.set_cons_zero, List.set_cons_succ]
  refine wpAnyH_take (i := 8) (oi := ⟨some 54, _, _, _, _, _⟩) (v := undef) rfl (by kernel_rfl) (by kernel_rfl) (by kernel_rfl) (fun _ _ _ h => h) (Or.inr ⟨by rfl, rfl⟩) (by assumption) ?_
  try simp only [Act.put, List.setIfInBounds_toArray, List.set_cons_zero, List.set_cons_succ]
  refine wpAnyH_take (i := 9) (oi := ⟨some 55, _, _, _, _, _⟩) (v := undef) rfl (by kernel_rfl) (by kernel_rfl) (by kernel_rfl) (fun _ _ _ h => h) (Or.inr ⟨by rfl, rfl⟩) (by assumption) ?_
  try simp only [Act.put, List.setIfInBounds_toArray, List.set_cons_zero, List.set_cons_succ]
  refine wpAnyH_take (i := 10) (oi := ⟨some 56, _, _, _, _, _⟩) (v := undef) rfl (by kernel_rfl) (by kernel_rfl) (by kernel_rfl) (fun _ _ _ h => h) (Or.inr ⟨by rfl, rfl⟩) (by assumption) ?_
  try simp only [Act.put, List.setIfInBounds_toArray, List.set_cons_zero, List.set_cons_succ]
  refine wpAnyH_take (i := 11) (oi := ⟨some 57, _, _, _, _, _⟩) (v := undef) rfl (by kernel_rfl) (by kernel_rfl) (by kernel_rfl) (fun _ _ _ h => h) (Or.inr ⟨by rfl, rfl⟩) (by assumption) ?_
  try simp only [Act.put, List.setIfInBounds_toArray, List.set_cons_zero, List.set_cons_succ]
  refine wpAnyH_take (i := 12) (oi := ⟨some 58, _, _, _, _, _⟩) (v := undef) rfl (by kernel_rfl) (by kernel_rfl) (by kernel_rfl) (fun _ _ _ h => h) (Or.inr ⟨by rfl, rfl⟩) (by assumption) ?_
  try simp only [Act.put, List.setIfInBounds_toArray, List.set_cons_zero, List.set_cons_succ]
  refine wpAnyH_take (i := 13) (oi := ⟨some 59, _, _, _, _, _⟩) (v := undef) rfl (by kernel_rfl) (by kernel_rfl) (by kernel_rfl) (fun _ _ _ h => h) (Or.inr ⟨by rfl, rfl⟩) (by assumption) ?_
  try simp only [Act.put, List.setIfInBounds_toArray, List.set_cons_zero, List.set_cons_succ]
  refine wpAnyH_take (i := 14) (oi := ⟨some 60, _, _, _, _, _⟩) (v := undef) rfl (by kernel_rfl) (by kernel_rfl) (by kernel_rfl) (fun _ _ _ h => h) (Or.inr ⟨by rfl, rfl⟩) (by assumption) ?_
  try simp only [Act.put, List.setIfInBounds_toArray, List.set_cons_zero, List.set_cons_succ]
  refine wpAnyH_take (i := 15) (oi := ⟨some 61, _, _, _, _, _⟩) (v := undef) rfl (by kernel_rfl) (by kernel_rfl) (by kernel_rfl) (fun _ _ _ h => h) (Or.inr ⟨by rfl, rfl⟩) (by assumption) ?_
  try simp only [Act.put, List.setIfInBounds_toArray, List.set_cons_zero, List.set_cons_succ]
  refine wpAnyH_take (i := 16) (oi := ⟨some 62, _, _, _, _, _⟩) (v := undef) rfl (by kernel_rfl) (by kernel_rfl) (by kernel_rfl) (fun _ _ _ h => h) (Or.inr ⟨by rfl, rfl⟩) (by assumption) ?_
  try simp only [Act.put, List.setIfInBounds_toArray, List.set_cons_zero, List.set_cons_succ]
  refine wpAnyH_take (i := 17) (oi := ⟨some 63, _, _, _, _, _⟩) (v := ?v17) rfl (by kernel_rfl) (by kernel_rfl) (by kernel_rfl) (fun _ _ _ h => h) (Or.inl ⟨by rfl, ?y17⟩) (by assumption) ?r17
  case y17 =>
    intro w hSw
    (try dsimp only at hSw)
    go_simp
    try with_reducible rfl
  try simp only [Act.put, List.setIfInBounds_toArray, List.set_cons_zero, List.set_cons_succ]
  refine wpAnyH_take (i := 18) (oi := ⟨some 64, _, _, _, _, _⟩) (v := ?v18) rfl (by kernel_rfl) (by kernel_rfl) (by kernel_rfl) (fun _ _ _ h => h) (Or.inl ⟨by rfl, ?y18⟩) (by assumption) ?r18
  case y18 =>
    intro w hSw
    (try dsimp only at hSw)
    go_simp
    try with_reducible rfl
  try simp only [Act.put, List.setIfInBounds_toArray, List.set_cons_zero, List.set_cons_succ]
  refine wpAnyH_take (i := 19) (oi := ⟨some 65, _, _, _, _, _⟩) (v := undef) rfl (by kernel_rfl) (by kernel_rfl) (by kernel_rfl) (fun _ _ _ h => h) (Or.inr ⟨by rfl, rfl⟩) (by assumption) ?_
  try simp only [Act.put, List.setIfInBounds_toArray, List.set_cons_zero, List.set_cons_succ]
  refine wpAnyH_take (i := 20) (oi := ⟨some 66, _, _, _, _, _⟩) (v := undef) rfl (by kernel_rfl) (by kernel_rfl) (by kernel_rfl) (fun _ _ _ h => h) (Or.inr ⟨by rfl, rfl⟩) (by assumption) ?_
  try simp only [Act.put, List.setIfInBounds_toArray, List.set_cons_zero, List.set_cons_succ]
  refine wpAnyH_take (i := 21) (oi := ⟨some 67, _, _, _, _, _⟩) (v := undef) rfl (by kernel_rfl) (by kernel_rfl) (by kernel_rfl) (fun _ _ _ h => h) (Or.inr ⟨by rfl, rfl⟩) (by assumption) ?_
  try simp only [Act.put, List.setIfInBounds_toArray, List.set_cons_zero, List.set_cons_succ]
  refine wpAnyH_take (i := 22) (oi := ⟨some 68, _, _, _, _, _⟩) (v := undef) rfl (by kernel_rfl) (by kernel_rfl) (by kernel_rfl) (fun _ _ _ h => h) (Or.inr ⟨by rfl, rfl⟩) (by assumption) ?_
  try simp only [Act.put, List.setIfInBounds_toArray, List.set_cons_zero, List.set_cons_succ]
  refine wpAnyH_take (i := 23) (oi := ⟨some 69, _, _, _, _, _⟩) (v := undef) rfl (by kernel_rfl) (by kernel_rfl) (by kernel_rfl) (fun _ _ _ h => h) (Or.inr ⟨by rfl, rfl⟩) (by assumption) ?_
  try simp only [Act.put, List.setIfInBounds_toArray, List.set_cons_zero, List.set_cons_succ]
  refine wpAnyH_take (i := 24) (oi := ⟨some 70, _, _, _, _, _⟩) (v := undef) rfl (by kernel_rfl) (by kernel_rfl) (by kernel_rfl) (fun _ _ _ h => h) (Or.inr ⟨by rfl, rfl⟩) (by assumption) ?_
  try simp only [Act.put, List.setIfInBounds_toArray, List.set_cons_zero, List.set_cons_succ]
  refine wpAnyH_take (i := 25) (oi := ⟨some 71, _, _, _, _, _⟩) (v := undef) rfl (by kernel_rfl) (by kernel_rfl) (by kernel_rfl) (fun _ _ _ h => h) (Or.inr ⟨by rfl, rfl⟩) (by assumption) ?_
  try simp only [Act.put, List.setIfInBounds_toArray, List.set_cons_zero, List.set_cons_succ]
  refine wpAnyH_take (i := 26) (oi := ⟨some 72, _, _, _, _, _⟩) (v := undef) rfl (by kernel_rfl) (by kernel_rfl) (by kernel_rfl) (fun _ _ _ h => h) (Or.inr ⟨by rfl, rfl⟩) (by assumption) ?_
  try simp only [Act.put, List.setIfInBounds_toArray, List.set_cons_zero, List.set_cons_succ]
  refine wpAnyH_take (i := 27) (oi := ⟨some 73, _, _, _, _, _⟩) (v := ?v27) rfl (by kernel_rfl) (by kernel_rfl) (by kernel_rfl) (fun _ _ _ h => h) (Or.inl ⟨by rfl, ?y27⟩) (by assumption) ?r27
  case y27 =>
    intro w hSw
    (try dsimp only at hSw)
    go_simp
    try with_reducible rfl
  try simp only [Act.put, List.setIfInBounds_toArray, List.set_cons_zero, List.set_cons_succ]
  refine wpAnyH_take (i := 28) (oi := ⟨some 4, _, _, _, _, _⟩) (v := ?v28) rfl (by kernel_rfl) (by kernel_rfl) (by kernel_rfl) (fun _ _ _ h => h) (Or.inl ⟨by rfl, ?y28⟩) (by assumption) ?r28
  case y28 =>
    intro w hSw
    (try dsimp only at hSw)
    go_simp
    try with_reducible rfl
  try simp only [Act.put, List.setIfInBounds_toArray, List.set_cons_zero, List.set_cons_succ]
  refine wpAnyH_done (by kernel_rfl) ?_ _
  all_goals
    go_wp2
    go_ret
    exact ⟨rfl, HL.out.drew⟩

theorem pascal_walk (x y : Int) (w : World) (hx0 : -9223372036854775808 ≤ x) (hx1 : x ≤ 9223372036854775807) (hy0 : -9223372036854775808 ≤ y) (hy1 : y ≤ 9223372036854775807) (hE : Env w) :
    Calls Tryz.prog 4 #[.int .i64 x, .int .i64 y] w fun e w' => e = .returned (.bool true) ∧ Below w.heap.size w w' := by
  have a0 := Int.emod_nonneg x (show (200 : Int) ≠ 0 by decide)
  have a1 := Int.emod_lt_of_pos x (show (0 : Int) < 200 by decide)
  obtain ⟨m, hm⟩ : ∃ m : Nat, x % 200 = (m : Int) := ⟨(x % 200).toNat, by omega⟩
  have hm9 : m < 200 := by omega
  have b0 := Int.emod_nonneg y (show ((m : Int) + 1) ≠ 0 by omega)
  have b1 := Int.emod_lt_of_pos y (show (0 : Int) < (m : Int) + 1 by omega)
  obtain ⟨l, hl⟩ : ∃ l : Nat, y % ((m : Int) + 1) = (l : Int) := ⟨(y % ((m : Int) + 1)).toNat, by rw [Int.toNat_of_nonneg b0]⟩
  have hlm : l ≤ m := by omega
  by_cases h1 : l < m
  · by_cases h2 : 100 ≤ l
    · exact pascal_tt x y m l w hx0 hx1 hy0 hy1 hm hl hm9 h1 h2 hE
    · exact pascal_tf x y m l w hx0 hx1 hy0 hy1 hm hl hm9 h1 (by omega) hE
  · by_cases h2 : 100 ≤ l
    · exact pascal_ft x y m l w hx0 hx1 hy0 hy1 hm hl hm9 (by omega) h2 hE
    · exact pascal_ff x y m l w hx0 hx1 hy0 hy1 hm hl hm9 (by omega) (by omega) hE
end Go.Proofs.YtcgglmoeneiokaaGreatDoor.Num
