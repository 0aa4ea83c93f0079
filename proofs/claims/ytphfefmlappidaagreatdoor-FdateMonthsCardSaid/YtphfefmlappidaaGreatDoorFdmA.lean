/- Numbers as texts of digits, fractions, values and the functions of fmath: contracts of the program's functions, joined from smaller texts. Conditions stand at each theorem. -/
import Derived.Test.YtphfefmlappidaaGreatDoorNumH
import Derived.Laws.IdiomStrings
import Derived.Laws.BytesArg
import Derived.Test.YtphfefmlappidaaGreatDoorFdcB
import Derived.Test.YtphfefmlappidaaGreatDoorNumF
import Derived.Test.YtphfefmlappidaaGreatDoorFdcC

/- Text values of one letter: Check, Text, ToText, Args.Text, Lower. Conditions: the tables lie as they are laid. -/
namespace Go.Proofs.YtphfefmlappidaaGreatDoor.Num
open Go.RowKit Go.Lib

set_option maxHeartbeats 4000000 in
set_option maxRecDepth 100000 in
theorem decode_D (w : World) : Calls Tryz.prog 196 #[.string { data := #[68] }] w fun e w' => e = .returned (.tuple #[.int .i32 68, .int .i64 1]) ∧ w' = w := by
  go_enter Tryz.func196, Tryz.ntmps196
  go_wp2
  go_ret2
  exact ⟨rfl, rfl⟩
set_option maxHeartbeats 4000000 in
set_option maxRecDepth 100000 in
theorem char_D (w : World) : Calls Tryz.prog 197 #[.int .i64 68] w fun e w' => e = .returned (.bool true) ∧ w' = w := by
  go_enter Tryz.func197, Tryz.ntmps197
  go_wp2
  go_ret
  exact ⟨rfl, rfl⟩
set_option maxHeartbeats 4000000 in
set_option maxRecDepth 100000 in
theorem text_D (w : World) : Calls Tryz.prog 74 #[.string { data := #[68] }] w fun e w' => e = .returned (.int .i64 0) ∧ w' = w := by
  go_enter Tryz.func74, Tryz.ntmps74
  go_wp2
  refine wp_loop_rounds 2 ?_
  rw [rounds_succ]
  go_wp2_with fail
  refine (decode_D _).mono ?_
  rintro e w1 ⟨rfl, rfl⟩
  go_wp2_with fail
  refine (char_D _).mono ?_
  rintro e w2 ⟨rfl, rfl⟩
  go_wp2
  rw [rounds_succ]
  go_wp2
  go_ret
  exact ⟨rfl, rfl⟩
/-- the text of the letter D, as a value -/
def dVal' : Val := ⟨2, { data := #[] }, { data := #[] }, { data := #[68] }, false, 0, 0, 0, none, 0, 0⟩
set_option maxHeartbeats 4000000 in
set_option maxRecDepth 100000 in
theorem zeros_D (w : World) : Calls Tryz.prog 72 #[.agg #[.int .i64 2, .string { data := #[] }, .string { data := #[] }, .string { data := #[68] }, .bool false, .int .i64 0, .int .i64 0, .int .i64 0, .slice none 0 0]] w fun e w' => e = .returned (.int .i64 0) ∧ Below w.heap.size w w' := by
  go_enter Tryz.func72, Tryz.ntmps72
  go_wp2
  go_ret
  exact ⟨rfl, (Below.refl _ _).alloc (Nat.le_refl _) _⟩
set_option maxHeartbeats 4000000 in
set_option maxRecDepth 100000 in
theorem check_D (w : World) : Calls Tryz.prog 48 #[.agg #[.int .i64 2, .string { data := #[] }, .string { data := #[] }, .string { data := #[68] }, .bool false, .int .i64 0, .int .i64 0, .int .i64 0, .slice none 0 0]] w fun e w' => e = .returned (.int .i64 0) ∧ Below w.heap.size w w' := by
  have HX := Lib.hid (heap_alloc_new w (.cells #[.int .i64 2, .string { data := #[] }, .string { data := #[] }, .string { data := #[68] }, .bool false, .int .i64 0, .int .i64 0, .int .i64 0, .slice none 0 0] 30))
  have HL := Lib.hid (show Below w.heap.size w (w.alloc (.cells #[.int .i64 2, .string { data := #[] }, .string { data := #[] }, .string { data := #[68] }, .bool false, .int .i64 0, .int .i64 0, .int .i64 0, .slice none 0 0] 30)) from (Below.refl _ _).alloc (Nat.le_refl _) _)
  go_enter Tryz.func48, Tryz.ntmps48
  go_wp2_with fail
  refine (zeros_D _).mono ?_
  rintro e W1 ⟨rfl, hb⟩
  replace HX := Lib.hid (keep_block HX.out hb)
  replace HL := Lib.hid (HL.out.trans (hb.mono HL.out.size))
  clear hb
  obtain ⟨⟨x0, x1, x2, x3, x4, x5, x6, x7, x8⟩, _⟩ := nine_at HX.out
  go_wp2_with fail
  refine (text_D _).mono ?_
  rintro e W2 ⟨rfl, rfl⟩
  go_wp2
  go_ret
  exact ⟨rfl, HL.out⟩
theorem valid_D (w : World) (hE : Env w) : Calls Tryz.prog 26 #[.agg #[.int .i64 2, .string { data := #[] }, .string { data := #[] }, .string { data := #[68] }, .bool false, .int .i64 0, .int .i64 0, .int .i64 0, .slice none 0 0]] w fun e w' => e = .returned (.agg #[.int .i64 2, .string { data := #[] }, .string { data := #[] }, .string { data := #[68] }, .bool false, .int .i64 0, .int .i64 0, .int .i64 0, .slice none 0 0]) ∧ Below w.heap.size w w' :=
  valid_of 2 { data := #[] } { data := #[] } { data := #[68] } false 0 0 0 none 0 0 w (fun W _ => check_D W) hE
theorem scalar_D (w : World) (hE : Env w) : Calls Tryz.prog 306 #[.agg #[.int .i64 2, .string { data := #[] }, .string { data := #[] }, .string { data := #[68] }, .bool false, .int .i64 0, .int .i64 0, .int .i64 0, .slice none 0 0]] w fun e w' => e = .returned (.agg #[.int .i64 2, .string { data := #[] }, .string { data := #[] }, .string { data := #[68] }, .bool false, .int .i64 0, .int .i64 0, .int .i64 0, .slice none 0 0]) ∧ Below w.heap.size w w' :=
  scalar_of 2 { data := #[] } { data := #[] } { data := #[68] } false 0 0 0 none 0 0 w rfl (fun W _ => check_D W) hE
set_option maxHeartbeats 4000000 in
set_option maxRecDepth 100000 in
theorem textV_D (w : World) (hE : Env w) : Calls Tryz.prog 21 #[.string { data := #[68] }] w fun e w' => e = .returned (.agg #[.int .i64 2, .string { data := #[] }, .string { data := #[] }, .string { data := #[68] }, .bool false, .int .i64 0, .int .i64 0, .int .i64 0, .slice none 0 0]) ∧ Below w.heap.size w w' := by
  have TV := Lib.hid (fun W g => valid_D W g)
  have hb : Below w.heap.size w (w.alloc (.cells #[.int .i64 0, .string { data := #[] }, .string { data := #[] }, .string { data := #[] }, .bool false, .int .i64 0, .int .i64 0, .int .i64 0, .slice none 0 0] 30)) := (Below.refl _ _).alloc (Nat.le_refl _) _
  have HR := Lib.hid (heap_alloc_new w (.cells #[.int .i64 0, .string { data := #[] }, .string { data := #[] }, .string { data := #[] }, .bool false, .int .i64 0, .int .i64 0, .int .i64 0, .slice none 0 0] 30))
  have HL := Lib.hid hb
  have HE := Lib.hid (hE.below hb)
  clear hb hE
  go_enter Tryz.func21, Tryz.ntmps21
  go_wp2_with fail
  refine (TV.out _ HE.out).mono ?_
  rintro e W1 ⟨rfl, hb⟩
  replace HR := Lib.hid (keep_block HR.out hb)
  replace HL := Lib.hid (HL.out.trans (hb.mono HL.out.size))
  clear hb
  obtain ⟨⟨r0, r1, r2, r3, r4, r5, r6, r7, r8⟩, g0, g1, g2, g3, g4, g5, g6, g7, g8⟩ := nine_at HR.out
  obtain ⟨nb, e0, e1, e2, e3, e4, e5, e6, e7, e8⟩ := nine_end (x0 := (.int .i64 2)) (x1 := (.string { data := #[] })) (x2 := (.string { data := #[] })) (x3 := (.string { data := #[68] })) (x4 := (.bool false)) (x5 := (.int .i64 0)) (x6 := (.int .i64 0)) (x7 := (.int .i64 0)) (x8 := (.slice none 0 0)) HR.out HL.out (by omega)
  go_wp2
  refine bodyPost_ret (v := .agg #[.int .i64 2, .string { data := #[] }, .string { data := #[] }, .string { data := #[68] }, .bool false, .int .i64 0, .int .i64 0, .int .i64 0, .slice none 0 0]) (by simp [results, Tryz.results21, go_sem, e0, e1, e2, e3, e4, e5, e6, e7, e8]) rfl ⟨rfl, nb⟩
set_option maxHeartbeats 4000000 in
set_option maxRecDepth 100000 in
theorem shown_D (w : World) : Calls Tryz.prog 360 #[.agg #[.int .i64 2, .string { data := #[] }, .string { data := #[] }, .string { data := #[68] }, .bool false, .int .i64 0, .int .i64 0, .int .i64 0, .slice none 0 0]] w fun e w' => e = .returned (.string { data := #[68] }) ∧ Below w.heap.size w w' := by
  have HL := Lib.hid (show Below w.heap.size w (w.alloc (.cells #[.int .i64 2, .string { data := #[] }, .string { data := #[] }, .string { data := #[68] }, .bool false, .int .i64 0, .int .i64 0, .int .i64 0, .slice none 0 0] 30)) from (Below.refl _ _).alloc (Nat.le_refl _) _)
  go_enter Tryz.func360, Tryz.ntmps360
  go_wp2
  go_ret
  exact ⟨rfl, HL.out⟩
set_option maxHeartbeats 4000000 in
set_option maxRecDepth 100000 in
theorem toText_D (w : World) (hE : Env w) : Calls Tryz.prog 329 #[.agg #[.int .i64 2, .string { data := #[] }, .string { data := #[] }, .string { data := #[68] }, .bool false, .int .i64 0, .int .i64 0, .int .i64 0, .slice none 0 0]] w fun e w' => e = .returned (.tuple #[.string { data := #[68] }, .int .i64 0]) ∧ Below w.heap.size w w' := by
  have TC := Lib.hid (fun W h => scalar_D W h)
  have hb : Below w.heap.size w (w.alloc (.cells #[.int .i64 2, .string { data := #[] }, .string { data := #[] }, .string { data := #[68] }, .bool false, .int .i64 0, .int .i64 0, .int .i64 0, .slice none 0 0] 30)) := (Below.refl _ _).alloc (Nat.le_refl _) _
  have HX := Lib.hid (heap_alloc_new w (.cells #[.int .i64 2, .string { data := #[] }, .string { data := #[] }, .string { data := #[68] }, .bool false, .int .i64 0, .int .i64 0, .int .i64 0, .slice none 0 0] 30))
  have HL := Lib.hid hb
  have HE := Lib.hid (hE.below hb)
  clear hb hE
  go_enter Tryz.func329, Tryz.ntmps329
  go_wp2_with fail
  refine (TC.out _ HE.out).mono ?_
  rintro e W1 ⟨rfl, hb⟩
  replace HX := Lib.hid (keep_block HX.out hb)
  replace HL := Lib.hid (HL.out.trans (hb.mono HL.out.size))
  clear hb
  obtain ⟨⟨x0, x1, x2, x3, x4, x5, x6, x7, x8⟩, f0, f1, f2, f3, f4, f5, f6, f7, f8⟩ := nine_at HX.out
  obtain ⟨nb, e0, e1, e2, e3, e4, e5, e6, e7, e8⟩ := nine_end (x0 := (.int .i64 2)) (x1 := (.string { data := #[] })) (x2 := (.string { data := #[] })) (x3 := (.string { data := #[68] })) (x4 := (.bool false)) (x5 := (.int .i64 0)) (x6 := (.int .i64 0)) (x7 := (.int .i64 0)) (x8 := (.slice none 0 0)) HX.out HL.out (Nat.le_refl _)
  have NB := Lib.hid nb
  clear nb
  go_wp2_with fail
  refine (shown_D _).mono ?_
  rintro e W2 ⟨rfl, hb⟩
  go_wp2
  go_ret2
  exact ⟨rfl, NB.out.trans (hb.mono NB.out.size)⟩
set_option maxHeartbeats 4000000 in
set_option maxRecDepth 100000 in
theorem argText_D (b ab ao L C n : Nat) (w : World) (h : ArgsAt w b (some ⟨ab, ao, none⟩) L C n) (hn : n < L) (hL : L ≤ 1000000000) (hne : ab ≠ b) (hc : CellsAt w ab (ao + n * 9) (.int .i64 2) (.string { data := #[] }) (.string { data := #[] }) (.string { data := #[68] }) (.bool false) (.int .i64 0) (.int .i64 0) (.int .i64 0) (.slice none 0 0)) (hE : Env w) (hP : Past b) :
    Calls Tryz.prog 280 #[.pointer (some ⟨b, 0, none⟩)] w fun e w' => e = .returned (.string { data := #[68] }) ∧ ArgRet w b (some ⟨ab, ao, none⟩) L C (n + 1) w' := by
  have TV := Lib.hid (fun W g g' => value_any b ab ao L C n 2 { data := #[] } { data := #[] } { data := #[68] } false 0 0 0 none 0 0 W g hn hL hne g')
  have TN := Lib.hid (fun W g => toText_D W g)
  have HA := Lib.hid h
  have HC := Lib.hid hc
  have HE := Lib.hid hE
  have HP := Lib.hid hP
  clear h hc hE hn hL hne hP
  go_enter Tryz.func280, Tryz.ntmps280
  go_wp2_with fail
  refine (TV.out _ HA.out HC.out).mono ?_
  rintro e W1 ⟨rfl, ha, hg⟩
  replace HA := Lib.hid ha
  replace HE := Lib.hid (HE.out.kept hg HP.out)
  have HG := Lib.hid hg
  clear ha hg
  go_wp2_with fail
  refine (TN.out _ HE.out).mono ?_
  rintro e W2 ⟨rfl, hb⟩
  replace HA := Lib.hid (keep_block HA.out hb)
  replace HG := Lib.hid (kept_trans HG.out (kept_below hb))
  clear hb
  go_wp2_with fail
  refine (stop_zero _).mono ?_
  rintro e w3 ⟨rfl, rfl⟩
  go_wp2
  go_ret
  exact ⟨rfl, HA.out, HG.out⟩
theorem bytes_D (w : World) : ∃ (C : Nat) (W1 : World), (convert 9 97 (.string { data := #[68] })).run Tryz.prog w = .ok (.slice (some ⟨w.heap.size, 0, none⟩) 1 C) W1 ∧ W1.cell? ⟨w.heap.size, 0, none⟩ = some (.int .u8 68) ∧ W1.frozen? ⟨w.heap.size, 0, none⟩ = false ∧ Below w.heap.size w W1 ∧ W1.heap.size = w.heap.size + 1 := by
  have h := run_bytes_of_string (P := Tryz.prog) w 9 97 5 { data := #[68] } Tryz.underlying9 Tryz.underlying97 Tryz.underlying5
  obtain ⟨C, hC⟩ : ∃ C, grownCap w (ByteArray.size { data := #[68] }) 0 5 = C := ⟨_, rfl⟩
  rw [hC] at h
  have hr : (bytesRow { data := #[68] } C)[0]? = some (.int .u8 68) := by
    unfold bytesRow
    rw [Array.getElem?_append_left (by simp)]
    simp
  have hz : 1 ≤ (bytesRow { data := #[68] } C).size := by simp [bytesRow]
  obtain ⟨R, hR⟩ : ∃ R, bytesRow { data := #[68] } C = R := ⟨_, rfl⟩
  rw [hR] at h hr hz
  have hn : (w.drew.alloc (.cells R 5 (R.size, R.size + 1))).heap[w.heap.size]? = some (.cells R 5 (R.size, R.size + 1)) := heap_alloc_new w.drew _
  refine ⟨C, _, h, (Lib.cell_of_heap hn 0).trans hr, ?_, ?_, ?_⟩
  · simp only [World.frozen?, hn]
    rw [Bool.and_eq_false_iff]
    left
    exact decide_eq_false (by omega)
  · exact (Below.drew (Below.refl w.heap.size w)).alloc (Nat.le_refl _) _
  · simp [World.alloc]
set_option maxHeartbeats 4000000 in
set_option maxRecDepth 100000 in
theorem lower_D (w : World) : Calls Tryz.prog 56 #[.string { data := #[68] }] w fun e w' => e = .returned (.string { data := #[100] }) ∧ Below w.heap.size w w' := by
  obtain ⟨C, W1, hcv, c0, f0, hb, hsz⟩ := bytes_D w
  obtain ⟨B, hB⟩ : ∃ B, w.heap.size = B := ⟨_, rfl⟩
  rw [hB] at hcv c0 f0 hsz hb ⊢
  have c1 := World.cell?_setCell_same' W1 ⟨B, 0, none⟩ (.int .u8 100) (by rw [c0]; rfl)
  have hcb : (convert 97 9 (.slice (some ⟨B, 0, none⟩) 1 C)).run Tryz.prog (W1.setCell ⟨B, 0, none⟩ (.int .u8 100)) = .ok (.string { data := #[100] }) (W1.setCell ⟨B, 0, none⟩ (.int .u8 100)) := by
    have h := run_convert_bytes_arg (P := Tryz.prog) (W1.setCell ⟨B, 0, none⟩ (.int .u8 100)) 97 5 Tryz.underlying97 Tryz.underlying5 B 0 1 C [100] rfl (fun i hi => by
      obtain rfl : i = 0 := by omega
      exact c1) 9 Tryz.underlying9
    exact h
  have HK := Lib.hid (show Below B w (W1.setCell ⟨B, 0, none⟩ (.int .u8 100)) from hb.setCell (Nat.le_refl _) _)
  clear hb hsz c1 hB
  go_enter Tryz.func56, Tryz.ntmps56
  go_wp2
  refine wp_loop_rounds 2 ?_
  rw [rounds_succ]
  go_wp2
  rw [rounds_succ]
  go_wp2
  go_ret
  exact ⟨rfl, HK.out⟩
end Go.Proofs.YtphfefmlappidaaGreatDoor.Num

/- package fdate: EOMONTH, and DATEDIF by days, over their arguments. Conditions: dates between 1900 and 9999; the tables lie as they are laid. -/
namespace Go.Proofs.YtphfefmlappidaaGreatDoor.Num
open Go.RowKit Go.Lib

set_option linter.unusedSimpArgs false in
set_option linter.unusedVariables false in
set_option maxHeartbeats 2000000 in
set_option maxRecDepth 100000 in
theorem fd_EOMONTH (b g C : Nat) (W : World) (q0 q1 : Rat) (n y d m j : Int) (k : Nat) (hd : IsDate n y k d) (hm : 12 * y + k + j = m) (h0 : 22800 ≤ m) (h1 : m ≤ 119999) (hq0 : fits q0 = true) (hN0 : q0.floor = n) (hq1 : fits q1 = true) (hN1 : q1.floor = j) (ha : ArgsAt W b (some ⟨g, 0, none⟩) 2 C 0) (hne : g ≠ b) (hc0 : NumCells W g (0 + 0 * 9) q0) (hc1 : NumCells W g (0 + 1 * 9) q1) (hE : Env W) (hP : Past b) :
    Calls Tryz.prog 177 #[.pointer (some ⟨b, 0, none⟩)] W fun e w' => e = .returned (.int .i64 (eomNo m)) ∧ W.grownBy w' (some b) := by
  obtain ⟨n0, n1⟩ := hd.range
  have y0 := hd.y0; have y1 := hd.y1; have k1 := hd.k1
  have T0 := Lib.hid (fun W' a c e => fd_day b g 2 C 0 q0 n W' a (by decide) (by decide) hne c hq0 hN0 (by omega) (by omega) e hP)
  have T1 := Lib.hid (fun W' a c e => argWhole_any b g 0 2 C 1 q1 W' a (by decide) (by decide) hne c hq1 (by omega) (by omega) e hP)
  rw [hN1] at T1
  have TD := Lib.hid (fun W => date_any n y d k W hd)
  have TF := Lib.hid (fun W => first_any m W h0 h1)
  obtain ⟨K, hK⟩ : ∃ K : Nat, m % 12 = K := ⟨(m % 12).toNat, by omega⟩
  obtain ⟨Y, hY⟩ : ∃ Y, m / 12 = Y := ⟨_, rfl⟩
  have TM := Lib.hid (fun W => month_any Y K W (by omega) (by omega) (by omega))
  have hmb := mlen_bounds Y K
  have hfb : -1000000 ≤ firstDay m ∧ firstDay m ≤ 10000000 := by
    have := cum_bounds (m / 12) (m % 12)
    unfold firstDay before; omega
  have hres : eomNo m = firstDay m + mlen Y K - 1 := by unfold eomNo; rw [hK, hY]
  rw [hres]
  obtain ⟨F, hF⟩ : ∃ F, firstDay m = F := ⟨_, rfl⟩
  obtain ⟨M, hM⟩ : ∃ M, mlen Y K = M := ⟨_, rfl⟩
  rw [hF] at TF hfb ⊢
  rw [hM] at TM hmb ⊢
  have hm2 : 12 * y + ((k : Int) + 1) - 1 + j = m := by omega
  have HM := Lib.hid hm2
  have HK := Lib.hid hK
  have HY := Lib.hid hY
  have hjb : -2000000 ≤ j ∧ j ≤ 2000000 := by omega
  have HA := Lib.hid ha
  have HE := Lib.hid hE
  have HP := Lib.hid hP
  have NG := Lib.hid hne
  have HG := Lib.hid (only_refl W (some b))
  have HC0 := Lib.hid hc0
  have HC1 := Lib.hid hc1
  clear ha hE hP hne hc0 hq0 hN0 hc1 hq1 hN1 hd hm hm2 hF hM hK hY hres
  go_enter Tryz.func177, Tryz.ntmps177
  go_wp2_with fail
  refine (T0.out _ HA.out HC0.out HE.out).mono ?_
  rintro e W1 ⟨rfl, ha, hg⟩
  replace HA := Lib.hid ha
  replace HE := Lib.hid (HE.out.kept hg HP.out)
  replace HG := Lib.hid (kept_trans HG.out hg)
  replace HC0 := Lib.hid (HC0.out.kept hg NG.out)
  replace HC1 := Lib.hid (HC1.out.kept hg NG.out)
  clear ha hg
  go_wp2_with fail
  refine (T1.out _ HA.out HC1.out HE.out).mono ?_
  rintro e W2 ⟨rfl, ha, hg⟩
  replace HA := Lib.hid ha
  replace HE := Lib.hid (HE.out.kept hg HP.out)
  replace HG := Lib.hid (kept_trans HG.out hg)
  replace HC0 := Lib.hid (HC0.out.kept hg NG.out)
  replace HC1 := Lib.hid (HC1.out.kept hg NG.out)
  clear ha hg
  go_wp2_with fail
  refine (TD.out _).mono ?_
  rintro e W3 ⟨rfl, hb⟩
  replace HG := Lib.hid (kept_trans HG.out (kept_below hb))
  clear hb
  go_wp2_with fail
  simp only [HM.out]
  refine (TF.out _).mono ?_
  rintro e W4 ⟨rfl, hb⟩
  replace HG := Lib.hid (kept_trans HG.out (kept_below hb))
  clear hb
  go_wp2_with fail
  simp only [HY.out, HK.out]
  refine (TM.out _).mono ?_
  rintro e W5 ⟨rfl, hb⟩
  replace HG := Lib.hid (kept_trans HG.out (kept_below hb))
  clear hb
  go_wp2
  go_ret
  exact ⟨by first | rfl | (congr 2; omega), HG.out⟩

set_option linter.unusedSimpArgs false in
set_option linter.unusedVariables false in
set_option maxHeartbeats 2000000 in
set_option maxRecDepth 100000 in
theorem fd_DATEDIF (b g C : Nat) (W : World) (q0 q1 : Rat) (p q y d z f : Int) (k l : Nat) (hp : IsDate p y k d) (hz : IsDate q z l f) (hpq : p ≤ q) (hed : edateNo (12 * z + l) d ≤ q) (hcT : CellsAt W g (0 + 2 * 9) (.int .i64 2) (.string { data := #[] }) (.string { data := #[] }) (.string { data := #[68] }) (.bool false) (.int .i64 0) (.int .i64 0) (.int .i64 0) (.slice none 0 0)) (hq0 : fits q0 = true) (hN0 : q0.floor = p) (hq1 : fits q1 = true) (hN1 : q1.floor = q) (ha : ArgsAt W b (some ⟨g, 0, none⟩) 3 C 0) (hne : g ≠ b) (hc0 : NumCells W g (0 + 0 * 9) q0) (hc1 : NumCells W g (0 + 1 * 9) q1) (hE : Env W) (hP : Past b) :
    Calls Tryz.prog 178 #[.pointer (some ⟨b, 0, none⟩)] W fun e w' => e = .returned (.int .i64 (q - p)) ∧ W.grownBy w' (some b) := by
  obtain ⟨n0, n1⟩ := hp.range
  obtain ⟨m0, m1⟩ := hz.range
  have y0 := hp.y0; have y1 := hp.y1; have k1 := hp.k1
  have z0 := hz.y0; have z1 := hz.y1; have l1 := hz.k1; have l0 := hz.k0; have k0 := hp.k0
  have T0 := Lib.hid (fun W' a c e => fd_day b g 3 C 0 q0 p W' a (by decide) (by decide) hne c hq0 hN0 (by omega) (by omega) e hP)
  have T1 := Lib.hid (fun W' a c e => fd_day b g 3 C 1 q1 q W' a (by decide) (by decide) hne c hq1 hN1 (by omega) (by omega) e hP)
  have TT := Lib.hid (fun W' a c e => argText_D b g 0 3 C 2 W' a (by decide) (by decide) hne c e hP)
  have TL := Lib.hid (fun W => lower_D W)
  have TP0 := Lib.hid (fun W => part_year p y d k W hp)
  have TP1 := Lib.hid (fun W => part_month p y d k W hp)
  have TP2 := Lib.hid (fun W => part_year q z f l W hz)
  have TP3 := Lib.hid (fun W => part_month q z f l W hz)
  have TE := Lib.hid (fun W => edate_any p y d (12 * z + l) (12 * z + l - 12 * y - k) k W hp (by omega) (by omega) (by omega))
  have t1 : decide (q < p) = false := decide_eq_false (by omega)
  obtain ⟨E, hE'⟩ : ∃ E, edateNo (12 * z + l) d = E := ⟨_, rfl⟩
  rw [hE'] at TE hed
  have t2 : decide (q < E) = false := decide_eq_false (by omega)
  have HM := Lib.hid (show 12 * (z - y) + ((l : Int) + 1) - ((k : Int) + 1) = 12 * z + l - 12 * y - k by omega)
  have HCT := Lib.hid hcT
  have HA := Lib.hid ha
  have HE := Lib.hid hE
  have HP := Lib.hid hP
  have NG := Lib.hid hne
  have HG := Lib.hid (only_refl W (some b))
  have HC0 := Lib.hid hc0
  have HC1 := Lib.hid hc1
  clear ha hE hP hne hc0 hq0 hN0 hc1 hq1 hN1 hp hz hpq hed hcT hE'
  go_enter Tryz.func178, Tryz.ntmps178
  go_wp2_with fail
  refine (T0.out _ HA.out HC0.out HE.out).mono ?_
  rintro e W1 ⟨rfl, ha, hg⟩
  replace HA := Lib.hid ha
  replace HE := Lib.hid (HE.out.kept hg HP.out)
  replace HG := Lib.hid (kept_trans HG.out hg)
  replace HC0 := Lib.hid (HC0.out.kept hg NG.out)
  replace HC1 := Lib.hid (HC1.out.kept hg NG.out)
  replace HCT := Lib.hid (HCT.out.kept hg NG.out)
  clear ha hg
  go_wp2_with fail
  refine (T1.out _ HA.out HC1.out HE.out).mono ?_
  rintro e W2 ⟨rfl, ha, hg⟩
  replace HA := Lib.hid ha
  replace HE := Lib.hid (HE.out.kept hg HP.out)
  replace HG := Lib.hid (kept_trans HG.out hg)
  replace HC0 := Lib.hid (HC0.out.kept hg NG.out)
  replace HC1 := Lib.hid (HC1.out.kept hg NG.out)
  replace HCT := Lib.hid (HCT.out.kept hg NG.out)
  clear ha hg
  go_wp2_with fail
  refine (TT.out _ HA.out HCT.out HE.out).mono ?_
  rintro e W3 ⟨rfl, ha, hg⟩
  replace HG := Lib.hid (kept_trans HG.out hg)
  clear ha hg
  go_wp2_with fail
  refine (TL.out _).mono ?_
  rintro e W4 ⟨rfl, hb⟩
  replace HG := Lib.hid (kept_trans HG.out (kept_below hb))
  clear hb
  go_wp2_with fail
  refine (wrong_no _).mono ?_
  rintro e W3 ⟨rfl, rfl⟩
  go_wp2_with fail
  refine (TP2.out _).mono ?_
  rintro e W4 ⟨rfl, hb⟩
  replace HG := Lib.hid (kept_trans HG.out (kept_below hb))
  clear hb
  go_wp2_with fail
  refine (TP0.out _).mono ?_
  rintro e W5 ⟨rfl, hb⟩
  replace HG := Lib.hid (kept_trans HG.out (kept_below hb))
  clear hb
  go_wp2_with fail
  refine (TP3.out _).mono ?_
  rintro e W6 ⟨rfl, hb⟩
  replace HG := Lib.hid (kept_trans HG.out (kept_below hb))
  clear hb
  go_wp2_with fail
  refine (TP1.out _).mono ?_
  rintro e W7 ⟨rfl, hb⟩
  replace HG := Lib.hid (kept_trans HG.out (kept_below hb))
  clear hb
  go_wp2_with fail
  simp only [HM.out]
  refine (TE.out _).mono ?_
  rintro e W8 ⟨rfl, hb⟩
  replace HG := Lib.hid (kept_trans HG.out (kept_below hb))
  clear hb
  go_wp2
  go_ret
  exact ⟨by first | rfl | (congr 2; omega), HG.out⟩

end Go.Proofs.YtphfefmlappidaaGreatDoor.Num

/- package value: Lift at the kinds 'ssa' where no argument is lifted. Conditions: the tables lie as they are laid. -/
namespace Go.Proofs.YtphfefmlappidaaGreatDoor.Num
open Go.RowKit Go.Lib

set_option maxHeartbeats 1000000 in
theorem letter_ssa0 (i : Nat) (hi : i = 0) (w : World) : Calls Tryz.prog 199 #[.string { data := #[115, 115, 97] }, .int .i64 (i : Int)] w fun e w' => e = .returned (.int .u8 115) ∧ w' = w := by
  have hm : min (i : Int) 2 = 0 := by omega
  go_enter Tryz.func199, Tryz.ntmps199
  go_wp2
  go_ret
  exact ⟨by first | rfl | simp, rfl⟩

set_option maxHeartbeats 1000000 in
theorem letter_ssa1 (i : Nat) (hi : i = 1) (w : World) : Calls Tryz.prog 199 #[.string { data := #[115, 115, 97] }, .int .i64 (i : Int)] w fun e w' => e = .returned (.int .u8 115) ∧ w' = w := by
  have hm : min (i : Int) 2 = 1 := by omega
  go_enter Tryz.func199, Tryz.ntmps199
  go_wp2
  go_ret
  exact ⟨by first | rfl | simp, rfl⟩

set_option maxHeartbeats 1000000 in
theorem letter_ssa2 (i : Nat) (h0 : 2 ≤ i) (hi : i ≤ 1000000) (w : World) : Calls Tryz.prog 199 #[.string { data := #[115, 115, 97] }, .int .i64 (i : Int)] w fun e w' => e = .returned (.int .u8 97) ∧ w' = w := by
  have hm : min (i : Int) 2 = 2 := by omega
  go_enter Tryz.func199, Tryz.ntmps199
  go_wp2
  go_ret
  exact ⟨by first | rfl | simp, rfl⟩

set_option maxHeartbeats 8000000 in
set_option maxRecDepth 100000 in
theorem lift_ssa (vs : List Val) (ab ao C pb : Nat) (q : Val) (w : World) (h0 : 0 < vs.length) (h9 : vs.length ≤ 300) (hno0 : ∀ (h : 0 < vs.length), (vs[0].k == 5) = false) (hno1 : ∀ (h : 1 < vs.length), (vs[1].k == 5) = false) (hv : ValsAt w ab ao vs) (hE : Env w) (hq : q.A = none ∧ q.L = 0 ∧ q.C = 0)
    (hC : ∀ v ∈ vs, ∀ W, Below w.heap.size w W → Calls Tryz.prog 48 #[v.agg] W fun e w' => e = .returned (.int .i64 0) ∧ Below W.heap.size W w')
    (hO : ∀ W, Env W → Calls Tryz.prog 48 #[q.agg] W fun e w' => e = .returned (.int .i64 0) ∧ Below W.heap.size W w')
    (hF : ∀ W g cap, Below w.heap.size w W → ValsAt W g 0 vs → Calls Tryz.prog 78 #[.slice (some ⟨g, 0, none⟩) vs.length cap, .pointer (some ⟨pb, 0, none⟩)] W fun e w' => e = .returned q.agg ∧ Below W.heap.size W w') :
    Calls Tryz.prog 77 #[.string { data := #[115, 115, 97] }, .slice (some ⟨ab, ao, none⟩) vs.length C, .func (.func 78) #[] #[.pointer (some ⟨pb, 0, none⟩)]] w fun e w' => e = .returned (.tuple #[q.agg, .int .i64 0]) ∧ Below w.heap.size w w' := by
  obtain ⟨qk, qn, qd, qt, qon, qc, qr, qs, qA, qL, qC⟩ := q
  obtain ⟨rfl, rfl, rfl⟩ := hq
  have hb : Below w.heap.size w (w.alloc (.cells #[.int .i64 0, .string { data := #[] }, .string { data := #[] }, .string { data := #[] }, .bool false, .int .i64 0, .int .i64 0, .int .i64 0, .slice none 0 0] 30)) := (Below.refl _ _).alloc (Nat.le_refl _) _
  have HR := Lib.hid (heap_alloc_new w (.cells #[.int .i64 0, .string { data := #[] }, .string { data := #[] }, .string { data := #[] }, .bool false, .int .i64 0, .int .i64 0, .int .i64 0, .slice none 0 0] 30))
  have HV := Lib.hid (hv.below hb)
  have HE := Lib.hid (hE.below hb)
  have HL := Lib.hid hb
  have HC := Lib.hid hC
  have HO := Lib.hid (fun W g => valid_of qk qn qd qt qon qc qr qs none 0 0 W hO g)
  have HF := Lib.hid hF
  obtain ⟨L, hL⟩ : ∃ L, vs.length = L := ⟨_, rfl⟩
  have HLL := Lib.hid hL
  rw [hL] at h0 h9 HF ⊢
  have htr := fun W => Any.strings_Trim_laid Tryz.lays160 (by kernel_rfl) { data := #[115, 115, 97] } { data := #[115, 97] } W (by decide) (by decide) (ascii_of_all (by decide))
  rw [show Lib.trimS ({ data := #[115, 115, 97] } : ByteArray).data.toList ({ data := #[115, 97] } : ByteArray).data.toList = [] from by decide] at htr
  have HTR := Lib.hid htr
  have hem : ({ data := #[] } : ByteArray).toList.isEmpty = true := by rw [Lib.toList_data]; rfl
  obtain ⟨B, hB⟩ : ∃ B, w.heap.size = B := ⟨_, rfl⟩
  have HB := Lib.hid hB
  clear hb hv hE hC hO hF hL htr hB
  go_enter Tryz.func77, Tryz.ntmps77
  go_wp2_with fail
  refine (HTR.out _).mono ?_
  rintro e w1 ⟨rfl, hb⟩
  replace HR := Lib.hid (keep_block HR.out hb)
  replace HV := Lib.hid (HV.out.below hb)
  replace HE := Lib.hid (HE.out.below hb)
  replace HL := Lib.hid (HL.out.trans (hb.mono HL.out.size))
  clear hb
  have LI := Lib.hid (show LiftI w ab ao vs w1 from ⟨HR.out, HV.out, HE.out, HL.out⟩)
  clear HR HV HE HL
  go_wp2_with fail
  go_loopg [29] L (fun g v29 wx => ∃ i : Nat, v29 = .int .i64 (i : Int) ∧ i ≤ L ∧ g = L - i ∧ LiftI w ab ao vs wx)
  case atStart => exact ⟨0, rfl, Nat.zero_le _, rfl, LI.out⟩
  case round =>
    obtain ⟨i, rfl, hi, rfl, hli⟩ := hrel
    have HLI := Lib.hid hli
    clear hli LI
    by_cases hlt : i < L
    · have hd : decide ((i : Int) < (L : Int)) = true := decide_eq_true (by omega)
      have hd2 : decide (i < L) = true := decide_eq_true hlt
      have hii : i < vs.length := by rw [HLL.out]; exact hlt
      obtain ⟨c0, c1, c2, c3, c4, c5, c6, c7, c8⟩ := HLI.out.2.1.at i hii
      have hi0 : (0 : Int) ≤ (i : Int) := by omega
      have hi1 : (i : Int) < (L : Int) := by omega
      have TC := Lib.hid (HC.out vs[i] (List.getElem_mem hii))
      have HA := Lib.hid (HLI.out.2.2.2.trans ((Below.refl wr.heap.size wr).alloc (Nat.le_refl _) (.cells #[.int .i64 vs[i].k, .string vs[i].n, .string vs[i].d, .string vs[i].t, .bool vs[i].on, .int .i64 vs[i].c, .int .i64 vs[i].r, .int .i64 vs[i].s, .slice vs[i].A vs[i].L vs[i].C] 30) |>.mono HLI.out.2.2.2.size))
      go_wp2_with fail
      refine (TC.out _ HA.out).mono ?_
      rintro e w2 ⟨rfl, hb⟩
      have HLI2 := Lib.hid ((HLI.out.step ((Below.refl wr.heap.size wr).alloc (Nat.le_refl _) (.cells #[.int .i64 vs[i].k, .string vs[i].n, .string vs[i].d, .string vs[i].t, .bool vs[i].on, .int .i64 vs[i].c, .int .i64 vs[i].r, .int .i64 vs[i].s, .slice vs[i].A vs[i].L vs[i].C] 30))).step hb)
      clear hb c0 c1 c2 c3 c4 c5 c6 c7 c8
      go_wp2
      go_roundg (L - (i + 1))
      case measure => omega
      case rel => exact ⟨i + 1, by go_num, by omega, by omega, HLI2.out⟩
    · have hd : decide ((i : Int) < (L : Int)) = false := decide_eq_false (by omega)
      have hd2 : decide (i < L) = false := decide_eq_false hlt
      clear hlt
      go_wp2_with fail
      go_loopg [11, 12, 42] L (fun g v11 v12 v42 wx => ∃ i : Nat, v11 = .int .i64 0 ∧ v12 = .int .i64 0 ∧ v42 = .int .i64 (i : Int) ∧ i ≤ L ∧ g = L - i ∧ LiftI w ab ao vs wx)
      case atStart => exact ⟨0, rfl, rfl, rfl, Nat.zero_le _, rfl, HLI.out⟩
      case round =>
        clear HLI hd hd2 hi
        obtain ⟨i, rfl, rfl, rfl, hi, rfl, hli⟩ := hrel
        have HLI := Lib.hid hli
        clear hli
        by_cases hlt : i < L
        · have hd : decide ((i : Int) < (L : Int)) = true := decide_eq_true (by omega)
          have hd2 : decide (i < L) = true := decide_eq_true hlt
          have hii : i < vs.length := by rw [HLL.out]; exact hlt
          obtain ⟨c0, c1, c2, c3, c4, c5, c6, c7, c8⟩ := HLI.out.2.1.at i hii
          have hi0 : (0 : Int) ≤ (i : Int) := by omega
          have hi1 : (i : Int) < (L : Int) := by omega
          by_cases h0 : i = 0
          · skip
            have hkf : (vs[i].k == 5) = false := by subst h0; exact hno0 hii
            have hI := Lib.hid h0
            clear h0
            go_wp2_with fail
            refine (letter_ssa0 i hI.out _).mono ?_
            rintro e w2 ⟨rfl, rfl⟩
            have HLI2 := Lib.hid (HLI.out.step ((Below.refl wr.heap.size wr).alloc (Nat.le_refl _) (.cells #[.int .i64 vs[i].k, .string vs[i].n, .string vs[i].d, .string vs[i].t, .bool vs[i].on, .int .i64 vs[i].c, .int .i64 vs[i].r, .int .i64 vs[i].s, .slice vs[i].A vs[i].L vs[i].C] 30)))
            go_wp2
            go_roundg (L - (i + 1))
            case measure => omega
            case rel => exact ⟨i + 1, rfl, rfl, by go_num, by omega, by omega, HLI2.out⟩
          · skip
            by_cases h1 : i = 1
            · skip
              have hkf : (vs[i].k == 5) = false := by subst h1; exact hno1 hii
              have hI := Lib.hid h1
              clear h1
              go_wp2_with fail
              refine (letter_ssa1 i hI.out _).mono ?_
              rintro e w2 ⟨rfl, rfl⟩
              have HLI2 := Lib.hid (HLI.out.step ((Below.refl wr.heap.size wr).alloc (Nat.le_refl _) (.cells #[.int .i64 vs[i].k, .string vs[i].n, .string vs[i].d, .string vs[i].t, .bool vs[i].on, .int .i64 vs[i].c, .int .i64 vs[i].r, .int .i64 vs[i].s, .slice vs[i].A vs[i].L vs[i].C] 30)))
              go_wp2
              go_roundg (L - (i + 1))
              case measure => omega
              case rel => exact ⟨i + 1, rfl, rfl, by go_num, by omega, by omega, HLI2.out⟩
            · skip
              have hgt : 2 ≤ i := by omega
              skip
              go_wp2_with fail
              refine (letter_ssa2 i hgt (by omega) _).mono ?_
              rintro e w2 ⟨rfl, rfl⟩
              have HLI2 := Lib.hid (HLI.out.step ((Below.refl wr.heap.size wr).alloc (Nat.le_refl _) (.cells #[.int .i64 vs[i].k, .string vs[i].n, .string vs[i].d, .string vs[i].t, .bool vs[i].on, .int .i64 vs[i].c, .int .i64 vs[i].r, .int .i64 vs[i].s, .slice vs[i].A vs[i].L vs[i].C] 30)))
              go_wp2
              go_roundg (L - (i + 1))
              case measure => omega
              case rel => exact ⟨i + 1, rfl, rfl, by go_num, by omega, by omega, HLI2.out⟩
        · have hd : decide ((i : Int) < (L : Int)) = false := decide_eq_false (by omega)
          have hd2 : decide (i < L) = false := decide_eq_false hlt
          clear hlt
          obtain ⟨i0, hi0', hz0, hz1, hz2⟩ := info_val
          have hfl : (flat vs).length = L * 9 := by rw [flat_len, HLL.out]
          have hvals := HLI.out.2.1
          have hml : 0 + L ≤ maxLen := by unfold maxLen; omega
          clear hi
          go_wp2_with (at_builtin; refine wpList_append_own _ rfl _ _ 28 rfl w.heap.size 30 i0 _ 9 112 Tryz.underlying28 hi0' hz0 hz1 hz2 rfl (by decide) (.slice none 0 0) 0 [] rfl (World.ownsRow_nil _ _ _ _) ⟨ab, ao, none⟩ L C (flat vs) rfl hfl hvals (flat_one vs) hml (by omega) HLI.out.2.2.2.size ?_)
          intro v5 w5 hown5 hgrow5 _
          obtain ⟨g, cap, rfl, hg, hcap, hva⟩ := vals_of_owns hown5 HLL.out h0
          have HLI5 := Lib.hid (HLI.out.step (below_none hgrow5))
          have HVA := Lib.hid hva
          clear hown5 hgrow5 hg hcap hva hvals hfl hml hi0' hz0 hz1 hz2
          go_wp2_with fail
          refine (HF.out _ g cap HLI5.out.2.2.2 HVA.out).mono ?_
          rintro e w6 ⟨rfl, hb⟩
          have HLI6 := Lib.hid (HLI5.out.step hb)
          clear hb
          unfold Val.agg
          simp only []
          go_wp2_with fail
          refine (HO.out _ HLI6.out.2.2.1).mono ?_
          rintro e w7 ⟨rfl, hb⟩
          have HLI7 := Lib.hid (HLI6.out.step hb)
          clear hb
          have HLI8 := Lib.hid (HLI7.out.step ((Below.refl w7.heap.size w7).alloc (Nat.le_refl _) (.cells #[.int .i64 qk, .string qn, .string qd, .string qt, .bool qon, .int .i64 qc, .int .i64 qr, .int .i64 qs, .slice none 0 0] 30)))
          obtain ⟨⟨a0, a1, a2, a3, a4, a5, a6, a7, a8⟩, b0, b1, b2, b3, b4, b5, b6, b7, b8⟩ := nine_at HLI7.out.1
          obtain ⟨⟨r0, r1, r2, r3, r4, r5, r6, r7, r8⟩, g0, g1, g2, g3, g4, g5, g6, g7, g8⟩ := nine_at HLI8.out.1
          have hlt7 := heap_lt HLI7.out.1
          have HF1 := Lib.hid (set9_at HLI7.out.1 (.int .i64 qk) (.string qn) (.string qd) (.string qt) (.bool qon) (.int .i64 qc) (.int .i64 qr) (.int .i64 qs) (.slice none 0 0))
          have HF2 := Lib.hid ((Below.heap_alloc _ (.cells #[.int .i64 qk, .string qn, .string qd, .string qt, .bool qon, .int .i64 qc, .int .i64 qr, .int .i64 qs, .slice none 0 0] 30) _ (heap_lt HF1.out)).trans HF1.out)
          have HB2 := Lib.hid (nine_end (x0 := (.int .i64 qk)) (x1 := (.string qn)) (x2 := (.string qd)) (x3 := (.string qt)) (x4 := (.bool qon)) (x5 := (.int .i64 qc)) (x6 := (.int .i64 qr)) (x7 := (.int .i64 qs)) (x8 := (.slice none 0 0)) HLI7.out.1 HLI7.out.2.2.2 (Nat.le_refl _)).1
          have HZ2 := Lib.hid (HB2.out.alloc HB2.out.size (.cells #[.int .i64 qk, .string qn, .string qd, .string qt, .bool qon, .int .i64 qc, .int .i64 qr, .int .i64 qs, .slice none 0 0] 30))
          obtain ⟨⟨e0, e1, e2, e3, e4, e5, e6, e7, e8⟩, _⟩ := nine_at HF2.out
          go_wp2
          refine bodyPost_ret (v := .tuple #[.agg #[.int .i64 qk, .string qn, .string qd, .string qt, .bool qon, .int .i64 qc, .int .i64 qr, .int .i64 qs, .slice none 0 0], .int .i64 0]) (by simp [results, Tryz.results77, go_sem, e0, e1, e2, e3, e4, e5, e6, e7, e8]) rfl ⟨rfl, HZ2.out⟩
end Go.Proofs.YtphfefmlappidaaGreatDoor.Num

/- package value: Run at a row of fdate's table with the kinds 'ssa'. Conditions: the tables lie as they are laid. -/
namespace Go.Proofs.YtphfefmlappidaaGreatDoor.Num.Fd
open Go.RowKit Go.Lib Go.MapKept Num
attribute [local go_sem] run_store_func

set_option maxHeartbeats 8000000 in
set_option maxRecDepth 100000 in
theorem run_ssa_val (i : Nat) (r : Row) (hi : i < allRows.length) (hr : allRows[i] = r) (hkd : r.kinds = { data := #[115, 115, 97] }) (hfr : ∀ j (hj : j < i), (allRows[i].name == (allRows[j]'(by omega)).name) = false) (vs : List Val) (b ab ao C : Nat) (q : Val) (w : World) (h0 : 0 < vs.length) (h9 : vs.length ≤ 300) (hc1 : r.least ≤ vs.length) (hc2 : (vs.length : Int) ≤ r.most) (hno0 : ∀ (h : 0 < vs.length), (vs[0].k == 5) = false) (hno1 : ∀ (h : 1 < vs.length), (vs[1].k == 5) = false) (hv : ValsAt w ab ao vs) (hE : Env w) (hT : TableAt w b allRows) (hq : q.A = none ∧ q.L = 0 ∧ q.C = 0 ∧ q.r = 0 ∧ q.s = 0)
    (hO : ∀ W, Env W → Calls Tryz.prog 48 #[q.agg] W fun e w' => e = .returned (.int .i64 0) ∧ Below W.heap.size W w') 
    (hC : ∀ v ∈ vs, ∀ W, Below w.heap.size w W → Calls Tryz.prog 48 #[v.agg] W fun e w' => e = .returned (.int .i64 0) ∧ Below W.heap.size W w')
    (hK : ∀ W e g cap, Below w.heap.size w W → Env W → FnAt W e r → ValsAt W g 0 vs → Calls Tryz.prog 278 #[.slice (some ⟨g, 0, none⟩) vs.length cap, .pointer (some ⟨e, 0, none⟩)] W fun e w' => e = .returned q.agg ∧ Below W.heap.size W w') :
    Calls Tryz.prog 50 #[.map (some b), .string r.name, .slice (some ⟨ab, ao, none⟩) vs.length C] w fun e w' => e = .returned (.tuple #[(q).agg, .int .i64 0]) ∧ Below w.heap.size w w' := by
  have hb : Below w.heap.size w (w.alloc (.cells #[.int .i64 0, .string { data := #[] }, .string { data := #[] }, .string { data := #[] }, .bool false, .int .i64 0, .int .i64 0, .int .i64 0, .slice none 0 0] 30)) := (Below.refl _ _).alloc (Nat.le_refl _) _
  have HR := Lib.hid (heap_alloc_new w (.cells #[.int .i64 0, .string { data := #[] }, .string { data := #[] }, .string { data := #[] }, .bool false, .int .i64 0, .int .i64 0, .int .i64 0, .slice none 0 0] 30))
  obtain ⟨v, hrf, hrun⟩ := (hT.below hb).look i hi hfr Tryz.underlying79 Tryz.underlying9
  rw [hr] at hrf hrun
  obtain ⟨e0, rfl, hfn⟩ := rowFn_at hrf
  obtain ⟨name, least, most, kinds, num, F⟩ := r
  simp only at hkd hc1 hc2
  subst hkd
  simp only at hrun ⊢
  have HV := Lib.hid (hv.below hb)
  have HE := Lib.hid (hE.below hb)
  have HL := Lib.hid hb
  have HFN := Lib.hid hfn
  have d1 : decide ((vs.length : Int) < least) = false := decide_eq_false (by omega)
  have d2 : decide (most < (vs.length : Int)) = false := decide_eq_false (by omega)
  have hmf : ∀ (fn : Fn) (first cap : Array Value) (w : World), (Instr.makeFunc fn first cap).run Tryz.prog w = .ok (.func fn first cap) w := fun _ _ _ _ => rfl
  have hb : Below (w.alloc (.cells #[.int .i64 0, .string { data := #[] }, .string { data := #[] }, .string { data := #[] }, .bool false, .int .i64 0, .int .i64 0, .int .i64 0, .slice none 0 0] 30)).heap.size (w.alloc (.cells #[.int .i64 0, .string { data := #[] }, .string { data := #[] }, .string { data := #[] }, .bool false, .int .i64 0, .int .i64 0, .int .i64 0, .slice none 0 0] 30)) ((w.alloc (.cells #[.int .i64 0, .string { data := #[] }, .string { data := #[] }, .string { data := #[] }, .bool false, .int .i64 0, .int .i64 0, .int .i64 0, .slice none 0 0] 30)).alloc (.cells #[.int .i64 least, .int .i64 most, .string { data := #[115, 115, 97] }, .func (.func 278) #[] #[.pointer (some ⟨e0, 0, none⟩)]] 109)) := (Below.refl _ _).alloc (Nat.le_refl _) _
  have HX := Lib.hid (Lib.cell_of_heap (heap_alloc_new (w.alloc (.cells #[.int .i64 0, .string { data := #[] }, .string { data := #[] }, .string { data := #[] }, .bool false, .int .i64 0, .int .i64 0, .int .i64 0, .slice none 0 0] 30)) (.cells #[.int .i64 least, .int .i64 most, .string { data := #[115, 115, 97] }, .func (.func 278) #[] #[.pointer (some ⟨e0, 0, none⟩)]] 109)) 3)
  replace HR := Lib.hid (keep_block HR.out hb)
  replace HV := Lib.hid (HV.out.below hb)
  replace HE := Lib.hid (HE.out.below hb)
  replace HL := Lib.hid (HL.out.trans (hb.mono HL.out.size))
  replace HFN := Lib.hid (HFN.out.below hb)
  have hpos : (w.alloc (.cells #[.int .i64 0, .string { data := #[] }, .string { data := #[] }, .string { data := #[] }, .bool false, .int .i64 0, .int .i64 0, .int .i64 0, .slice none 0 0] 30)).heap.size = w.heap.size + 1 := by simp
  rw [hpos] at HX
  have TL := Lib.hid (lift_ssa vs ab ao C (w.heap.size + 1) (q) ((w.alloc (.cells #[.int .i64 0, .string { data := #[] }, .string { data := #[] }, .string { data := #[] }, .bool false, .int .i64 0, .int .i64 0, .int .i64 0, .slice none 0 0] 30)).alloc (.cells #[.int .i64 least, .int .i64 most, .string { data := #[115, 115, 97] }, .func (.func 278) #[] #[.pointer (some ⟨e0, 0, none⟩)]] 109)) h0 h9 hno0 hno1 HV.out HE.out ⟨hq.1, hq.2.1, hq.2.2.1⟩
    (fun v hv W h => hC v hv W (HL.out.trans (h.mono HL.out.size))) (hO)
    (fun W g cap hbw hva => by
      have h := run1_value (w.heap.size + 1) 0 e0 (.slice (some ⟨g, 0, none⟩) vs.length cap) q.k q.n q.d q.t q.on q.c q.A q.L q.C W ⟨_, _, _, rfl⟩ (cell_below HX.out hbw) (HE.out.below hbw) (fun W' hb' => by
        have h2 := hK W' e0 g cap (HL.out.trans ((hbw.trans (hb'.mono hbw.size)).mono HL.out.size)) (HE.out.below (hbw.trans (hb'.mono hbw.size))) (HFN.out.below (hbw.trans (hb'.mono hbw.size))) (hva.below hb')
        unfold Val.agg at h2
        rw [hq.2.2.2.1, hq.2.2.2.2] at h2
        exact h2)
      unfold Val.agg
      rw [hq.2.2.2.1, hq.2.2.2.2]
      exact h))
  obtain ⟨qq, hqq⟩ : ∃ z, (q) = z := ⟨_, rfl⟩
  rw [hqq] at TL ⊢
  clear hqq hb hv hE hT hC hK hrf hfn hpos hfr hr hi h0 h9 hc1 hc2
  go_enter Tryz.func50, Tryz.ntmps50
  unfold Val.agg at TL ⊢
  go_wp2_with fail
  refine TL.out.mono ?_
  rintro e w2 ⟨rfl, hb2⟩
  replace HR := Lib.hid (keep_block HR.out hb2)
  replace HL := Lib.hid (HL.out.trans (hb2.mono HL.out.size))
  clear hb2
  obtain ⟨⟨r0, r1, r2, r3, r4, r5, r6, r7, r8⟩, g0, g1, g2, g3, g4, g5, g6, g7, g8⟩ := nine_at HR.out
  obtain ⟨nb, z0, z1, z2, z3, z4, z5, z6, z7, z8⟩ := nine_end (x0 := (.int .i64 qq.k)) (x1 := (.string qq.n)) (x2 := (.string qq.d)) (x3 := (.string qq.t)) (x4 := (.bool qq.on)) (x5 := (.int .i64 qq.c)) (x6 := (.int .i64 qq.r)) (x7 := (.int .i64 qq.s)) (x8 := (.slice qq.A qq.L qq.C)) HR.out HL.out (Nat.le_refl _)
  go_wp2
  refine bodyPost_ret (v := .tuple #[.agg #[.int .i64 qq.k, .string qq.n, .string qq.d, .string qq.t, .bool qq.on, .int .i64 qq.c, .int .i64 qq.r, .int .i64 qq.s, .slice qq.A qq.L qq.C], .int .i64 0]) (by simp [results, Tryz.results50, go_sem, z0, z1, z2, z3, z4, z5, z6, z7, z8]) rfl ⟨rfl, nb⟩

set_option maxHeartbeats 8000000 in
set_option maxRecDepth 100000 in
theorem run_ssa_stop (i : Nat) (r : Row) (hi : i < allRows.length) (hr : allRows[i] = r) (hkd : r.kinds = { data := #[115, 115, 97] }) (hfr : ∀ j (hj : j < i), (allRows[i].name == (allRows[j]'(by omega)).name) = false) (vs : List Val) (b ab ao C : Nat) (c : Int) (w : World) (h0 : 0 < vs.length) (h9 : vs.length ≤ 300) (hc1 : r.least ≤ vs.length) (hc2 : (vs.length : Int) ≤ r.most) (hno0 : ∀ (h : 0 < vs.length), (vs[0].k == 5) = false) (hno1 : ∀ (h : 1 < vs.length), (vs[1].k == 5) = false) (hv : ValsAt w ab ao vs) (hE : Env w) (hT : TableAt w b allRows) (h1 : 1 ≤ c) (h2 : c ≤ 8) 
    (hC : ∀ v ∈ vs, ∀ W, Below w.heap.size w W → Calls Tryz.prog 48 #[v.agg] W fun e w' => e = .returned (.int .i64 0) ∧ Below W.heap.size W w')
    (hK : ∀ W e g cap, Below w.heap.size w W → Env W → FnAt W e r → ValsAt W g 0 vs → Calls Tryz.prog 278 #[.slice (some ⟨g, 0, none⟩) vs.length cap, .pointer (some ⟨e, 0, none⟩)] W fun e w' => e = stopped c ∧ Below W.heap.size W w') :
    Calls Tryz.prog 50 #[.map (some b), .string r.name, .slice (some ⟨ab, ao, none⟩) vs.length C] w fun e w' => e = .returned (.tuple #[(faultVal' c).agg, .int .i64 0]) ∧ Below w.heap.size w w' := by
  have hb : Below w.heap.size w (w.alloc (.cells #[.int .i64 0, .string { data := #[] }, .string { data := #[] }, .string { data := #[] }, .bool false, .int .i64 0, .int .i64 0, .int .i64 0, .slice none 0 0] 30)) := (Below.refl _ _).alloc (Nat.le_refl _) _
  have HR := Lib.hid (heap_alloc_new w (.cells #[.int .i64 0, .string { data := #[] }, .string { data := #[] }, .string { data := #[] }, .bool false, .int .i64 0, .int .i64 0, .int .i64 0, .slice none 0 0] 30))
  obtain ⟨v, hrf, hrun⟩ := (hT.below hb).look i hi hfr Tryz.underlying79 Tryz.underlying9
  rw [hr] at hrf hrun
  obtain ⟨e0, rfl, hfn⟩ := rowFn_at hrf
  obtain ⟨name, least, most, kinds, num, F⟩ := r
  simp only at hkd hc1 hc2
  subst hkd
  simp only at hrun ⊢
  have HV := Lib.hid (hv.below hb)
  have HE := Lib.hid (hE.below hb)
  have HL := Lib.hid hb
  have HFN := Lib.hid hfn
  have d1 : decide ((vs.length : Int) < least) = false := decide_eq_false (by omega)
  have d2 : decide (most < (vs.length : Int)) = false := decide_eq_false (by omega)
  have hmf : ∀ (fn : Fn) (first cap : Array Value) (w : World), (Instr.makeFunc fn first cap).run Tryz.prog w = .ok (.func fn first cap) w := fun _ _ _ _ => rfl
  have hb : Below (w.alloc (.cells #[.int .i64 0, .string { data := #[] }, .string { data := #[] }, .string { data := #[] }, .bool false, .int .i64 0, .int .i64 0, .int .i64 0, .slice none 0 0] 30)).heap.size (w.alloc (.cells #[.int .i64 0, .string { data := #[] }, .string { data := #[] }, .string { data := #[] }, .bool false, .int .i64 0, .int .i64 0, .int .i64 0, .slice none 0 0] 30)) ((w.alloc (.cells #[.int .i64 0, .string { data := #[] }, .string { data := #[] }, .string { data := #[] }, .bool false, .int .i64 0, .int .i64 0, .int .i64 0, .slice none 0 0] 30)).alloc (.cells #[.int .i64 least, .int .i64 most, .string { data := #[115, 115, 97] }, .func (.func 278) #[] #[.pointer (some ⟨e0, 0, none⟩)]] 109)) := (Below.refl _ _).alloc (Nat.le_refl _) _
  have HX := Lib.hid (Lib.cell_of_heap (heap_alloc_new (w.alloc (.cells #[.int .i64 0, .string { data := #[] }, .string { data := #[] }, .string { data := #[] }, .bool false, .int .i64 0, .int .i64 0, .int .i64 0, .slice none 0 0] 30)) (.cells #[.int .i64 least, .int .i64 most, .string { data := #[115, 115, 97] }, .func (.func 278) #[] #[.pointer (some ⟨e0, 0, none⟩)]] 109)) 3)
  replace HR := Lib.hid (keep_block HR.out hb)
  replace HV := Lib.hid (HV.out.below hb)
  replace HE := Lib.hid (HE.out.below hb)
  replace HL := Lib.hid (HL.out.trans (hb.mono HL.out.size))
  replace HFN := Lib.hid (HFN.out.below hb)
  have hpos : (w.alloc (.cells #[.int .i64 0, .string { data := #[] }, .string { data := #[] }, .string { data := #[] }, .bool false, .int .i64 0, .int .i64 0, .int .i64 0, .slice none 0 0] 30)).heap.size = w.heap.size + 1 := by simp
  rw [hpos] at HX
  have TL := Lib.hid (lift_ssa vs ab ao C (w.heap.size + 1) (faultVal' c) ((w.alloc (.cells #[.int .i64 0, .string { data := #[] }, .string { data := #[] }, .string { data := #[] }, .bool false, .int .i64 0, .int .i64 0, .int .i64 0, .slice none 0 0] 30)).alloc (.cells #[.int .i64 least, .int .i64 most, .string { data := #[115, 115, 97] }, .func (.func 278) #[] #[.pointer (some ⟨e0, 0, none⟩)]] 109)) h0 h9 hno0 hno1 HV.out HE.out ⟨rfl, rfl, rfl⟩
    (fun v hv W h => hC v hv W (HL.out.trans (h.mono HL.out.size))) (fun W g => check_fault c W h1 h2 g)
    (fun W g cap hbw hva => run1_stop (w.heap.size + 1) e0 (.slice (some ⟨g, 0, none⟩) vs.length cap) c W ⟨_, _, _, rfl⟩ h1 h2 (cell_below HX.out hbw) (HE.out.below hbw) (fun W' hb' => hK W' e0 g cap (HL.out.trans ((hbw.trans (hb'.mono hbw.size)).mono HL.out.size)) (HE.out.below (hbw.trans (hb'.mono hbw.size))) (HFN.out.below (hbw.trans (hb'.mono hbw.size))) (hva.below hb'))))
  obtain ⟨qq, hqq⟩ : ∃ z, (faultVal' c) = z := ⟨_, rfl⟩
  rw [hqq] at TL ⊢
  clear hqq hb hv hE hT hC hK hrf hfn hpos hfr hr hi h0 h9 hc1 hc2
  go_enter Tryz.func50, Tryz.ntmps50
  unfold Val.agg at TL ⊢
  go_wp2_with fail
  refine TL.out.mono ?_
  rintro e w2 ⟨rfl, hb2⟩
  replace HR := Lib.hid (keep_block HR.out hb2)
  replace HL := Lib.hid (HL.out.trans (hb2.mono HL.out.size))
  clear hb2
  obtain ⟨⟨r0, r1, r2, r3, r4, r5, r6, r7, r8⟩, g0, g1, g2, g3, g4, g5, g6, g7, g8⟩ := nine_at HR.out
  obtain ⟨nb, z0, z1, z2, z3, z4, z5, z6, z7, z8⟩ := nine_end (x0 := (.int .i64 qq.k)) (x1 := (.string qq.n)) (x2 := (.string qq.d)) (x3 := (.string qq.t)) (x4 := (.bool qq.on)) (x5 := (.int .i64 qq.c)) (x6 := (.int .i64 qq.r)) (x7 := (.int .i64 qq.s)) (x8 := (.slice qq.A qq.L qq.C)) HR.out HL.out (Nat.le_refl _)
  go_wp2
  refine bodyPost_ret (v := .tuple #[.agg #[.int .i64 qq.k, .string qq.n, .string qq.d, .string qq.t, .bool qq.on, .int .i64 qq.c, .int .i64 qq.r, .int .i64 qq.s, .slice qq.A qq.L qq.C], .int .i64 0]) (by simp [results, Tryz.results50, go_sem, z0, z1, z2, z3, z4, z5, z6, z7, z8]) rfl ⟨rfl, nb⟩
end Go.Proofs.YtphfefmlappidaaGreatDoor.Num.Fd

/- the law's call of fdate at a function of any values with a whole result. Conditions: the tables lie as they are laid. -/
namespace Go.Proofs.YtphfefmlappidaaGreatDoor.Num.Fd
open Go.RowKit Go.Lib Go.MapKept Num

theorem call_wv (i : Nat) (r : Row) (hi : i < allRows.length) (hr : allRows[i] = r) (hkd : r.kinds = { data := #[115] }) (hfr : ∀ j (hj : j < i), (allRows[i].name == (allRows[j]'(by omega)).name) = false) (hnum : r.num = true) (eF : ∀ args w, (callFunc r.fn args).run Tryz.prog w = .ok (.enter r.fn args) w) (vs : List Val) (ab ao C : Nat) (n : Int) (w : World) (h0 : 0 < vs.length) (h9 : vs.length ≤ 300) (hc1 : r.least ≤ vs.length) (hc2 : (vs.length : Int) ≤ r.most) (hno : ∀ v ∈ vs, (v.k == 5) = false) (hv : ValsAt w ab ao vs) (hE : Env w) (hck : ∀ v ∈ vs, ∀ W, Below w.heap.size w W → Calls Tryz.prog 48 #[v.agg] W fun e w' => e = .returned (.int .i64 0) ∧ Below W.heap.size W w') (hn : n.natAbs ≤ 1000000000000000000)
    (hF : ∀ W b g cap, Below w.heap.size w W → Env W → Past b → b < W.heap.size → g < W.heap.size → ArgsAt W b (some ⟨g, 0, none⟩) vs.length cap 0 → ValsAt W g 0 vs → g ≠ b → Calls Tryz.prog r.fn #[.pointer (some ⟨b, 0, none⟩)] W fun e w' => e = .returned (.int .i64 n) ∧ W.grownBy w' (some b)) :
    Calls Tryz.prog 20 #[.string r.name, .slice (some ⟨ab, ao, none⟩) vs.length C] w fun e w' => e = .returned (numVal (n : Rat)) ∧ Below w.heap.size w w' :=
  math_of r.name (.slice (some ⟨ab, ao, none⟩) vs.length C) (numVal' (n : Rat)) w ⟨_, _, _, rfl⟩ (fun W b hb hT =>
    run_s_val i r hi hr hkd hfr vs b ab ao C (numVal' (n : Rat)) W h0 h9 hc1 hc2 hno (hv.below hb) (hE.below hb) hT ⟨rfl, rfl, rfl, rfl, rfl⟩ (fun W g => check_num (n : Rat) W (fits_int n hn) g)
      (fun v hv' W' h => hck v hv' W' (hb.trans (h.mono hb.size)))
      (fun W' e g cap hb' hE' hfn hva => entryw_val r g cap e vs n W' hnum hfn eF hE' hva hn (fun W'' b' hb'' hE'' hP hlt ha hva' hne => hF W'' b' g cap (hb.trans ((hb'.trans (hb''.mono hb'.size)).mono hb.size)) hE'' hP hlt (cell_lt (hva'.at 0 h0).1) ha hva' hne) h0))

theorem call_wssa (i : Nat) (r : Row) (hi : i < allRows.length) (hr : allRows[i] = r) (hkd : r.kinds = { data := #[115, 115, 97] }) (hfr : ∀ j (hj : j < i), (allRows[i].name == (allRows[j]'(by omega)).name) = false) (hnum : r.num = true) (eF : ∀ args w, (callFunc r.fn args).run Tryz.prog w = .ok (.enter r.fn args) w) (vs : List Val) (ab ao C : Nat) (n : Int) (w : World) (h0 : 0 < vs.length) (h9 : vs.length ≤ 300) (hc1 : r.least ≤ vs.length) (hc2 : (vs.length : Int) ≤ r.most) (hno0 : ∀ (h : 0 < vs.length), (vs[0].k == 5) = false) (hno1 : ∀ (h : 1 < vs.length), (vs[1].k == 5) = false) (hv : ValsAt w ab ao vs) (hE : Env w) (hck : ∀ v ∈ vs, ∀ W, Below w.heap.size w W → Calls Tryz.prog 48 #[v.agg] W fun e w' => e = .returned (.int .i64 0) ∧ Below W.heap.size W w') (hn : n.natAbs ≤ 1000000000000000000)
    (hF : ∀ W b g cap, Below w.heap.size w W → Env W → Past b → b < W.heap.size → g < W.heap.size → ArgsAt W b (some ⟨g, 0, none⟩) vs.length cap 0 → ValsAt W g 0 vs → g ≠ b → Calls Tryz.prog r.fn #[.pointer (some ⟨b, 0, none⟩)] W fun e w' => e = .returned (.int .i64 n) ∧ W.grownBy w' (some b)) :
    Calls Tryz.prog 20 #[.string r.name, .slice (some ⟨ab, ao, none⟩) vs.length C] w fun e w' => e = .returned (numVal (n : Rat)) ∧ Below w.heap.size w w' :=
  math_of r.name (.slice (some ⟨ab, ao, none⟩) vs.length C) (numVal' (n : Rat)) w ⟨_, _, _, rfl⟩ (fun W b hb hT =>
    run_ssa_val i r hi hr hkd hfr vs b ab ao C (numVal' (n : Rat)) W h0 h9 hc1 hc2 hno0 hno1 (hv.below hb) (hE.below hb) hT ⟨rfl, rfl, rfl, rfl, rfl⟩ (fun W g => check_num (n : Rat) W (fits_int n hn) g)
      (fun v hv' W' h => hck v hv' W' (hb.trans (h.mono hb.size)))
      (fun W' e g cap hb' hE' hfn hva => entryw_val r g cap e vs n W' hnum hfn eF hE' hva hn (fun W'' b' hb'' hE'' hP hlt ha hva' hne => hF W'' b' g cap (hb.trans ((hb'.trans (hb''.mono hb'.size)).mono hb.size)) hE'' hP hlt (cell_lt (hva'.at 0 h0).1) ha hva' hne) h0))
end Go.Proofs.YtphfefmlappidaaGreatDoor.Num.Fd

/- the law's date at EDATE, EOMONTH, DATEDIF. Conditions: the tables lie as they are laid. -/
namespace Go.Proofs.YtphfefmlappidaaGreatDoor.Num.Fd
open Go.RowKit Go.Lib Go.MapKept Num

theorem d_EDATE (ab ao C : Nat) (w : World) (q0 q1 : Rat) (n y d m j : Int) (k : Nat) (hd : IsDate n y k d) (hm : 12 * y + k + j = m) (h0 : 22800 ≤ m) (h1 : m ≤ 119999) (hq0 : fits q0 = true) (hN0 : q0.floor = n) (hq1 : fits q1 = true) (hN1 : q1.floor = j) (hv : ValsAt w ab ao (numVals [q0, q1])) (hE : Env w) :
    Calls Tryz.prog 20 #[.string { data := #[69, 68, 65, 84, 69] }, .slice (some ⟨ab, ao, none⟩) 2 C] w fun e w' => e = .returned (numVal ((edateNo m d : Int) : Rat)) ∧ Below w.heap.size w w' :=
  call_w 14 ⟨{ data := #[69, 68, 65, 84, 69] }, 2, 2, { data := #[115] }, true, 175⟩ (by decide) rfl rfl (fr_of 14 (by decide) (by kernel_rfl)) rfl (enters_of Tryz.func175 (by kernel_rfl) rfl) [q0, q1] ab ao C (edateNo m d) w (show 0 < 2 from by decide) (show 2 ≤ 300 from by decide) (show (2 : Int) ≤ 2 from by decide) (show (2 : Int) ≤ 2 from by decide) hv hE (by intro x hx; simp only [List.mem_cons, List.not_mem_nil, or_false] at hx; rcases hx with rfl | rfl; exact hq0; exact hq1) (by have := (edate_is h0 h1 hd.d0).range; omega)
    (fun W b g cap hE' hP hlt hgl ha hn hne => fd_EDATE b g cap W q0 q1 n y d m j k hd hm h0 h1 hq0 hN0 hq1 hN1 ha hne (hn 0 (show 0 < 2 from by decide)) (hn 1 (show 1 < 2 from by decide)) hE' hP)

theorem d_EOMONTH (ab ao C : Nat) (w : World) (q0 q1 : Rat) (n y d m j : Int) (k : Nat) (hd : IsDate n y k d) (hm : 12 * y + k + j = m) (h0 : 22800 ≤ m) (h1 : m ≤ 119999) (hq0 : fits q0 = true) (hN0 : q0.floor = n) (hq1 : fits q1 = true) (hN1 : q1.floor = j) (hv : ValsAt w ab ao (numVals [q0, q1])) (hE : Env w) :
    Calls Tryz.prog 20 #[.string { data := #[69, 79, 77, 79, 78, 84, 72] }, .slice (some ⟨ab, ao, none⟩) 2 C] w fun e w' => e = .returned (numVal ((eomNo m : Int) : Rat)) ∧ Below w.heap.size w w' :=
  call_w 15 ⟨{ data := #[69, 79, 77, 79, 78, 84, 72] }, 2, 2, { data := #[115] }, true, 177⟩ (by decide) rfl rfl (fr_of 15 (by decide) (by kernel_rfl)) rfl (enters_of Tryz.func177 (by kernel_rfl) rfl) [q0, q1] ab ao C (eomNo m) w (show 0 < 2 from by decide) (show 2 ≤ 300 from by decide) (show (2 : Int) ≤ 2 from by decide) (show (2 : Int) ≤ 2 from by decide) hv hE (by intro x hx; simp only [List.mem_cons, List.not_mem_nil, or_false] at hx; rcases hx with rfl | rfl; exact hq0; exact hq1) (by have := (eom_is h0 h1).range; omega)
    (fun W b g cap hE' hP hlt hgl ha hn hne => fd_EOMONTH b g cap W q0 q1 n y d m j k hd hm h0 h1 hq0 hN0 hq1 hN1 ha hne (hn 0 (show 0 < 2 from by decide)) (hn 1 (show 1 < 2 from by decide)) hE' hP)

/-- the text D as a value -/
def valD : Val := ⟨2, { data := #[] }, { data := #[] }, { data := #[68] }, false, 0, 0, 0, none, 0, 0⟩
theorem d_DATEDIF (ab ao C : Nat) (w : World) (q0 q1 : Rat) (p q y d z f : Int) (k l : Nat) (hp : IsDate p y k d) (hz : IsDate q z l f) (hpq : p ≤ q) (hed : edateNo (12 * z + l) d ≤ q) (hq0 : fits q0 = true) (hN0 : q0.floor = p) (hq1 : fits q1 = true) (hN1 : q1.floor = q) (hv : ValsAt w ab ao [numVal' q0, numVal' q1, valD]) (hE : Env w) :
    Calls Tryz.prog 20 #[.string { data := #[68, 65, 84, 69, 68, 73, 70] }, .slice (some ⟨ab, ao, none⟩) 3 C] w fun e w' => e = .returned (numVal ((q - p : Int) : Rat)) ∧ Below w.heap.size w w' :=
  call_wv 16 ⟨{ data := #[68, 65, 84, 69, 68, 73, 70] }, 3, 3, { data := #[115] }, true, 178⟩ (by decide) rfl rfl (fr_of 16 (by decide) (by kernel_rfl)) rfl (enters_of Tryz.func178 (by kernel_rfl) rfl) [numVal' q0, numVal' q1, valD] ab ao C (q - p) w (show 0 < 3 from by decide) (show 3 ≤ 300 from by decide) (show (3 : Int) ≤ 3 from by decide) (show (3 : Int) ≤ 3 from by decide)
    (by intro v hv; simp only [List.mem_cons, List.not_mem_nil, or_false] at hv; rcases hv with rfl | rfl | rfl <;> rfl) hv hE
    (by
      intro v hv W hb
      simp only [List.mem_cons, List.not_mem_nil, or_false] at hv
      rcases hv with rfl | rfl | rfl
      · exact check_num q0 W hq0 (hE.below hb)
      · exact check_num q1 W hq1 (hE.below hb)
      · exact check_D W)
    (by have := hp.range; have := hz.range; omega)
    (fun W b g cap hb hE' hP hlt hgl ha hva hne => fd_DATEDIF b g cap W q0 q1 p q y d z f k l hp hz hpq hed (hva.at 2 (show 2 < 3 by decide)) hq0 hN0 hq1 hN1 ha hne (vals_num hva 0 (show 0 < 3 by decide) q0 rfl) (vals_num hva 1 (show 1 < 3 by decide) q1 rfl) hE' hP)
end Go.Proofs.YtphfefmlappidaaGreatDoor.Num.Fd
