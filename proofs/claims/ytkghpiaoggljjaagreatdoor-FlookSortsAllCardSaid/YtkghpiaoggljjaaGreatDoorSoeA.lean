/- Numbers as texts of digits, fractions, values and the functions of fmath: contracts of the program's functions, joined from smaller texts. Conditions stand at each theorem. -/
import Derived.Test.YtkghpiaoggljjaaGreatDoorSodB
import Derived.Test.YtkghpiaoggljjaaGreatDoorSodA
import Derived.BigQuiet
import Derived.Test.YtkghpiaoggljjaaGreatDoorNumG
import Derived.Below
import Derived.OneCell
import Derived.Lib.MinMax
import Derived.Deep.RegionLaw
import Derived.Test.YtkghpiaoggljjaaGreatDoorSocA
import Derived.Test.YtkghpiaoggljjaaGreatDoorSoaB
import Derived.Deep.DeepCutAuto
set_option linter.unusedVariables false
set_option linter.unusedSimpArgs false

/- Results that are arrays of rows and columns: valid, and Run's closure at a bare function. Conditions: the tables lie as they are laid; at most 1000 numbers. -/
namespace Go.Proofs.YtkghpiaoggljjaaGreatDoor.Num
open Go.RowKit Go.Lib Num

set_option maxHeartbeats 4000000 in
set_option maxRecDepth 100000 in
theorem valid_tab (k : Int) (n d t : ByteArray) (on : Bool) (c r s : Int) (A : Option Addr) (L C : Nat) (w : World) (hC : ∀ W, Below w.heap.size w W → Env W → Calls Tryz.prog 24 #[.agg #[.int .i64 k, .string n, .string d, .string t, .bool on, .int .i64 c, .int .i64 r, .int .i64 s, .slice A L C]] W fun e w' => e = .returned (.int .i64 0) ∧ Below W.heap.size W w') (hE : Env w) :
  Calls Tryz.prog 116 #[.agg #[.int .i64 k, .string n, .string d, .string t, .bool on, .int .i64 c, .int .i64 r, .int .i64 s, .slice A L C]] w fun e w' => e = .returned (.agg #[.int .i64 k, .string n, .string d, .string t, .bool on, .int .i64 c, .int .i64 r, .int .i64 s, .slice A L C]) ∧ Below w.heap.size w w' := by
 have TC := Lib.hid hC
 clear hC
 obtain ⟨hx, hr, hb⟩ := two_new w (.cells #[.int .i64 k, .string n, .string d, .string t, .bool on, .int .i64 c, .int .i64 r, .int .i64 s, .slice A L C] 27) (.cells #[.int .i64 0, .string { data := #[] }, .string { data := #[] }, .string { data := #[] }, .bool false, .int .i64 0, .int .i64 0, .int .i64 0, .slice none 0 0] 27)
 have HX := Lib.hid hx
 have HR := Lib.hid hr
 have HL := Lib.hid hb
 have HE := Lib.hid (hE.below hb)
 clear hx hr hb hE
 go_enter Tryz.func116, Tryz.ntmps116
 go_wp2_with fail
 refine (TC.out _ HL.out HE.out).mono ?_
 rintro e W1 ⟨rfl, hb⟩
 replace HX := Lib.hid (keep_block HX.out hb)
 replace HR := Lib.hid (keep_block HR.out hb)
 replace HL := Lib.hid (HL.out.trans (hb.mono HL.out.size))
 clear hb
 obtain ⟨⟨x0, x1, x2, x3, x4, x5, x6, x7, x8⟩, _⟩ := nine_at HX.out
 obtain ⟨⟨r0, r1, r2, r3, r4, r5, r6, r7, r8⟩, g0, g1, g2, g3, g4, g5, g6, g7, g8⟩ := nine_at HR.out
 obtain ⟨nb, e0, e1, e2, e3, e4, e5, e6, e7, e8⟩ := nine_end (x0 := (.int .i64 k)) (x1 := (.string n)) (x2 := (.string d)) (x3 := (.string t)) (x4 := (.bool on)) (x5 := (.int .i64 c)) (x6 := (.int .i64 r)) (x7 := (.int .i64 s)) (x8 := (.slice A L C)) HR.out HL.out (by omega)
 go_wp2
 refine bodyPost_ret (v := .agg #[.int .i64 k, .string n, .string d, .string t, .bool on, .int .i64 c, .int .i64 r, .int .i64 s, .slice A L C]) (by simp [results, Tryz.results116, go_sem, e0, e1, e2, e3, e4, e5, e6, e7, e8]) rfl ⟨rfl, nb⟩

set_option maxHeartbeats 4000000 in
set_option maxRecDepth 100000 in
theorem vtab_any (r s : Nat) (A : Option Addr) (L C : Nat) (W : World) (h0 : 1 ≤ r) (h1 : r ≤ 1000) (h2 : 1 ≤ s) (h3 : s ≤ 100) :
  Calls Tryz.prog 131 #[.int .i64 (r : Int), .int .i64 (s : Int), .slice A L C] W fun e w' => e = .returned (.agg #[.int .i64 5, .string { data := #[] }, .string { data := #[] }, .string { data := #[] }, .bool false, .int .i64 0, .int .i64 (r : Int), .int .i64 (s : Int), .slice A L C]) ∧ Below W.heap.size W w' := by
 have d0 : decide ((r : Int) < 1) = false := decide_eq_false (by omega)
 have d1 : decide ((s : Int) < 1) = false := decide_eq_false (by omega)
 have d2 : decide ((100000 : Int) < (r : Int)) = false := decide_eq_false (by omega)
 have e0 : decide (r < 1) = false := decide_eq_false (by omega)
 have e1 : decide (s < 1) = false := decide_eq_false (by omega)
 have e2 : decide (100000 < r) = false := decide_eq_false (by omega)
 have e3 : decide (r = 0) = false := decide_eq_false (by omega)
 have e4 : decide (s = 0) = false := decide_eq_false (by omega)
 have e5 : (r = 0) = False := eq_false (by omega)
 have e6 : (s = 0) = False := eq_false (by omega)
 have hr0 : ((r : Int) = 0) = False := eq_false (by omega)
 have hq : 100 ≤ (100000 : Int) / (r : Int) := (Int.le_ediv_iff_mul_le (by omega)).2 (by omega)
 have hq2 : (100000 : Int) / (r : Int) ≤ 100000 := Int.ediv_le_self _ (by omega)
 have hqt : (100000 : Int).tdiv (r : Int) = (100000 : Int) / (r : Int) := Int.tdiv_eq_ediv_of_nonneg (by omega)
 obtain ⟨q, hqq⟩ : ∃ q, (100000 : Int) / (r : Int) = q := ⟨_, rfl⟩
 rw [hqq] at hq hq2 hqt
 have hqw : IntKind.i64.wrap q = q := IntWalk.i64_in _ (by omega)
 have d3 : decide (q < (s : Int)) = false := decide_eq_false (by omega)
 have HX := Lib.hid (heap_alloc_new W (.cells #[.int .i64 0, .string { data := #[] }, .string { data := #[] }, .string { data := #[] }, .bool false, .int .i64 0, .int .i64 0, .int .i64 0, .slice none 0 0] 27))
 have hlow := Lib.hid (show Below W.heap.size W (W.alloc (.cells #[.int .i64 0, .string { data := #[] }, .string { data := #[] }, .string { data := #[] }, .bool false, .int .i64 0, .int .i64 0, .int .i64 0, .slice none 0 0] 27)) from (Below.refl _ _).alloc (Nat.le_refl _) _)
 obtain ⟨R, hR⟩ : ∃ R, W.heap.size = R := ⟨_, rfl⟩
 obtain ⟨W0, hW0⟩ : ∃ Z, (W.alloc (.cells #[.int .i64 0, .string { data := #[] }, .string { data := #[] }, .string { data := #[] }, .bool false, .int .i64 0, .int .i64 0, .int .i64 0, .slice none 0 0] 27)) = Z := ⟨_, rfl⟩
 rw [hW0] at HX hlow
 have EW0 := Lib.hid hW0
 have HR := Lib.hid hR
 rw [hR] at HX
 clear hW0 hR h0 h1 h2 h3 hq hq2
 go_enter Tryz.func131, Tryz.ntmps131
 go_upto_region 1 with fail
 rw [EW0.out, HR.out]
 go_upto_region 5 with fail
 obtain ⟨⟨x0, x1, x2, x3, x4, x5, x6, x7, x8⟩, y0, y1, y2, y3, y4, y5, y6, y7, y8⟩ := nine_at HX.out
 obtain ⟨nb, z0, z1, z2, z3, z4, z5, z6, z7, z8⟩ := nine_end (x0 := (.int .i64 5)) (x1 := (.string { data := #[] })) (x2 := (.string { data := #[] })) (x3 := (.string { data := #[] })) (x4 := (.bool false)) (x5 := (.int .i64 0)) (x6 := (.int .i64 (r : Int))) (x7 := (.int .i64 (s : Int))) (x8 := (.slice A L C)) HX.out hlow.out (Nat.le_of_eq HR.out)
 have NB := Lib.hid nb
 clear nb
 go_wp2
 refine bodyPost_ret (v := .agg #[.int .i64 5, .string { data := #[] }, .string { data := #[] }, .string { data := #[] }, .bool false, .int .i64 0, .int .i64 (r : Int), .int .i64 (s : Int), .slice A L C]) (by simp [results, Tryz.results131, go_sem, z0, z1, z2, z3, z4, z5, z6, z7, z8]) rfl ⟨rfl, NB.out⟩
end Go.Proofs.YtkghpiaoggljjaaGreatDoor.Num

/- package flook: an array as a struct: Size, stop, grid, row, value. Conditions: sizes from 1 on. -/
namespace Go.Proofs.YtkghpiaoggljjaaGreatDoor.Num.Fl
open Go.RowKit Go.Lib Num

theorem stop_no (c : Int) (w : World) : Calls Tryz.prog 124 #[.bool false, .int .i64 c] w fun e w' => e = .returned (.tuple #[]) ∧ w' = w := by
 go_enter Tryz.func124, Tryz.ntmps124
 go_wp2
 go_end0
 exact ⟨rfl, rfl⟩
/-- an array of r rows and s columns as a value's cells -/
def arrC (r s : Int) (A : Option Addr) (L C : Nat) : Value := .agg #[.int .i64 5, .string { data := #[] }, .string { data := #[] }, .string { data := #[] }, .bool false, .int .i64 0, .int .i64 r, .int .i64 s, .slice A L C]
set_option maxHeartbeats 4000000 in
set_option maxRecDepth 100000 in
theorem size_arr (r s : Int) (A : Option Addr) (L C : Nat) (w : World) : Calls Tryz.prog 129 #[arrC r s A L C] w fun e w' => e = .returned (.tuple #[.int .i64 r, .int .i64 s]) ∧ Below w.heap.size w w' := by
 unfold arrC
 have hb : Below w.heap.size w (w.alloc (.cells #[.int .i64 5, .string { data := #[] }, .string { data := #[] }, .string { data := #[] }, .bool false, .int .i64 0, .int .i64 r, .int .i64 s, .slice A L C] 27)) := (Below.refl _ _).alloc (Nat.le_refl _) _
 have HX := Lib.hid (heap_alloc_new w (.cells #[.int .i64 5, .string { data := #[] }, .string { data := #[] }, .string { data := #[] }, .bool false, .int .i64 0, .int .i64 r, .int .i64 s, .slice A L C] 27))
 have HL := Lib.hid hb
 clear hb
 obtain ⟨W0, hW⟩ : ∃ Z, w.alloc (.cells #[.int .i64 5, .string { data := #[] }, .string { data := #[] }, .string { data := #[] }, .bool false, .int .i64 0, .int .i64 r, .int .i64 s, .slice A L C] 27) = Z := ⟨_, rfl⟩
 rw [hW] at HX HL
 obtain ⟨B, hB⟩ : ∃ B, w.heap.size = B := ⟨_, rfl⟩
 rw [hB] at HX HL ⊢
 have EW := Lib.hid hW
 have EB := Lib.hid hB
 clear hW hB
 obtain ⟨⟨x0, x1, x2, x3, x4, x5, x6, x7, x8⟩, _⟩ := nine_at HX.out
 go_enter Tryz.func129, Tryz.ntmps129
 go_upto_region 1 with fail
 rw [EW.out, EB.out]
 go_wp2_with fail
 go_quiet (fail)
 have HL2 := Lib.hid (below_drewN HL.out nq)
 go_wp2
 go_ret2
 exact ⟨rfl, HL2.out⟩
/-- the struct of an array -/
def gridC (r s : Int) (A : Option Addr) (L C : Nat) : Value := .agg #[.int .i64 r, .int .i64 s, .slice A L C]
set_option maxHeartbeats 4000000 in
set_option maxRecDepth 100000 in
theorem grid_arr (r s : Int) (g L C : Nat) (w : World) : Calls Tryz.prog 45 #[arrC r s (some ⟨g, 0, none⟩) L C] w fun e w' => e = .returned (gridC r s (some ⟨g, 0, none⟩) L C) ∧ Below w.heap.size w w' := by
 have TS := Lib.hid (fun W => size_arr r s (some ⟨g, 0, none⟩) L C W)
 unfold arrC at TS ⊢
 unfold gridC
 obtain ⟨hx, hr, hb⟩ := two_new w (.cells #[.int .i64 5, .string { data := #[] }, .string { data := #[] }, .string { data := #[] }, .bool false, .int .i64 0, .int .i64 r, .int .i64 s, .slice (some ⟨g, 0, none⟩) L C] 27) (.cells #[.int .i64 0, .int .i64 0, .slice none 0 0] 69)
 have HX := Lib.hid hx
 have HR := Lib.hid hr
 have HL := Lib.hid hb
 clear hx hr hb
 obtain ⟨⟨x0, x1, x2, x3, x4, x5, x6, x7, x8⟩, _⟩ := nine_at HX.out
 go_enter Tryz.func45, Tryz.ntmps45
 go_wp2_with fail
 refine (TS.out _).mono ?_
 rintro e w1 ⟨rfl, hq⟩
 replace HX := Lib.hid (keep_block HX.out hq)
 replace HR := Lib.hid (keep_block HR.out hq)
 replace HL := Lib.hid (HL.out.trans (hq.mono HL.out.size))
 clear hq x0 x1 x2 x3 x4 x5 x6 x7 x8
 obtain ⟨⟨x0, x1, x2, x3, x4, x5, x6, x7, x8⟩, _⟩ := nine_at HX.out
 go_wp2_with fail
 refine (list_arr r s g L C _).mono ?_
 rintro e w2 ⟨rfl, hq⟩
 replace HR := Lib.hid (keep_block HR.out hq)
 replace HL := Lib.hid (HL.out.trans (hq.mono HL.out.size))
 clear hq x0 x1 x2 x3 x4 x5 x6 x7 x8
 have r0 := Lib.cell_of_heap HR.out 0
 have r1 := Lib.cell_of_heap HR.out 1
 have r2 := Lib.cell_of_heap HR.out 2
 have g0 := Lib.frozen_of_heap HR.out 0
 have g1 := Lib.frozen_of_heap HR.out 1
 have g2 := Lib.frozen_of_heap HR.out 2
 have hf := heap_setCell_at (heap_setCell_at (heap_setCell_at HR.out 0 (.int .i64 r)) 1 (.int .i64 s)) 2 (.slice (some ⟨g, 0, none⟩) L C)
 have HF := Lib.hid hf
 have HG := Lib.hid (((HL.out.setCell (p := ⟨w.heap.size + 1, 0, none⟩) (Nat.le_succ _) (.int .i64 r)).setCell (p := ⟨w.heap.size + 1, 1, none⟩) (Nat.le_succ _) (.int .i64 s)).setCell (p := ⟨w.heap.size + 1, 2, none⟩) (Nat.le_succ _) (.slice (some ⟨g, 0, none⟩) L C))
 have z0 := Lib.cell_of_heap HF.out 0
 have z1 := Lib.cell_of_heap HF.out 1
 have z2 := Lib.cell_of_heap HF.out 2
 clear hf
 go_wp2
 refine bodyPost_ret (v := .agg #[.int .i64 r, .int .i64 s, .slice (some ⟨g, 0, none⟩) L C]) (by simp [results, Tryz.results45, go_sem, z0, z1, z2]) rfl ⟨rfl, HG.out⟩
set_option maxHeartbeats 4000000 in
set_option maxRecDepth 100000 in
theorem row_arr (r s i g L C : Nat) (w : World) (hi : i < r) (hs : 1 ≤ s) (hL : r * s = L) (hLC : L ≤ C) (h9 : L ≤ 1000) : Calls Tryz.prog 128 #[gridC (r : Int) (s : Int) (some ⟨g, 0, none⟩) L C, .int .i64 (i : Int)] w fun e w' => e = .returned (.slice (some ⟨g, i * s * 9, none⟩) s (C - i * s)) ∧ Below w.heap.size w w' := by
 unfold gridC
 have hb : Below w.heap.size w (w.alloc (.cells #[.int .i64 (r : Int), .int .i64 (s : Int), .slice (some ⟨g, 0, none⟩) L C] 69)) := (Below.refl _ _).alloc (Nat.le_refl _) _
 have HX := Lib.hid (heap_alloc_new w (.cells #[.int .i64 (r : Int), .int .i64 (s : Int), .slice (some ⟨g, 0, none⟩) L C] 69))
 have HL := Lib.hid hb
 obtain ⟨a, ha⟩ : ∃ a, i * s = a := ⟨_, rfl⟩
 obtain ⟨b, hbb⟩ : ∃ b, (i + 1) * s = b := ⟨_, rfl⟩
 have hab : a + s = b := by rw [← ha, ← hbb, Nat.add_mul, Nat.one_mul]
 have hbL : b ≤ L := by rw [← hbb, ← hL]; exact Nat.mul_le_mul hi (Nat.le_refl _)
 have e1 : (i : Int) * (s : Int) = (a : Int) := by rw [← ha, Int.natCast_mul]
 have e2 : ((i : Int) + 1) * (s : Int) = (b : Int) := by rw [← hbb, Int.natCast_mul]; rfl
 have hw1 : IntKind.i64.wrap (a : Int) = (a : Int) := IntWalk.i64_in _ (by omega)
 have hw2 : IntKind.i64.wrap (b : Int) = (b : Int) := IntWalk.i64_in _ (by omega)
 have hri : i ≤ 1000 := by
  have : r ≤ r * s := Nat.le_mul_of_pos_right r hs
  omega
 have hw3 : IntKind.i64.wrap ((i : Int) + 1) = (i : Int) + 1 := IntWalk.i64_in _ (by omega)
 rw [ha]
 have x0 := Lib.cell_of_heap HX.out 0
 have x1 := Lib.cell_of_heap HX.out 1
 have x2 := Lib.cell_of_heap HX.out 2
 clear hb ha hbb hi
 go_enter Tryz.func128, Tryz.ntmps128
 go_wp2
 rw [show b - a = s by omega]
 go_ret
 exact ⟨rfl, (Below.refl _ _).alloc (Nat.le_refl _) _⟩
set_option maxHeartbeats 4000000 in
set_option maxRecDepth 100000 in
theorem value_arr (r s : Nat) (A : Option Addr) (L C : Nat) (w : World) (h0 : 1 ≤ r) (h1 : r ≤ 1000) (h2 : 1 ≤ s) (h3 : s ≤ 100) : Calls Tryz.prog 50 #[gridC (r : Int) (s : Int) A L C] w fun e w' => e = .returned (arrC (r : Int) (s : Int) A L C) ∧ Below w.heap.size w w' := by
 have TT := Lib.hid (fun W => vtab_any r s A L C W h0 h1 h2 h3)
 unfold gridC arrC
 obtain ⟨hx, hr, hb⟩ := two_new w (.cells #[.int .i64 (r : Int), .int .i64 (s : Int), .slice A L C] 69) (.cells #[.int .i64 0, .string { data := #[] }, .string { data := #[] }, .string { data := #[] }, .bool false, .int .i64 0, .int .i64 0, .int .i64 0, .slice none 0 0] 27)
 have HX := Lib.hid hx
 have HR := Lib.hid hr
 have HL := Lib.hid hb
 have d0 : decide ((r : Int) < 1) = false := decide_eq_false (by omega)
 have d1 : decide ((s : Int) < 1) = false := decide_eq_false (by omega)
 have e0 : decide (r < 1) = false := decide_eq_false (by omega)
 have e1 : decide (s < 1) = false := decide_eq_false (by omega)
 have e2 : decide (r = 0) = false := decide_eq_false (by omega)
 have e3 : decide (s = 0) = false := decide_eq_false (by omega)
 have e4 : (r = 0) = False := eq_false (by omega)
 have e5 : (s = 0) = False := eq_false (by omega)
 have x0 := Lib.cell_of_heap HX.out 0
 have x1 := Lib.cell_of_heap HX.out 1
 clear hx hr hb h0 h1 h2 h3
 go_enter Tryz.func50, Tryz.ntmps50
 go_wp2_with fail
 refine (stop_no 6 _).mono ?_
 rintro e w1 ⟨rfl, hw⟩
 replace hw := hw.symm
 subst hw
 have x2 := Lib.cell_of_heap HX.out 2
 go_wp2_with fail
 refine (TT.out _).mono ?_
 rintro e w1 ⟨rfl, hq⟩
 replace HR := Lib.hid (keep_block HR.out hq)
 replace HL := Lib.hid (HL.out.trans (hq.mono HL.out.size))
 clear hq x0 x1 x2
 obtain ⟨⟨r0, r1, r2, r3, r4, r5, r6, r7, r8⟩, g0, g1, g2, g3, g4, g5, g6, g7, g8⟩ := nine_at HR.out
 obtain ⟨nb, z0, z1, z2, z3, z4, z5, z6, z7, z8⟩ := nine_end (x0 := (.int .i64 5)) (x1 := (.string { data := #[] })) (x2 := (.string { data := #[] })) (x3 := (.string { data := #[] })) (x4 := (.bool false)) (x5 := (.int .i64 0)) (x6 := (.int .i64 (r : Int))) (x7 := (.int .i64 (s : Int))) (x8 := (.slice A L C)) HR.out HL.out (Nat.le_succ _)
 have NB := Lib.hid nb
 clear nb
 go_wp2
 refine bodyPost_ret (v := .agg #[.int .i64 5, .string { data := #[] }, .string { data := #[] }, .string { data := #[] }, .bool false, .int .i64 0, .int .i64 (r : Int), .int .i64 (s : Int), .slice A L C]) (by simp [results, Tryz.results50, go_sem, z0, z1, z2, z3, z4, z5, z6, z7, z8]) rfl ⟨rfl, NB.out⟩
end Go.Proofs.YtkghpiaoggljjaaGreatDoor.Num.Fl

/- A value that holds an array whose row of items grows: the value's block, the row. No conditions. -/
namespace Go.Proofs.YtkghpiaoggljjaaGreatDoor.Num
open Go.RowKit Go.Lib

/-- append to a row of the call's own, as one step of a region that draws -/
theorem step_append_rowx {P : Program} {ops : Array Oper} {o : Oper} {a : Act} {w : World} {K : Act → World → Prop} {Q : Exit → Act → World → Prop} {E : Prop} (hgd : o.guard = none) (s x : Operand) (t : TypeId)
  (ho : o.op = .call { callee := .builtin .append, args := #[s, x], argTypes := #[t, t] })
  (base : Nat) (e : TypeId) (i : TypeInfo) (z : Value) (size bytes : Nat) (ht : P.underlying t = some (.slice e)) (hi : P.info? e = some i) (hz : i.zero = some z)
  (hsize : i.size = size) (hby : i.bytes = bytes) (hzs : z.cells.size = size) (hsz : 0 < size)
  (v : Value) (n : Nat) (xs : List Value) (hs : a.eval s = v) (hown : w.ownsRow base e size v n xs)
  (ad : Addr) (m c : Nat) (news : List Value) (hx : a.eval x = .slice (some ad) m c) (hl : news.length = m * size) (hnews : ∀ j u, news[j]? = some u → w.cell? (ad.add j) = some u) (h1 : ∀ u ∈ news, u.oneCell' = true)
  (h63 : n + m ≤ maxLen) (hbytes : (n + m) * bytes ≤ 140737488355328) (hbase : base ≤ w.heap.size)
  (hK : ∀ v' w', w'.ownsRow base e size v' (n + m) (xs ++ news) → w.grownBy w' v.ownBlock → K (a.put o.dst v') w') :
  if Region.wanted o (yielded ops a.tmps) = true then Oper.wp P o a w K Q else E := by
 have hw : Region.wanted o (yielded ops a.tmps) = true := by simp [Region.wanted, hgd]
 rw [if_pos hw]
 exact wp_append_own w s x t ho base e i z size bytes ht hi hz hsize hby hzs hsz v n xs hs hown ad m c news hx hl hnews h1 h63 hbytes hbase fun v' w' h2 h3 _ => hK v' w' h2 h3

/-- nine stores behind one another -/
def put9 (W : World) (g o : Nat) (x0 x1 x2 x3 x4 x5 x6 x7 x8 : Value) : World :=
 ((((((((W.setCell ⟨g, o, none⟩ x0).setCell ⟨g, o + 1, none⟩ x1).setCell ⟨g, o + 2, none⟩ x2).setCell ⟨g, o + 3, none⟩ x3).setCell ⟨g, o + 4, none⟩ x4).setCell ⟨g, o + 5, none⟩ x5).setCell ⟨g, o + 6, none⟩ x6).setCell ⟨g, o + 7, none⟩ x7).setCell ⟨g, o + 8, none⟩ x8
/-- the value's block B (r rows, c columns, items bv), the row v of n items -/
structure RowX (w : World) (B : Nat) (r c : Int) (bv v : Value) (n : Nat) (xs : List Value) (W : World) : Prop where
 box : W.heap[B]? = some (.cells #[.int .i64 5, .string { data := #[] }, .string { data := #[] }, .string { data := #[] }, .bool false, .int .i64 0, .int .i64 r, .int .i64 c, bv] 27 (0, 0))
 low : Below w.heap.size w W
 ge : w.heap.size ≤ B
 own : W.ownsRow w.heap.size 27 9 v n xs
 one : v = .slice none 0 0 ∨ xs[0]? = some (.int .i64 1)
theorem RowX.ge_own {w W : World} {B n : Nat} {r c : Int} {bv v : Value} {xs : List Value} (h : RowX w B r c bv v n xs W) : ∀ b, v.ownBlock = some b → w.heap.size ≤ b := by
 intro b hb
 rcases h.own.2 with ⟨rfl, _⟩ | ⟨g, cap, cur, rfl, hg, _⟩
 ·simp [Value.ownBlock] at hb
 ·simp [Value.ownBlock] at hb; omega
theorem flat_snoc (qs : List Rat) (q : Rat) : flat (numVals (qs ++ [q])) = flat (numVals qs) ++ [.int .i64 1, .string (numS q), .string (denS q), .string { data := #[] }, .bool false, .int .i64 0, .int .i64 0, .int .i64 0, .slice none 0 0] := by simp [numVals, flat, numVal', Val.cells]
end Go.Proofs.YtkghpiaoggljjaaGreatDoor.Num

/- package flook: turned: an array of numbers, its columns as rows. Conditions: sizes from 1 on; the numbers lie in memory. -/
namespace Go.Proofs.YtkghpiaoggljjaaGreatDoor.Num.Fl
open Go.RowKit Go.Lib Num
attribute [local irreducible] wpOp
theorem eqi {i k : Nat} (h : i < k + 1) (g : k ≤ i) : i = k := Nat.le_antisymm (Nat.le_of_lt_succ h) g
set_option linter.defProp false in
def layL := And.intro @layT_some (And.intro @layT_none (And.intro @layT_nil (And.intro (@List.setIfInBounds_toArray Value) (And.intro (@List.set_cons_zero Value) (@List.set_cons_succ Value)))))
/-- column j; the first j columns behind one another -/
def colL (qs : List Rat) (r s j : Nat) : List Rat := (List.range r).map fun i => qs.getD (i * s + j) 0
def turnL (qs : List Rat) (r s j : Nat) : List Rat := (List.range j).flatMap (colL qs r s)
theorem turnL_succ (qs : List Rat) (r s j : Nat) : turnL qs r s (j + 1) = turnL qs r s j ++ colL qs r s j := by
 unfold turnL
 rw [List.range_succ, List.flatMap_append]; simp
theorem colL_len (qs : List Rat) (r s j : Nat) : (colL qs r s j).length = r := by simp [colL]
theorem turnL_len (qs : List Rat) (r s : Nat) : ∀ j, (turnL qs r s j).length = j * r
 | 0 => by simp [turnL]
 | j + 1 => by rw [turnL_succ, List.length_append, turnL_len qs r s j, colL_len, Nat.succ_mul]
theorem colL_take (qs : List Rat) (r s j i m : Nat) (x : Rat) (hi : i < r) (hm : i * s + j = m) (h : m < qs.length) (hx : qs[m] = x) : (colL qs r s j).take (i + 1) = (colL qs r s j).take i ++ [x] := by
 rw [List.take_succ_eq_append_getElem (by rw [colL_len]; exact hi)]
 congr 2
 simp [colL, hm, hx, List.getD, List.getElem?_eq_getElem h]
/-- the source (block A), the result (the next one), the array that is built (the one behind it), its row -/
structure TrI (w : World) (r s : Nat) (src bv v : Value) (n : Nat) (xs : List Value) (W : World) : Prop where
 src : W.heap[w.heap.size]? = some (.cells #[.int .i64 (r : Int), .int .i64 (s : Int), src] 69 (0, 0))
 res : W.heap[w.heap.size + 1]? = some (.cells #[.int .i64 0, .int .i64 0, .slice none 0 0] 69 (0, 0))
 box : W.heap[w.heap.size + 1 + 1]? = some (.cells #[.int .i64 (s : Int), .int .i64 (r : Int), bv] 69 (0, 0))
 low : Below w.heap.size w W
 own : W.ownsRow w.heap.size 27 9 v n xs
section
variable {w W W' : World} {r s n m : Nat} {src bv v v' : Value} {xs ys : List Value}
theorem TrI.len (h : TrI w r s src bv v n xs W) : xs.length = n * 9 := h.own.1
theorem TrI.ge_own (h : TrI w r s src bv v n xs W) : ∀ b, v.ownBlock = some b → w.heap.size ≤ b := by
 intro b hb
 rcases h.own.2 with ⟨rfl, _⟩ | ⟨g, cap, cur, rfl, hg, _⟩
 ·simp [Value.ownBlock] at hb
 ·simp [Value.ownBlock] at hb; omega
theorem TrI.ne {B : Nat} {c : Array Value} (h : TrI w r s src bv v n xs W) (hB : W.heap[B]? = some (.cells c 69 (0, 0))) : v.ownBlock ≠ some B := by
 rcases h.own.2 with ⟨rfl, _⟩ | ⟨g, cap, cur, rfl, hg, hc, _⟩
 ·simp [Value.ownBlock]
 ·intro eb
  have eb : g = B := by simpa [Value.ownBlock] using eb
  subst eb
  rw [hc] at hB
  injection hB with hB
  injection hB with _ ht
  exact absurd ht (by decide)
theorem TrI.step (h : TrI w r s src bv v n xs W) (hb : Below W.heap.size W W') : TrI w r s src bv v n xs W' :=
 ⟨keep_block h.src hb, keep_block h.res hb, keep_block h.box hb, h.low.trans (hb.mono h.low.size), h.own.kept (only_of_below hb none) (by cases v.ownBlock <;> simp)⟩
theorem TrI.push (h : TrI w r s src bv v n xs W) (ho : W'.ownsRow w.heap.size 27 9 v' m ys) (hg : W.grownBy W' v.ownBlock) : TrI w r s src bv v' m ys W' :=
 ⟨(hg.block _ (heap_lt h.src) (fun e => h.ne h.src e.symm)).trans h.src, (hg.block _ (heap_lt h.res) (fun e => h.ne h.res e.symm)).trans h.res, (hg.block _ (heap_lt h.box) (fun e => h.ne h.box e.symm)).trans h.box, h.low.grown hg h.low.size h.ge_own, ho⟩
theorem TrI.store (h : TrI w r s src bv v n xs W) : TrI w r s src v v n xs (W.setCell ⟨w.heap.size + 1 + 1, 2, none⟩ v) := by
 refine ⟨?_, ?_, ?_, h.low.setCell (p := ⟨w.heap.size + 1 + 1, 2, none⟩) (show w.heap.size ≤ w.heap.size + 1 + 1 by omega) _, ownsRow_setCell_other h.own (a := ⟨w.heap.size + 1 + 1, 2, none⟩) (h.ne h.box) v⟩
 ·exact (Below.heap_setCell _ _ _ _ (show w.heap.size ≠ w.heap.size + 1 + 1 by omega)).trans h.src
 ·exact (Below.heap_setCell _ _ _ _ (show w.heap.size + 1 ≠ w.heap.size + 1 + 1 by omega)).trans h.res
 ·have := heap_setCell_at h.box 2 v
  rw [this]; rfl
end
/-- the three blocks made -/
theorem TrI.start (w : World) (r s : Nat) (src : Value) :
  TrI w r s src (.slice none 0 0) (.slice none 0 0) 0 [] (((w.alloc (.cells #[.int .i64 (r : Int), .int .i64 (s : Int), src] 69)).alloc (.cells #[.int .i64 0, .int .i64 0, .slice none 0 0] 69)).alloc (.cells #[.int .i64 (s : Int), .int .i64 (r : Int), .slice none 0 0] 69)) := by
 obtain ⟨hx, hr, hb⟩ := two_new w (.cells #[.int .i64 (r : Int), .int .i64 (s : Int), src] 69) (.cells #[.int .i64 0, .int .i64 0, .slice none 0 0] 69)
 have h := heap_alloc_new ((w.alloc (.cells #[.int .i64 (r : Int), .int .i64 (s : Int), src] 69)).alloc (.cells #[.int .i64 0, .int .i64 0, .slice none 0 0] 69)) (.cells #[.int .i64 (s : Int), .int .i64 (r : Int), .slice none 0 0] 69)
 simp only [World.size_alloc] at h
 exact ⟨new_keep hx, new_keep hr, h, hb.alloc hb.size _, World.ownsRow_nil _ _ _ _⟩
/-- the result is written -/
theorem TrI.finish {w W : World} {r s n lg cap : Nat} {src bv : Value} {xs : List Value} (h : TrI w r s src bv (.slice (some ⟨lg, 0, none⟩) n cap) n xs W) (x y z : Value) :
  Below w.heap.size w (((W.setCell ⟨w.heap.size + 1, 0, none⟩ x).setCell ⟨w.heap.size + 1, 1, none⟩ y).setCell ⟨w.heap.size + 1, 2, none⟩ z) :=
 ((h.low.setCell (p := ⟨w.heap.size + 1, 0, none⟩) (Nat.le_succ _) x).setCell (p := ⟨w.heap.size + 1, 1, none⟩) (Nat.le_succ _) y).setCell (p := ⟨w.heap.size + 1, 2, none⟩) (Nat.le_succ _) z
set_option linter.unusedVariables false in
/-- what the operations of region 8 yield -/
def turnKs8 (x : Rat) (r s g L C i j a m k cv B1 B3 : Nat) (av : Option Addr) : List RK :=
 [.pure (.pointer (some ⟨B3, 2, none⟩)),
  .pure (.slice av k cv),
  .pure (.pointer (some ⟨B1, 2, none⟩)),
  .pure (.slice (some ⟨g, 0, none⟩) L C),
  .pure (.int .i64 (i : Int)),
  .pure (.pointer (some ⟨B1, 1, none⟩)),
  .pure (.int .i64 (s : Int)),
  .pure (.int .i64 (a : Int)),
  .pure (.int .i64 (j : Int)),
  .pure (.int .i64 (m : Int)),
  .pure (.pointer (some ⟨g, m * 9, none⟩)),
  .pure (.agg #[.int .i64 1, .string (numS x), .string (denS x), .string { data := #[] }, .bool false, .int .i64 0, .int .i64 0, .int .i64 0, .slice none 0 0]),
  .row #[.int .i64 1, .string (numS x), .string (denS x), .string { data := #[] }, .bool false, .int .i64 0, .int .i64 0, .int .i64 0, .slice none 0 0] 27 1,
  .put 0,
  .put 0,
  .put 0]
set_option linter.unusedSimpArgs false in
set_option linter.unusedVariables false in
set_option maxHeartbeats 4000000 in
set_option maxRecDepth 100000 in
theorem turned_arr (r s g L C : Nat) (qs : List Rat) (w : World) (h1 : 1 ≤ r) (h2 : 1 ≤ s) (hL : r * s = L) (hq : qs.length = L) (h9 : L ≤ 1000) (hv : ValsAt w g 0 (numVals qs)) :
  Calls Tryz.prog 49 #[gridC (r : Int) (s : Int) (some ⟨g, 0, none⟩) L C] w fun e w' => ∃ lg cap, e = .returned (gridC (s : Int) (r : Int) (some ⟨lg, 0, none⟩) (s * r) cap) ∧ Below w.heap.size w w' ∧ ValsAt w' lg 0 (numVals (turnL qs r s s)) ∧ w.heap.size ≤ lg ∧ s * r ≤ cap := by
 unfold gridC
 obtain ⟨i0, hi0', hz0, hz1, hz2⟩ := info_val
 have QhL := Lib.hid hL
 have Qhq := Lib.hid hq
 have HV := Lib.hid hv
 have hr9 : r ≤ 1000 := by
  have : r ≤ r * s := Nat.le_mul_of_pos_right r h2
  omega
 have hs9 : s ≤ 1000 := by
  have : s ≤ r * s := Nat.le_mul_of_pos_left s h1
  omega
 have hx := new_keep (o' := .cells #[.int .i64 (s : Int), .int .i64 (r : Int), .slice none 0 0] 69) (new_keep (o' := .cells #[.int .i64 0, .int .i64 0, .slice none 0 0] 69) (heap_alloc_new w (.cells #[.int .i64 (r : Int), .int .i64 (s : Int), .slice (some ⟨g, 0, none⟩) L C] 69)))
 clear hL hq hv
 go_enter Tryz.func49, Tryz.ntmps49
 go_upto_region 1 with fail
 obtain ⟨⟨x0, x1, x2⟩, _⟩ := three_at (new_keep (o' := .cells #[.int .i64 0, .int .i64 0, .slice none 0 0] 69) (heap_alloc_new w (.cells #[.int .i64 (r : Int), .int .i64 (s : Int), .slice (some ⟨g, 0, none⟩) L C] 69)))
 go_upto_region 2 with fail
 have HI := Lib.hid (TrI.start w r s (.slice (some ⟨g, 0, none⟩) L C))
 obtain ⟨W1, hW1⟩ : ∃ Z, (((w.alloc (.cells #[.int .i64 (r : Int), .int .i64 (s : Int), .slice (some ⟨g, 0, none⟩) L C] 69)).alloc (.cells #[.int .i64 0, .int .i64 0, .slice none 0 0] 69)).alloc (.cells #[.int .i64 (s : Int), .int .i64 (r : Int), .slice none 0 0] 69)) = Z := ⟨_, rfl⟩
 rw [hW1] at HI
 have EW := Lib.hid hW1
 clear hW1 x0 x1 x2 hx
 rw [EW.out]
 obtain ⟨⟨x0, x1, x2⟩, _⟩ := three_at HI.out.src
 go_upto_region 3 with fail
 clear x0 x1 x2 EW
 go_loopg [4, 5, 13] s (fun gh v4 v5 v13 wx => ∃ (j : Nat) (v : Value), v13 = .int .i64 (j : Int) ∧ j ≤ s ∧ gh = s - j ∧ TrI w r s (.slice (some ⟨g, 0, none⟩) L C) v v (j * r) (flat (numVals (turnL qs r s j))) wx)
 case atStart => exact ⟨0, _, rfl, Nat.zero_le _, rfl, by rw [Nat.zero_mul]; exact HI.out⟩
 case round =>
  clear HI
  obtain ⟨j, v, rfl, hj, rfl, hi⟩ := hrel
  have HI := Lib.hid hi
  by_cases hlt : j < s
  ·skip
   have hd : decide ((j : Int) < (s : Int)) = true := decide_eq_true (by omega)
   have hd2 : decide (j < s) = true := decide_eq_true hlt
   have hwk : IntKind.i64.wrap ((j : Int) + 1) = (j : Int) + 1 := IntWalk.i64_in _ (by omega)
   clear hi
   obtain ⟨⟨x0, x1, x2⟩, _⟩ := three_at HI.out.src
   go_upto_region 6 with fail
   clear x0 x1 x2
   go_loopg [5, 18] r (fun gh v5 v18 wx => ∃ (i : Nat) (v : Value), v18 = .int .i64 (i : Int) ∧ i ≤ r ∧ gh = r - i ∧ TrI w r s (.slice (some ⟨g, 0, none⟩) L C) v v (j * r + i) (flat (numVals (turnL qs r s j ++ (colL qs r s j).take i))) wx)
   case atStart => exact ⟨0, _, rfl, Nat.zero_le _, rfl, by rw [List.take_zero, List.append_nil]; exact HI.out⟩
   case round =>
    clear HI
    obtain ⟨i, v, rfl, hi, rfl, hti⟩ := hrel
    have HI := Lib.hid hti
    by_cases hlt2 : i < r
    ·skip
     have hd3 : decide ((i : Int) < (r : Int)) = true := decide_eq_true (by omega)
     have hd4 : decide (i < r) = true := decide_eq_true hlt2
     have hwi : IntKind.i64.wrap ((i : Int) + 1) = (i : Int) + 1 := IntWalk.i64_in _ (by omega)
     obtain ⟨a, ha⟩ : ∃ a, i * s = a := ⟨_, rfl⟩
     obtain ⟨m, hm⟩ : ∃ m, a + j = m := ⟨_, rfl⟩
     have haL : a + s ≤ L := by
      have : (i + 1) * s ≤ r * s := Nat.mul_le_mul hlt2 (Nat.le_refl _)
      rw [Nat.add_mul, Nat.one_mul, QhL.out] at this
      omega
     have e1 : (i : Int) * (s : Int) = (a : Int) := by rw [← ha, Int.natCast_mul]
     have hwm : IntKind.i64.wrap ((i : Int) * (s : Int)) = (a : Int) := by rw [e1]; exact IntWalk.i64_in _ (by omega)
     have hwn : IntKind.i64.wrap ((a : Int) + (j : Int)) = (m : Int) := by rw [← hm]; exact IntWalk.i64_in _ (by omega)
     have hmL : m < qs.length := by rw [Qhq.out]; omega
     have hd5 : decide (m < L) = true := decide_eq_true (by omega)
     have hi0 : (0 : Int) ≤ (m : Int) := by omega
     have hi1 : (m : Int) < (L : Int) := by omega
     obtain ⟨x, hx⟩ : ∃ x, qs[m] = x := ⟨_, rfl⟩
     have HQX := Lib.hid hx
     have HTK := Lib.hid (colL_take qs r s j i m x hlt2 (by rw [ha]; exact hm) hmL hx)
     obtain ⟨xs, hxs⟩ : ∃ xs, flat (numVals (turnL qs r s j ++ (colL qs r s j).take i)) = xs := ⟨_, rfl⟩
     have HXS := Lib.hid hxs
     rw [hxs] at HI
     obtain ⟨av, cv, hu⟩ := owns_form HI.out.own
     subst hu
     obtain ⟨k, hk⟩ : ∃ k, j * r + i = k := ⟨_, rfl⟩
     have hk9 : k + 1 ≤ 1000 := by
      have : (j + 1) * r ≤ s * r := Nat.mul_le_mul hlt (Nat.le_refl _)
      rw [Nat.add_mul, Nat.one_mul, Nat.mul_comm s r, QhL.out] at this
      omega
     have HKE := Lib.hid hk
     rw [hk] at HI
     have hml : k + 1 ≤ maxLen := by unfold maxLen; omega
     have H1 := Lib.hid HI.out.src
     have H3 := Lib.hid HI.out.box
     clear hti hx ha hm hxs hk e1 haL
     obtain ⟨B1, hB1⟩ : ∃ B, w.heap.size = B := ⟨_, rfl⟩
     obtain ⟨B3, hB3⟩ : ∃ B, w.heap.size + 1 + 1 = B := ⟨_, rfl⟩
     have EB1 := Lib.hid hB1
     have EB3 := Lib.hid hB3
     clear hB1 hB3
     rw [EB1.out] at H1
     rw [EB3.out] at H3
     go_upto_region 8 with fail
     rw [EB3.out, EB1.out]
     go_wp2_with fail
     have hok : okB 16 (turnKs8 x r s g L C i j a m k cv B1 B3 av) = true := by kernel_rfl
     have hna := noAny_of (ks := (turnKs8 x r s g L C i j a m k cv B1 B3 av)) (by kernel_rfl)
     have hla := lasts_of hna
     refine wp_region_facts_abs_r (row := none) (w := wr) 9 13 3 16 [13, 14, 15] (turnKs8 x r s g L C i j a m k cv B1 B3 av) [some 21, some 22, some 23, some 24, some 25, some 26, some 27, some 28, some 29, some 30, some 31, some 32, some 33, some 34, some 35, none] [(3, .pointer (some ⟨B3, 0, none⟩)), (1, .pointer (some ⟨B1, 0, none⟩)), (5, .int .i64 (i : Int)), (4, .int .i64 (j : Int))] 39 (by kernel_rfl) (by kernel_rfl) (by kernel_rfl) rfl rfl (by decide) rfl (by kernel_rfl) rfl (Nat.le_of_eq rfl) rfl ?ho [u21, u22, u23, u24, u25, u26, u27, u28, u29, u30, u31, u32, u33, u34, u35, undef] ?h00 (Fs.start rfl rfl) ?hs ?hd
     case ho =>
      intro k x hk
      match k, hk with
      | 0, hk => have hk := Option.some.inj hk; subst hk; rfl
      | 1, hk => have hk := Option.some.inj hk; subst hk; rfl
      | 2, hk => have hk := Option.some.inj hk; subst hk; rfl
      | 3, hk => have hk := Option.some.inj hk; subst hk; rfl
      | _ + 4, hk => exact absurd hk (by simp)
     case h00 => simp only [putO, layL]
     case hs =>
      rintro A listed vs Wr hF hR i hi hun hpre
      obtain ⟨s0, s1, s2, s3, s4, s5, s6, s7, s8, s9, s10, s11, s12, s13, s14, s15, hvs⟩ := exl_of 16 vs (fun l => vs = l) hF.len rfl
      subst hvs
      have hge := Nat.zero_le i
      rcases Nat.lt_or_ge i 6 with hi | hge
      ·rcases Nat.lt_or_ge i 3 with hi | hge
       ·rcases Nat.lt_or_ge i 1 with hi | hge
        ·obtain rfl := eqi hi hge
         have ro3 : A.tmps[3]? = some (.pointer (some ⟨B3, 0, none⟩)) := hR.out 0 _ rfl
         refine step_of ⟨some 21, _, _, _, _, _⟩ rfl (fun K' hK => ?_)
         go_simp
         exact hK.out _ _ ⟨_, hF.pure hok hla hpre rfl (Below.refl _ _), rfl⟩
        rcases Nat.lt_or_ge i 2 with hi | hge
        ·obtain rfl := eqi hi hge
         have p0 := hpre 0 (by kernel_rfl)
         have e0 : s0 = .pointer (some ⟨B3, 2, none⟩) := hF.get 0 _ rfl (.inr p0)
         subst e0
         have r0 : A.tmps[21]? = some (.pointer (some ⟨B3, 2, none⟩)) := hR.own 0 _ _ rfl rfl
         have hcc := (three_at (keep_block H3.out (below_none hF.low))).1
         have cH30 := hcc.1
         have cH31 := hcc.2.1
         have cH32 := hcc.2.2
         clear hcc
         refine step_of ⟨some 22, _, _, _, _, _⟩ rfl (fun K' hK => ?_)
         go_simp
         exact hK.out _ _ ⟨_, hF.pure hok hla hpre rfl (Below.refl _ _), rfl⟩
        obtain rfl := eqi hi hge
        have ro1 : A.tmps[1]? = some (.pointer (some ⟨B1, 0, none⟩)) := hR.out 1 _ rfl
        refine step_of ⟨some 23, _, _, _, _, _⟩ rfl (fun K' hK => ?_)
        go_simp
        exact hK.out _ _ ⟨_, hF.pure hok hla hpre rfl (Below.refl _ _), rfl⟩
       rcases Nat.lt_or_ge i 4 with hi | hge
       ·obtain rfl := eqi hi hge
        have p2 := hpre 2 (by kernel_rfl)
        have e2 : s2 = .pointer (some ⟨B1, 2, none⟩) := hF.get 2 _ rfl (.inr p2)
        subst e2
        have r2 : A.tmps[23]? = some (.pointer (some ⟨B1, 2, none⟩)) := hR.own 2 _ _ rfl rfl
        have hcc := (three_at (keep_block H1.out (below_none hF.low))).1
        have cH10 := hcc.1
        have cH11 := hcc.2.1
        have cH12 := hcc.2.2
        clear hcc
        refine step_of ⟨some 24, _, _, _, _, _⟩ rfl (fun K' hK => ?_)
        go_simp
        exact hK.out _ _ ⟨_, hF.pure hok hla hpre rfl (Below.refl _ _), rfl⟩
       rcases Nat.lt_or_ge i 5 with hi | hge
       ·obtain rfl := eqi hi hge
        have ro5 : A.tmps[5]? = some (.int .i64 (i : Int)) := hR.out 2 _ rfl
        refine step_of ⟨some 25, _, _, _, _, _⟩ rfl (fun K' hK => ?_)
        go_simp
        exact hK.out _ _ ⟨_, hF.pure hok hla hpre rfl (Below.refl _ _), rfl⟩
       obtain rfl := eqi hi hge
       have ro1 : A.tmps[1]? = some (.pointer (some ⟨B1, 0, none⟩)) := hR.out 1 _ rfl
       refine step_of ⟨some 26, _, _, _, _, _⟩ rfl (fun K' hK => ?_)
       go_simp
       exact hK.out _ _ ⟨_, hF.pure hok hla hpre rfl (Below.refl _ _), rfl⟩
      rcases Nat.lt_or_ge i 9 with hi | hge
      ·rcases Nat.lt_or_ge i 7 with hi | hge
       ·obtain rfl := eqi hi hge
        have p5 := hpre 5 (by kernel_rfl)
        have e5 : s5 = .pointer (some ⟨B1, 1, none⟩) := hF.get 5 _ rfl (.inr p5)
        subst e5
        have r5 : A.tmps[26]? = some (.pointer (some ⟨B1, 1, none⟩)) := hR.own 5 _ _ rfl rfl
        have hcc := (three_at (keep_block H1.out (below_none hF.low))).1
        have cH10 := hcc.1
        have cH11 := hcc.2.1
        have cH12 := hcc.2.2
        clear hcc
        refine step_of ⟨some 27, _, _, _, _, _⟩ rfl (fun K' hK => ?_)
        go_simp
        exact hK.out _ _ ⟨_, hF.pure hok hla hpre rfl (Below.refl _ _), rfl⟩
       rcases Nat.lt_or_ge i 8 with hi | hge
       ·obtain rfl := eqi hi hge
        have p4 := hpre 4 (by kernel_rfl)
        have e4 : s4 = .int .i64 (i : Int) := hF.get 4 _ rfl (.inr p4)
        subst e4
        have r4 : A.tmps[25]? = some (.int .i64 (i : Int)) := hR.own 4 _ _ rfl rfl
        have p6 := hpre 6 (by kernel_rfl)
        have e6 : s6 = .int .i64 (s : Int) := hF.get 6 _ rfl (.inr p6)
        subst e6
        have r6 : A.tmps[27]? = some (.int .i64 (s : Int)) := hR.own 6 _ _ rfl rfl
        refine step_of ⟨some 28, _, _, _, _, _⟩ rfl (fun K' hK => ?_)
        go_simp
        exact hK.out _ _ ⟨_, hF.pure hok hla hpre rfl (Below.refl _ _), rfl⟩
       obtain rfl := eqi hi hge
       have ro4 : A.tmps[4]? = some (.int .i64 (j : Int)) := hR.out 3 _ rfl
       refine step_of ⟨some 29, _, _, _, _, _⟩ rfl (fun K' hK => ?_)
       go_simp
       exact hK.out _ _ ⟨_, hF.pure hok hla hpre rfl (Below.refl _ _), rfl⟩
      rcases Nat.lt_or_ge i 11 with hi | hge
      ·rcases Nat.lt_or_ge i 10 with hi | hge
       ·obtain rfl := eqi hi hge
        have p7 := hpre 7 (by kernel_rfl)
        have e7 : s7 = .int .i64 (a : Int) := hF.get 7 _ rfl (.inr p7)
        subst e7
        have r7 : A.tmps[28]? = some (.int .i64 (a : Int)) := hR.own 7 _ _ rfl rfl
        have p8 := hpre 8 (by kernel_rfl)
        have e8 : s8 = .int .i64 (j : Int) := hF.get 8 _ rfl (.inr p8)
        subst e8
        have r8 : A.tmps[29]? = some (.int .i64 (j : Int)) := hR.own 8 _ _ rfl rfl
        refine step_of ⟨some 30, _, _, _, _, _⟩ rfl (fun K' hK => ?_)
        go_simp
        exact hK.out _ _ ⟨_, hF.pure hok hla hpre rfl (Below.refl _ _), rfl⟩
       obtain rfl := eqi hi hge
       have p3 := hpre 3 (by kernel_rfl)
       have e3 : s3 = .slice (some ⟨g, 0, none⟩) L C := hF.get 3 _ rfl (.inr p3)
       subst e3
       have r3 : A.tmps[24]? = some (.slice (some ⟨g, 0, none⟩) L C) := hR.own 3 _ _ rfl rfl
       have p9 := hpre 9 (by kernel_rfl)
       have e9 : s9 = .int .i64 (m : Int) := hF.get 9 _ rfl (.inr p9)
       subst e9
       have r9 : A.tmps[30]? = some (.int .i64 (m : Int)) := hR.own 9 _ _ rfl rfl
       refine step_of ⟨some 31, _, _, _, _, _⟩ rfl (fun K' hK => ?_)
       go_simp
       exact hK.out _ _ ⟨_, hF.pure hok hla hpre rfl (Below.refl _ _), rfl⟩
      rcases Nat.lt_or_ge i 12 with hi | hge
      ·obtain rfl := eqi hi hge
       have p10 := hpre 10 (by kernel_rfl)
       have e10 : s10 = .pointer (some ⟨g, m * 9, none⟩) := hF.get 10 _ rfl (.inr p10)
       subst e10
       have r10 : A.tmps[31]? = some (.pointer (some ⟨g, m * 9, none⟩)) := hR.own 10 _ _ rfl rfl
       obtain ⟨j0, j1, j2, j3, j4, j5, j6, j7, j8⟩ := item_at (HV.out.below (HI.out.low.trans ((below_none hF.low).mono HI.out.low.size))) m hmL x HQX.out
       refine step_of ⟨some 32, _, _, _, _, _⟩ rfl (fun K' hK => ?_)
       go_simp
       exact hK.out _ _ ⟨_, hF.pure hok hla hpre rfl (Below.refl _ _), rfl⟩
      obtain rfl := eqi hi hge
      have p11 := hpre 11 (by kernel_rfl)
      have e11 : s11 = .agg #[.int .i64 1, .string (numS x), .string (denS x), .string { data := #[] }, .bool false, .int .i64 0, .int .i64 0, .int .i64 0, .slice none 0 0] := hF.get 11 _ rfl (.inr p11)
      subst e11
      have r11 : A.tmps[32]? = some (.agg #[.int .i64 1, .string (numS x), .string (denS x), .string { data := #[] }, .bool false, .int .i64 0, .int .i64 0, .int .i64 0, .slice none 0 0]) := hR.own 11 _ _ rfl rfl
      refine step_of ⟨some 33, _, _, _, _, _⟩ rfl (fun K' hK => ?_)
      go_simp
      exact hK.out _ _ ⟨_, hF.row hok hla hpre rfl, rfl⟩
     case hd =>
      rintro listed vs WA hF hall
      obtain ⟨s0, s1, s2, s3, s4, s5, s6, s7, s8, s9, s10, s11, s12, s13, s14, s15, hvs⟩ := exl_of 16 vs (fun l => vs = l) hF.len rfl
      subst hvs
      have e1 : s1 = .slice av k cv := hF.get 1 _ rfl (.inr (hall 1 (by decide)))
      subst e1
      obtain ⟨G33, e12, _, k12⟩ : ∃ G, s12 = .slice (some ⟨G, 0, none⟩) 1 1 ∧ _ ≤ G ∧ WA.heap[G]? = some (.cells #[.int .i64 1, .string (numS x), .string (denS x), .string { data := #[] }, .bool false, .int .i64 0, .int .i64 0, .int .i64 0, .slice none 0 0] 27 (0, 0)) := hF.get 12 _ rfl (.inr (hall 12 (by decide)))
      subst e12
      have HR33 := Lib.hid k12
      clear k12
      have hq := below_none hF.low
      replace H1 := Lib.hid (keep_block H1.out hq)
      replace H3 := Lib.hid (keep_block H3.out hq)
      replace HI := Lib.hid (HI.out.step hq)
      clear hq
      clear hF hall hok hla hna
      simp only [putO, layL]
      have HOW := Lib.hid HI.out.own
      have HLN := Lib.hid HI.out.len
      refine rest_one 13 ⟨some 34, _, _, _, _, _⟩ rfl (by kernel_rfl) rfl (fun K' hK => ?_)
      refine step_append_rowx rfl _ _ 25 rfl w.heap.size 27 i0 _ 9 112 Tryz.underlying25 hi0' hz0 hz1 hz2 rfl (by decide) (.slice av k cv) k xs (by simp [Act.eval, Act.put]) HOW.out ⟨G33, 0, none⟩ 1 1 [.int .i64 1, .string (numS x), .string (denS x), .string { data := #[] }, .bool false, .int .i64 0, .int .i64 0, .int .i64 0, .slice none 0 0] (by simp [Act.eval, Act.put]) rfl (World.news_of_block (cs := #[.int .i64 1, .string (numS x), .string (denS x), .string { data := #[] }, .bool false, .int .i64 0, .int .i64 0, .int .i64 0, .slice none 0 0]) (t := 27) (fr := (0, 0)) HR33.out) (by simp [Value.oneCell']) hml (by omega) HI.out.low.size ?_
      intro v5 w5 hown5 hgrow5
      obtain ⟨a5, c5, hu5⟩ := owns_form hown5
      subst hu5
      have HT5 := Lib.hid (HI.out.push hown5 hgrow5)
      clear hown5 hgrow5 HOW
      refine hK.out _ _ ?_
      refine rest_one 14 ⟨some 35, _, _, _, _, _⟩ rfl (by kernel_rfl) rfl (fun K' hK => ?_)
      go_simp
      refine hK.out _ _ ?_
      refine rest_one 15 ⟨none, _, _, _, _, _⟩ rfl (by kernel_rfl) rfl (fun K' hK => ?_)
      obtain ⟨⟨x0, x1, x2⟩, y0, y1, y2⟩ := three_at HT5.out.box
      rw [EB3.out] at x0 x1 x2 y0 y1 y2
      go_simp
      clear x0 x1 x2 y0 y1 y2
      refine hK.out _ _ ?_
      have HU := Lib.hid HT5.out.store
      rw [← HXS.out, ← flat_snoc, List.append_assoc, ← HTK.out] at HU
      refine rest_end ?_
      go_wp2
      rw [← EB3.out, ← EB1.out]
      go_roundg (r - (i + 1))
      case measure => omega
      case rel => exact ⟨i + 1, .slice a5 (k + 1) c5, by go_num, by omega, by omega, by rw [← Nat.add_assoc, HKE.out]; exact HU.out⟩
    ·skip
     have hd3 : decide ((i : Int) < (r : Int)) = false := decide_eq_false (by omega)
     have hd4 : decide (i < r) = false := decide_eq_false hlt2
     have hir : i = r := by omega
     have HI2 := Lib.hid (show TrI w r s (.slice (some ⟨g, 0, none⟩) L C) v v ((j + 1) * r) (flat (numVals (turnL qs r s (j + 1)))) wr from by
      have h := hti
      rw [hir, List.take_of_length_le (by rw [colL_len]; exact Nat.le_refl _), ← turnL_succ, ← Nat.succ_mul] at h
      exact h)
     clear hti HI hlt2 hi
     go_wp2
     go_roundg (s - (j + 1))
     case measure => omega
     case rel => exact ⟨j + 1, _, by go_num, by omega, by omega, HI2.out⟩
  ·skip
   have hd : decide ((j : Int) < (s : Int)) = false := decide_eq_false (by omega)
   have hd2 : decide (j < s) = false := decide_eq_false hlt
   have hjs : j = s := by omega
   rw [hjs] at hi
   have hown := hi.own
   obtain ⟨lg, cap, rfl, hlg, hcap, hva⟩ := vals_of_owns (vs := numVals (turnL qs r s s)) hown (by rw [numVals_len, turnL_len]) (Nat.mul_pos h2 h1)
   have HVA := Lib.hid hva
   have HLG := Lib.hid hlg
   have HCP := Lib.hid hcap
   replace HI := Lib.hid hi
   clear hown hlg hva hcap hi hjs
   obtain ⟨⟨x0, x1, x2⟩, _⟩ := three_at HI.out.box
   obtain ⟨⟨r0, r1, r2⟩, g0, g1, g2⟩ := three_at HI.out.res
   obtain ⟨⟨z0, z1, z2⟩, _⟩ := three_at (set3_at HI.out.res (.int .i64 (s : Int)) (.int .i64 (r : Int)) (.slice (some ⟨lg, 0, none⟩) (s * r) cap))
   have HLL := Lib.hid (HI.out.finish (.int .i64 (s : Int)) (.int .i64 (r : Int)) (.slice (some ⟨lg, 0, none⟩) (s * r) cap))
   have HVB := Lib.hid (vals_other HVA.out (set3_other wr (w.heap.size + 1) (.int .i64 (s : Int)) (.int .i64 (r : Int)) (.slice (some ⟨lg, 0, none⟩) (s * r) cap) (fun e => HI.out.ne HI.out.res (by rw [e]; rfl))))
   go_wp2
   refine bodyPost_ret (v := .agg #[.int .i64 (s : Int), .int .i64 (r : Int), .slice (some ⟨lg, 0, none⟩) (s * r) cap]) (by simp [results, Tryz.results49, go_sem, z0, z1, z2]) rfl ⟨lg, cap, rfl, HLL.out, HVB.out, HLG.out, HCP.out⟩
end Go.Proofs.YtkghpiaoggljjaaGreatDoor.Num.Fl

/- package value: WholeOr over the arguments. Conditions: the argument is a valid number or none; the tables lie as they are laid. -/
namespace Go.Proofs.YtkghpiaoggljjaaGreatDoor.Num
open Go.RowKit Go.Lib

set_option linter.unusedSimpArgs false in
set_option linter.unusedVariables false in
set_option maxHeartbeats 4000000 in
set_option maxRecDepth 100000 in
theorem wholeOr_some (b ab ao L C n : Nat) (q : Rat) (d : Int) (w : World) (h : ArgsAt w b (some ⟨ab, ao, none⟩) L C n) (hn : n < L) (hL : L ≤ 1000000000) (hne : ab ≠ b) (hc : NumCells w ab (ao + n * 9) q) (hq : fits q = true) (h0 : -1000000000 ≤ q.floor) (h1 : q.floor ≤ 1000000000) (hE : Env w) (hP : Past b) :
  Calls Tryz.prog 120 #[.pointer (some ⟨b, 0, none⟩), .int .i64 d] w fun e w' => e = .returned (.int .i64 q.floor) ∧ ArgRet w b (some ⟨ab, ao, none⟩) L C (n + 1) w' := by
 have TM := Lib.hid (fun W g => more_any b (some ⟨ab, ao, none⟩) L C n W g hL)
 have TW := Lib.hid (fun W ga gc ge => argWhole_any b ab ao L C n q W ga hn hL hne gc hq h0 h1 ge hP)
 rw [decide_eq_true hn] at TM
 have hnot : ∀ (x : Bool) (w : World), (Op.unary .not (.bool x)).run Tryz.prog w = .ok (.bool (!x)) w := fun _ _ => rfl
 have HA := Lib.hid h
 have HC := Lib.hid hc
 have HE := Lib.hid hE
 clear h hc hE hn h0 h1 hq
 go_enter Tryz.func120, Tryz.ntmps120
 go_wp2_with fail
 refine (TM.out _ HA.out).mono ?_
 rintro e W1 ⟨rfl, hb⟩
 replace HA := Lib.hid (keep_block HA.out hb)
 replace HC := Lib.hid (NumCells.below HC.out hb)
 replace HE := Lib.hid (HE.out.below hb)
 have HB := Lib.hid (kept_below (b := b) hb)
 clear hb
 go_wp2_with fail
 refine (TW.out _ HA.out HC.out HE.out).mono ?_
 rintro e W2 ⟨rfl, ha, hg⟩
 have HA2 := Lib.hid ha
 have HG := Lib.hid (kept_trans HB.out hg)
 clear ha hg
 go_wp2
 go_ret
 exact ⟨rfl, HA2.out, HG.out⟩

end Go.Proofs.YtkghpiaoggljjaaGreatDoor.Num

/- package flook: what stands while INDEX's function reads its arguments: an array of numbers, whole numbers. Conditions: the tables lie as they are laid. -/
namespace Go.Proofs.YtkghpiaoggljjaaGreatDoor.Num.Fl
open Go.RowKit Go.Lib Num

/-- the arguments (block b), their values (block g), the array's numbers (block gi), the result's block -/
structure IxI (w0 : World) (b g C : Nat) (vs : List Val) (gi : Nat) (qs : List Rat) (i : Nat) (W : World) : Prop where
 args : ArgsAt W b (some ⟨g, 0, none⟩) vs.length C i
 vals : ValsAt W g 0 vs
 arr : ValsAt W gi 0 (numVals qs)
 res : W.heap[w0.heap.size]? = some (.cells #[.int .i64 0, .string { data := #[] }, .string { data := #[] }, .string { data := #[] }, .bool false, .int .i64 0, .int .i64 0, .int .i64 0, .slice none 0 0] 27 (0, 0))
 env : Env W
 low : w0.grownBy W (some b)
 gb : g ≠ b
 gib : gi ≠ b
 gl : g < w0.heap.size
 gil : gi < w0.heap.size
 bl : b < w0.heap.size
 past : Past b
 len : vs.length ≤ 300
 pos : 0 < qs.length
 q9 : qs.length ≤ 1000
 past0 : Past w0.heap.size
theorem IxI.start {w : World} {b g C gi : Nat} {vs : List Val} {qs : List Rat} (ha : ArgsAt w b (some ⟨g, 0, none⟩) vs.length C 0) (hv : ValsAt w g 0 vs) (h0 : 0 < vs.length) (hav : ValsAt w gi 0 (numVals qs)) (hq : 0 < qs.length) (h9 : qs.length ≤ 1000) (hl : vs.length ≤ 300) (hne : g ≠ b) (hgi : gi ≠ b) (hE : Env w) (hP : Past b) :
  IxI w b g C vs gi qs 0 (w.alloc (.cells #[.int .i64 0, .string { data := #[] }, .string { data := #[] }, .string { data := #[] }, .bool false, .int .i64 0, .int .i64 0, .int .i64 0, .slice none 0 0] 27)) :=
 have hb : Below w.heap.size w (w.alloc (.cells #[.int .i64 0, .string { data := #[] }, .string { data := #[] }, .string { data := #[] }, .bool false, .int .i64 0, .int .i64 0, .int .i64 0, .slice none 0 0] 27)) := (Below.refl _ _).alloc (Nat.le_refl _) _
 ⟨keep_block ha hb, hv.below hb, hav.below hb, heap_alloc_new w _, hE.below hb, kept_below hb, hne, hgi, cell_lt (hv.at 0 h0).1, cell_lt (hav.at 0 (by rw [numVals_len]; exact hq)).1, heap_lt ha, hP, hl, hq, h9, hE.room⟩
section
variable {w0 W W' : World} {b g C gi i : Nat} {vs : List Val} {qs : List Rat}
theorem IxI.step (h : IxI w0 b g C vs gi qs i W) (hb : Below W.heap.size W W') : IxI w0 b g C vs gi qs i W' :=
 ⟨keep_block h.args hb, h.vals.below hb, h.arr.below hb, keep_block h.res hb, h.env.below hb, kept_trans h.low (kept_below hb), h.gb, h.gib, h.gl, h.gil, h.bl, h.past, h.len, h.pos, h.q9, h.past0⟩
theorem IxI.grow {i' : Nat} (h : IxI w0 b g C vs gi qs i W) (ha : ArgsAt W' b (some ⟨g, 0, none⟩) vs.length C i') (hg : W.grownBy W' (some b)) : IxI w0 b g C vs gi qs i' W' :=
 ⟨ha, vals_kept h.vals hg h.gb (Nat.lt_of_lt_of_le h.gl h.low.size), vals_kept h.arr hg h.gib (Nat.lt_of_lt_of_le h.gil h.low.size), kept_block h.res hg (Nat.ne_of_gt h.bl), h.env.kept hg h.past, kept_trans h.low hg, h.gb, h.gib, h.gl, h.gil, h.bl, h.past, h.len, h.pos, h.q9, h.past0⟩
/-- the next argument is the array -/
theorem IxI.value (r s : Int) (Ci : Nat) (h : IxI w0 b g C vs gi qs i W) (hi : i < vs.length) (hv : vs[i] = arrVal' r s gi qs.length Ci) :
  Calls Tryz.prog 46 #[.pointer (some ⟨b, 0, none⟩)] W fun e w' => e = .returned (.agg #[.int .i64 5, .string { data := #[] }, .string { data := #[] }, .string { data := #[] }, .bool false, .int .i64 0, .int .i64 r, .int .i64 s, .slice (some ⟨gi, 0, none⟩) qs.length Ci]) ∧ IxI w0 b g C vs gi qs (i + 1) w' := by
 have hc := h.vals.at i hi
 rw [hv] at hc
 refine (value_any b g 0 vs.length C i _ _ _ _ _ _ _ _ _ _ _ W h.args hi (by have := h.len; omega) h.gb hc).mono ?_
 rintro e w' ⟨rfl, ha, hg⟩
 exact ⟨rfl, h.grow ha hg⟩
theorem IxI.whole (n : Int) (h : IxI w0 b g C vs gi qs i W) (hi : i < vs.length) (hv : vs[i] = numVal' ((n : Int) : Rat)) (hn : n.natAbs ≤ 1000000) :
  Calls Tryz.prog 126 #[.pointer (some ⟨b, 0, none⟩)] W fun e w' => e = .returned (.int .i64 n) ∧ IxI w0 b g C vs gi qs (i + 1) w' ∧ W.grownBy w' (some b) := by
 have hc := h.vals.at i hi
 rw [hv] at hc
 have hf : (((n : Int) : Rat)).floor = n := Rat.floor_intCast _
 refine (argWhole_any b g 0 vs.length C i ((n : Int) : Rat) W h.args hi (by have := h.len; omega) h.gb hc (fits_int n (by omega)) (by rw [hf]; omega) (by rw [hf]; omega) h.env h.past).mono ?_
 rintro e w' ⟨rfl, ha, hg⟩
 exact ⟨by rw [hf], h.grow ha hg, hg⟩
theorem IxI.wholeOr (n d : Int) (h : IxI w0 b g C vs gi qs i W) (hi : i < vs.length) (hv : vs[i] = numVal' ((n : Int) : Rat)) (hn : n.natAbs ≤ 1000000) :
  Calls Tryz.prog 120 #[.pointer (some ⟨b, 0, none⟩), .int .i64 d] W fun e w' => e = .returned (.int .i64 n) ∧ IxI w0 b g C vs gi qs (i + 1) w' ∧ W.grownBy w' (some b) := by
 have hc := h.vals.at i hi
 rw [hv] at hc
 have hf : (((n : Int) : Rat)).floor = n := Rat.floor_intCast _
 refine (wholeOr_some b g 0 vs.length C i ((n : Int) : Rat) d W h.args hi (by have := h.len; omega) h.gb hc (fits_int n (by omega)) (by rw [hf]; omega) (by rw [hf]; omega) h.env h.past).mono ?_
 rintro e w' ⟨rfl, ha, hg⟩
 exact ⟨by rw [hf], h.grow ha hg, hg⟩
theorem IxI.more (h : IxI w0 b g C vs gi qs i W) (hi : i < vs.length) :
  Calls Tryz.prog 125 #[.pointer (some ⟨b, 0, none⟩)] W fun e w' => e = .returned (.bool true) ∧ IxI w0 b g C vs gi qs i w' ∧ Below W.heap.size W w' := by
 refine (more_any b (some ⟨g, 0, none⟩) vs.length C i W h.args (by have := h.len; omega)).mono ?_
 rintro e w' ⟨rfl, hb⟩
 rw [decide_eq_true hi]
 exact ⟨rfl, h.step hb, hb⟩
/-- a block behind the result's is written -/
theorem IxI.kept {r : Nat} (h : IxI w0 b g C vs gi qs i W) (hg : W.grownBy W' (some r)) (hr : w0.heap.size < r) : IxI w0 b g C vs gi qs i W' := by
 have a1 := h.gl; have a2 := h.bl; have a3 := h.low.size; have a4 := h.gil
 refine ⟨kept_block h.args hg (by omega), vals_kept h.vals hg (by omega) (by omega), vals_kept h.arr hg (by omega) (by omega), kept_block h.res hg (by omega), h.env.kept hg ⟨Nat.lt_trans h.past0.1 hr, Nat.lt_trans h.past0.2 hr⟩, ?_, h.gb, h.gib, h.gl, h.gil, h.bl, h.past, h.len, h.pos, h.q9, h.past0⟩
 exact only_then h.low hg (fun q e => .inr (by injection e; omega))
end
theorem set3_kept (W : World) (R : Nat) (x y z : Value) : W.grownBy (((W.setCell ⟨R, 0, none⟩ x).setCell ⟨R, 1, none⟩ y).setCell ⟨R, 2, none⟩ z) (some R) :=
 only_setCell (p := ⟨R, 2, none⟩) (only_setCell (p := ⟨R, 1, none⟩) (only_setCell (p := ⟨R, 0, none⟩) (kept_below (Below.refl _ _)) (.inl rfl) x) (.inl rfl) y) (.inl rfl) z
/-- the middle of a row of numbers -/
theorem vals_mid {W : World} {g m : Nat} {A B C : List Rat} (h : ValsAt W g 0 (numVals (A ++ B ++ C))) (hm : A.length = m) : ValsAt W g (m * 9) (numVals B) := by
 have hf : ∀ X Y : List Rat, flat (numVals (X ++ Y)) = flat (numVals X) ++ flat (numVals Y) := fun X Y => by simp [numVals, flat]
 have hl : (flat (numVals A)).length = m * 9 := by
  rw [← hm]; clear hm h
  induction A with
  | nil => rfl
  | cons a A ih => rw [show a :: A = [a] ++ A from rfl, hf, List.length_append, ih, List.length_append]; simp [numVals, flat, numVal', Val.cells]; omega
 intro j u hj
 have hjl := (List.getElem?_eq_some_iff.1 hj).1
 have := h (m * 9 + j) u (by rw [hf, hf, List.append_assoc, List.getElem?_append_right (by omega), hl, Nat.add_sub_cancel_left, List.getElem?_append_left hjl]; exact hj)
 have e : (⟨g, 0, none⟩ : Addr).add (m * 9 + j) = (⟨g, m * 9, none⟩ : Addr).add j := by
  rcases Nat.eq_zero_or_pos j with h0 | h0
  ·subst h0
   rcases Nat.eq_zero_or_pos m with h1 | h1
   ·subst h1; rfl
   ·simp [Addr.add, show ¬m * 9 = 0 by omega]
  ·simp [Addr.add, show j ≠ 0 by omega]
 rw [← e]
 exact this
theorem turnL_far (qs : List Rat) (r s c : Nat) : ∀ d, ∃ C, turnL qs r s (c + d) = turnL qs r s c ++ C
 | 0 => ⟨[], by simp⟩
 | d + 1 => by
  obtain ⟨C, h⟩ := turnL_far qs r s c d
  exact ⟨C ++ colL qs r s (c + d), by rw [← Nat.add_assoc, turnL_succ, h, List.append_assoc]⟩
theorem turnL_mid (qs : List Rat) (r s c : Nat) (hc : c < s) : ∃ C, turnL qs r s s = turnL qs r s c ++ colL qs r s c ++ C := by
 obtain ⟨C, h⟩ := turnL_far qs r s (c + 1) (s - (c + 1))
 rw [show c + 1 + (s - (c + 1)) = s by omega, turnL_succ] at h
 exact ⟨C, h⟩
/-- the array with its columns as rows, by its row and no more -/
def TurR (B r s : Nat) (qs : List Rat) (v : Value) (W : World) : Prop := ∃ lg cap, v = .agg #[.int .i64 (s : Int), .int .i64 (r : Int), .slice (some ⟨lg, 0, none⟩) (s * r) cap] ∧ ValsAt W lg 0 (numVals (turnL qs r s s)) ∧ B ≤ lg ∧ s * r ≤ cap
/-- one column -/
def ColR (B r s c : Nat) (qs : List Rat) (v : Value) (W : World) : Prop := ∃ lg cap, v = .slice (some ⟨lg, c * r * 9, none⟩) r cap ∧ ValsAt W lg (c * r * 9) (numVals (colL qs r s c)) ∧ B ≤ lg
theorem turR_lasts {B r s : Nat} {qs : List Rat} : (RK.any (TurR B r s qs)).lasts := fun _ _ _ ⟨lg, cap, e, h, h2⟩ hb => ⟨lg, cap, e, h.below hb, h2⟩
theorem colR_lasts {B r s c : Nat} {qs : List Rat} : (RK.any (ColR B r s c qs)).lasts := fun _ _ _ ⟨lg, cap, e, h, h2⟩ hb => ⟨lg, cap, e, h.below hb, h2⟩
theorem turned_R (B r s g L C : Nat) (qs : List Rat) (w : World) (h1 : 1 ≤ r) (h2 : 1 ≤ s) (hL : r * s = L) (hq : qs.length = L) (h9 : L ≤ 1000) (hv : ValsAt w g 0 (numVals qs)) (hB : B ≤ w.heap.size) :
  Calls Tryz.prog 49 #[.agg #[.int .i64 (r : Int), .int .i64 (s : Int), .slice (some ⟨g, 0, none⟩) L C]] w fun e w' => ∃ lg cap, e = .returned (.agg #[.int .i64 (s : Int), .int .i64 (r : Int), .slice (some ⟨lg, 0, none⟩) (s * r) cap]) ∧ (ValsAt w' lg 0 (numVals (turnL qs r s s)) ∧ B ≤ lg ∧ s * r ≤ cap) ∧ True ∧ Below w.heap.size w w' := by
 refine (turned_arr r s g L C qs w h1 h2 hL hq h9 hv).mono ?_
 rintro e w' ⟨lg, cap, rfl, hb, ha, hl, hc⟩
 exact ⟨lg, cap, rfl, ⟨ha, Nat.le_trans hB hl, hc⟩, trivial, hb⟩
theorem row_R (B r s c lg cap : Nat) (qs : List Rat) (w : World) (h1 : 1 ≤ r) (hc : c < s) (h9 : s * r ≤ 1000) (h : ValsAt w lg 0 (numVals (turnL qs r s s)) ∧ B ≤ lg ∧ s * r ≤ cap) :
  Calls Tryz.prog 128 #[.agg #[.int .i64 (s : Int), .int .i64 (r : Int), .slice (some ⟨lg, 0, none⟩) (s * r) cap], .int .i64 (c : Int)] w fun e w' => ∃ lg cap, e = .returned (.slice (some ⟨lg, c * r * 9, none⟩) r cap) ∧ (ValsAt w' lg (c * r * 9) (numVals (colL qs r s c)) ∧ B ≤ lg) ∧ True ∧ Below w.heap.size w w' := by
 refine (row_arr s r c lg (s * r) cap w hc h1 rfl h.2.2 h9).mono ?_
 rintro e w' ⟨rfl, hb⟩
 obtain ⟨C, hC⟩ := turnL_mid qs r s c hc
 refine ⟨lg, _, rfl, ⟨?_, h.2.1⟩, trivial, hb⟩
 have hv := h.1
 rw [hC] at hv
 exact (vals_mid hv (turnL_len qs r s c)).below hb
end Go.Proofs.YtkghpiaoggljjaaGreatDoor.Num.Fl
