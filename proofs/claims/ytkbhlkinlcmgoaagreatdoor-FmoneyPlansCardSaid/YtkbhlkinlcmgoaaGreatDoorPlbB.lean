/- Numbers as texts of digits, fractions, values and the functions of fmath: contracts of the program's functions, joined from smaller texts. Conditions stand at each theorem. -/
import Derived.Test.YtkbhlkinlcmgoaaGreatDoorPlbA

/- Results that are arrays of rows and columns: valid, and Run's closure at a bare function. Conditions: the tables lie as they are laid; at most 1000 numbers. -/
namespace Go.Proofs.YtkbhlkinlcmgoaaGreatDoor.Num
open Go.RowKit Go.Lib Num

set_option maxHeartbeats 4000000 in
set_option maxRecDepth 100000 in
theorem valid_tab (k : Int) (n d t : ByteArray) (on : Bool) (c r s : Int) (A : Option Addr) (L C : Nat) (w : World) (hC : ∀ W, Below w.heap.size w W → Env W → Calls Tryz.prog 40 #[.agg #[.int .i64 k, .string n, .string d, .string t, .bool on, .int .i64 c, .int .i64 r, .int .i64 s, .slice A L C]] W fun e w' => e = .returned (.int .i64 0) ∧ Below W.heap.size W w') (hE : Env w) :
    Calls Tryz.prog 20 #[.agg #[.int .i64 k, .string n, .string d, .string t, .bool on, .int .i64 c, .int .i64 r, .int .i64 s, .slice A L C]] w fun e w' => e = .returned (.agg #[.int .i64 k, .string n, .string d, .string t, .bool on, .int .i64 c, .int .i64 r, .int .i64 s, .slice A L C]) ∧ Below w.heap.size w w' := by
  have TC := Lib.hid hC
  clear hC
  obtain ⟨hx, hr, hb⟩ := two_new w (.cells #[.int .i64 k, .string n, .string d, .string t, .bool on, .int .i64 c, .int .i64 r, .int .i64 s, .slice A L C] 30) (.cells #[.int .i64 0, .string { data := #[] }, .string { data := #[] }, .string { data := #[] }, .bool false, .int .i64 0, .int .i64 0, .int .i64 0, .slice none 0 0] 30)
  have HX := Lib.hid hx
  have HR := Lib.hid hr
  have HL := Lib.hid hb
  have HE := Lib.hid (hE.below hb)
  clear hx hr hb hE
  go_enter Tryz.func20, Tryz.ntmps20
  go_wp2_with fail
  refine (TC.out _ HL.out HE.out).mono ?_
  rintro e W1 ⟨rfl, hb⟩
  replace HX := Lib.hid (keep_block HX.out hb)
  replace HR := Lib.hid (keep_block HR.out hb)
  replace HL := Lib.hid (HL.out.trans (hb.mono HL.out.size))
  clear hb
  obtain ⟨⟨x0, x1, x2, x3, x4, x5, x6, x7, x8⟩, _⟩ := nine_at HX.out
  obtain ⟨⟨r0, r1, r2, r3, r4, r5, r6, r7, r8⟩, g0, g1, g2, g3, g4, g5, g6, g7, g8⟩ := nine_at HR.out
  obtain ⟨nb, e0, e1, e2, e3, e4, e5, e6, e7, e8⟩ := nine_end (x0 := (.int .i64 k)) (x1 := (.string n)) (x2 := (.string d)) (x3 := (.string t)) (x4 := (.bool on)) (x5 := (.int .i64 c)) (x6 := (.int .i64 r)) (x7 := (.int .i64 s)) (x8 := (.slice A L C)) HR.out HL.out (by omega)
  go_wp2
  refine bodyPost_ret (v := .agg #[.int .i64 k, .string n, .string d, .string t, .bool on, .int .i64 c, .int .i64 r, .int .i64 s, .slice A L C]) (by simp [results, Tryz.results20, go_sem, e0, e1, e2, e3, e4, e5, e6, e7, e8]) rfl ⟨rfl, nb⟩

set_option maxHeartbeats 4000000 in
set_option maxRecDepth 100000 in
theorem run1_raw (pb : Nat) (F : FuncId) (sl : Value) (rr ss L : Nat) (its : List Rat) (hr1 : 1 ≤ rr) (hs1 : 1 ≤ ss) (hL9 : L ≤ 1000) (hL : rr * ss = L) (hil : its.length = L) (w : World) (hs : ∃ a l c, sl = .slice a l c) (hc : w.cell? ⟨pb, 3, none⟩ = some (.func (.func F) #[] #[])) (eF : ∀ args w, (callFunc F args).run Tryz.prog w = .ok (.enter F args) w) (hE : Env w)
    (hF : ∀ W, Below w.heap.size w W → Calls Tryz.prog F #[sl] W fun e w' => ∃ lg cap, e = .returned (.agg #[.int .i64 5, .string { data := #[] }, .string { data := #[] }, .string { data := #[] }, .bool false, .int .i64 0, .int .i64 (rr : Int), .int .i64 (ss : Int), .slice (some ⟨lg, 0, none⟩) L cap]) ∧ ValsAt w' lg 0 (numVals its) ∧ W.heap.size ≤ lg ∧ Below W.heap.size W w') :
    Calls Tryz.prog 65 #[sl, .pointer (some ⟨pb, 0, none⟩)] w fun e w' => ∃ lg cap, e = .returned (.agg #[.int .i64 5, .string { data := #[] }, .string { data := #[] }, .string { data := #[] }, .bool false, .int .i64 0, .int .i64 (rr : Int), .int .i64 (ss : Int), .slice (some ⟨lg, 0, none⟩) L cap]) ∧ ValsAt w' lg 0 (numVals its) ∧ w.heap.size ≤ lg ∧ Below w.heap.size w w' := by
  have hrL : rr ≤ L := by rw [← hL]; exact Nat.le_mul_of_pos_right rr hs1
  have hsL : ss ≤ L := by rw [← hL]; exact Nat.le_mul_of_pos_left ss hr1
  obtain ⟨sa, slen, sc, rfl⟩ := hs
  have hmf : ∀ (fn : Fn) (first cap : Array Value) (w : World), (Instr.makeFunc fn first cap).run Tryz.prog w = .ok (.func fn first cap) w := fun _ _ _ _ => rfl
  have hb : Below w.heap.size w (w.alloc (.cells #[.int .i64 0, .string { data := #[] }, .string { data := #[] }, .string { data := #[] }, .bool false, .int .i64 0, .int .i64 0, .int .i64 0, .slice none 0 0] 30)) := (Below.refl _ _).alloc (Nat.le_refl _) _
  have HR := Lib.hid (heap_alloc_new w (.cells #[.int .i64 0, .string { data := #[] }, .string { data := #[] }, .string { data := #[] }, .bool false, .int .i64 0, .int .i64 0, .int .i64 0, .slice none 0 0] 30))
  have HX := Lib.hid (cell_below hc hb)
  have HL := Lib.hid hb
  have HE := Lib.hid (hE.below hb)
  have TF := Lib.hid (hF _ hb)
  clear hb hc hE hF
  have d0 : decide ((0 : Int) < (rr : Int)) = true := decide_eq_true (by omega)
  have d1 : decide (0 < rr) = true := decide_eq_true (by omega)
  have hr0 : ((rr : Int) = 0) = False := eq_false (by omega)
  have hr1' : (rr = 0) = False := eq_false (by omega)
  have hr2 : decide (rr = 0) = false := decide_eq_false (by omega)
  have hq : 100 ≤ (100000 : Int) / (rr : Int) := (Int.le_ediv_iff_mul_le (by omega)).2 (by omega)
  have hq4 : (ss : Int) * (rr : Int) = (L : Int) := by rw [← hL, Int.natCast_mul, Int.mul_comm]
  have hq3 : (ss : Int) ≤ (100000 : Int) / (rr : Int) := (Int.le_ediv_iff_mul_le (by omega)).2 (by omega)
  have hq2 : (100000 : Int) / (rr : Int) ≤ 100000 := Int.ediv_le_self _ (by omega)
  have hqt : (100000 : Int).tdiv (rr : Int) = (100000 : Int) / (rr : Int) := Int.tdiv_eq_ediv_of_nonneg (by omega)
  obtain ⟨q9, hqq⟩ : ∃ q, (100000 : Int) / (rr : Int) = q := ⟨_, rfl⟩
  rw [hqq] at hq hq2 hqt hq3
  have hqw : IntKind.i64.wrap q9 = q9 := IntWalk.i64_in _ (by omega)
  have d3 : decide (q9 < (ss : Int)) = false := decide_eq_false (by omega)
  clear hq hq2 hq3 hq4
  obtain x3 := HX.out
  go_enter_defers Tryz.func65, Tryz.ntmps65
  go_wp2_with fail
  refine TF.out.mono ?_
  rintro e w1 ⟨lg, cap, rfl, hva, hlg, hb⟩
  have HVA := Lib.hid hva
  have HLG := Lib.hid (show w.heap.size + 1 ≤ lg by simpa using hlg)
  clear hva hlg
  replace HR := Lib.hid (keep_block HR.out hb)
  replace HE := Lib.hid (HE.out.below hb)
  replace HL := Lib.hid (HL.out.trans (hb.mono HL.out.size))
  clear hb
  obtain ⟨⟨r0, r1, r2, r3, r4, r5, r6, r7, r8⟩, g0, g1, g2, g3, g4, g5, g6, g7, g8⟩ := nine_at HR.out
  have HR2 := Lib.hid (set9_at HR.out (.int .i64 5) (.string { data := #[] }) (.string { data := #[] }) (.string { data := #[] }) (.bool false) (.int .i64 0) (.int .i64 (rr : Int)) (.int .i64 (ss : Int)) (.slice (some ⟨lg, 0, none⟩) L cap))
  have HL2 := Lib.hid (nine_end (x0 := (.int .i64 5)) (x1 := (.string { data := #[] })) (x2 := (.string { data := #[] })) (x3 := (.string { data := #[] })) (x4 := (.bool false)) (x5 := (.int .i64 0)) (x6 := (.int .i64 (rr : Int))) (x7 := (.int .i64 (ss : Int))) (x8 := (.slice (some ⟨lg, 0, none⟩) L cap)) HR.out HL.out (Nat.le_refl _)).1
  go_wp2_with fail
  obtain ⟨W2, hW2⟩ : ∃ W2, (((((((((w1.setCell ⟨w.heap.size, 0, none⟩ (.int .i64 5)).setCell ⟨w.heap.size, 1, none⟩ (.string { data := #[] })).setCell ⟨w.heap.size, 2, none⟩ (.string { data := #[] })).setCell ⟨w.heap.size, 3, none⟩ (.string { data := #[] })).setCell ⟨w.heap.size, 4, none⟩ (.bool false)).setCell ⟨w.heap.size, 5, none⟩ (.int .i64 0)).setCell ⟨w.heap.size, 6, none⟩ (.int .i64 (rr : Int))).setCell ⟨w.heap.size, 7, none⟩ (.int .i64 (ss : Int))).setCell ⟨w.heap.size, 8, none⟩ (.slice (some ⟨lg, 0, none⟩) L cap)) = W2 := ⟨_, rfl⟩
  rw [hW2] at HR2 HL2 ⊢
  clear r0 r1 r2 r3 r4 r5 r6 r7 r8 g0 g1 g2 g3 g4 g5 g6 g7 g8
  obtain ⟨⟨r0, r1, r2, r3, r4, r5, r6, r7, r8⟩, g0, g1, g2, g3, g4, g5, g6, g7, g8⟩ := nine_at HR2.out
  have HVB := Lib.hid (vals_other (W' := W2) HVA.out (by rw [← hW2]; exact set9_other w1 w.heap.size (.int .i64 5) (.string { data := #[] }) (.string { data := #[] }) (.string { data := #[] }) (.bool false) (.int .i64 0) (.int .i64 (rr : Int)) (.int .i64 (ss : Int)) (.slice (some ⟨lg, 0, none⟩) L cap) (show lg ≠ w.heap.size by have := HLG.out; omega)))
  clear hW2
  go_quiet (fail)
  have HR3 := Lib.hid (show (W2.drewN nq).heap[w.heap.size]? = _ from HR2.out)
  obtain ⟨nb, e0, e1, e2, e3, e4, e5, e6, e7, e8⟩ := nine_end (x0 := (.int .i64 5)) (x1 := (.string { data := #[] })) (x2 := (.string { data := #[] })) (x3 := (.string { data := #[] })) (x4 := (.bool false)) (x5 := (.int .i64 0)) (x6 := (.int .i64 (rr : Int))) (x7 := (.int .i64 (ss : Int))) (x8 := (.slice (some ⟨lg, 0, none⟩) L cap)) HR3.out (below_drewN HL2.out nq) (Nat.le_refl _)
  go_wp2
  refine leaves_cons (f := 66) (args := #[.pointer (some ⟨w.heap.size, 0, none⟩)]) (by simp) (by simp [go_sem]) ?_
  refine (idle_any _ _).mono ?_
  rintro e u' w3 ⟨rfl, rfl, rfl⟩
  have HVC := vals_other (show ValsAt (W2.drewN nq) lg 0 (numVals its) from HVB.out) (set9_other (W2.drewN nq) w.heap.size (.int .i64 5) (.string { data := #[] }) (.string { data := #[] }) (.string { data := #[] }) (.bool false) (.int .i64 0) (.int .i64 (rr : Int)) (.int .i64 (ss : Int)) (.slice (some ⟨lg, 0, none⟩) L cap) (show lg ≠ w.heap.size by have := HLG.out; omega))
  exact ⟨_, (by simp [results, Tryz.results65, go_sem, e0, e1, e2, e3, e4, e5, e6, e7, e8]), lg, cap, rfl, HVC, by have := HLG.out; omega, nb⟩

set_option maxHeartbeats 4000000 in
set_option maxRecDepth 100000 in
theorem vtab_any (r s : Nat) (A : Option Addr) (L C : Nat) (W : World) (h0 : 1 ≤ r) (h1 : r ≤ 1000) (h2 : 1 ≤ s) (h3 : s ≤ 100) :
    Calls Tryz.prog 211 #[.int .i64 (r : Int), .int .i64 (s : Int), .slice A L C] W fun e w' => e = .returned (.agg #[.int .i64 5, .string { data := #[] }, .string { data := #[] }, .string { data := #[] }, .bool false, .int .i64 0, .int .i64 (r : Int), .int .i64 (s : Int), .slice A L C]) ∧ Below W.heap.size W w' := by
  have d0 : decide ((r : Int) < 1) = false := decide_eq_false (by omega)
  have d1 : decide ((s : Int) < 1) = false := decide_eq_false (by omega)
  have d2 : decide ((100000 : Int) < (r : Int)) = false := decide_eq_false (by omega)
  have e0 : decide (r < 1) = false := decide_eq_false (by omega)
  have e1 : decide (s < 1) = false := decide_eq_false (by omega)
  have e2 : decide (100000 < r) = false := decide_eq_false (by omega)
  have e3 : decide (r = 0) = false := decide_eq_false (by omega)
  have e4 : decide (s = 0) = false := decide_eq_false (by omega)
  have e5 : (r = 0) = False := eq_false (by omega)
  have e6 : (s = 0) = False := eq_false (by omega)
  have hr0 : ((r : Int) = 0) = False := eq_false (by omega)
  have hq : 100 ≤ (100000 : Int) / (r : Int) := (Int.le_ediv_iff_mul_le (by omega)).2 (by omega)
  have hq2 : (100000 : Int) / (r : Int) ≤ 100000 := Int.ediv_le_self _ (by omega)
  have hqt : (100000 : Int).tdiv (r : Int) = (100000 : Int) / (r : Int) := Int.tdiv_eq_ediv_of_nonneg (by omega)
  obtain ⟨q, hqq⟩ : ∃ q, (100000 : Int) / (r : Int) = q := ⟨_, rfl⟩
  rw [hqq] at hq hq2 hqt
  have hqw : IntKind.i64.wrap q = q := IntWalk.i64_in _ (by omega)
  have d3 : decide (q < (s : Int)) = false := decide_eq_false (by omega)
  have HX := Lib.hid (heap_alloc_new W (.cells #[.int .i64 0, .string { data := #[] }, .string { data := #[] }, .string { data := #[] }, .bool false, .int .i64 0, .int .i64 0, .int .i64 0, .slice none 0 0] 30))
  have hlow := Lib.hid (show Below W.heap.size W (W.alloc (.cells #[.int .i64 0, .string { data := #[] }, .string { data := #[] }, .string { data := #[] }, .bool false, .int .i64 0, .int .i64 0, .int .i64 0, .slice none 0 0] 30)) from (Below.refl _ _).alloc (Nat.le_refl _) _)
  obtain ⟨R, hR⟩ : ∃ R, W.heap.size = R := ⟨_, rfl⟩
  obtain ⟨W0, hW0⟩ : ∃ Z, (W.alloc (.cells #[.int .i64 0, .string { data := #[] }, .string { data := #[] }, .string { data := #[] }, .bool false, .int .i64 0, .int .i64 0, .int .i64 0, .slice none 0 0] 30)) = Z := ⟨_, rfl⟩
  rw [hW0] at HX hlow
  have EW0 := Lib.hid hW0
  have HR := Lib.hid hR
  rw [hR] at HX
  clear hW0 hR h0 h1 h2 h3 hq hq2
  go_enter Tryz.func211, Tryz.ntmps211
  go_upto_region 1 with fail
  rw [EW0.out, HR.out]
  go_upto_region 5 with fail
  obtain ⟨⟨x0, x1, x2, x3, x4, x5, x6, x7, x8⟩, y0, y1, y2, y3, y4, y5, y6, y7, y8⟩ := nine_at HX.out
  obtain ⟨nb, z0, z1, z2, z3, z4, z5, z6, z7, z8⟩ := nine_end (x0 := (.int .i64 5)) (x1 := (.string { data := #[] })) (x2 := (.string { data := #[] })) (x3 := (.string { data := #[] })) (x4 := (.bool false)) (x5 := (.int .i64 0)) (x6 := (.int .i64 (r : Int))) (x7 := (.int .i64 (s : Int))) (x8 := (.slice A L C)) HX.out hlow.out (Nat.le_of_eq HR.out)
  have NB := Lib.hid nb
  clear nb
  go_wp2
  refine bodyPost_ret (v := .agg #[.int .i64 5, .string { data := #[] }, .string { data := #[] }, .string { data := #[] }, .bool false, .int .i64 0, .int .i64 (r : Int), .int .i64 (s : Int), .slice A L C]) (by simp [results, Tryz.results211, go_sem, z0, z1, z2, z3, z4, z5, z6, z7, z8]) rfl ⟨rfl, NB.out⟩
end Go.Proofs.YtkbhlkinlcmgoaaGreatDoor.Num

/- package value: arrays of numbers whose items begin anywhere in their block: Check, Inside. Conditions: the items are numbers that fit; the tables lie as they are laid. -/
namespace Go.Proofs.YtkbhlkinlcmgoaaGreatDoor.Num.Off
open Go.RowKit Go.Lib Num

/-- what stays while the items of an array are gone through -/
structure RowI (w : World) (g o : Nat) (qs : List Rat) (W : World) : Prop where
  row : ValsAt W g o (numVals qs)
  env : Env W
  low : Below w.heap.size w W
theorem RowI.step {w W W' : World} {g o : Nat} {qs : List Rat} (h : RowI w g o qs W) (hb : Below W.heap.size W W') : RowI w g o qs W' :=
  ⟨h.row.below hb, h.env.below hb, h.low.trans (hb.mono h.low.size)⟩
/-- the cells of item i -/
theorem item_at {W : World} {g o : Nat} {qs : List Rat} (h : ValsAt W g o (numVals qs)) (i : Nat) (hi : i < qs.length) (q : Rat) (hq : qs[i] = q) :
    W.cell? ⟨g, o + i * 9, none⟩ = some (.int .i64 1) ∧ W.cell? ⟨g, o + i * 9 + 1, none⟩ = some (.string (numS q)) ∧ W.cell? ⟨g, o + i * 9 + 2, none⟩ = some (.string (denS q)) ∧ W.cell? ⟨g, o + i * 9 + 3, none⟩ = some (.string { data := #[] }) ∧ W.cell? ⟨g, o + i * 9 + 4, none⟩ = some (.bool false) ∧ W.cell? ⟨g, o + i * 9 + 5, none⟩ = some (.int .i64 0) ∧ W.cell? ⟨g, o + i * 9 + 6, none⟩ = some (.int .i64 0) ∧ W.cell? ⟨g, o + i * 9 + 7, none⟩ = some (.int .i64 0) ∧ W.cell? ⟨g, o + i * 9 + 8, none⟩ = some (.slice none 0 0) := by
  have hl : i < (numVals qs).length := by rw [numVals_len]; exact hi
  have := h.at i hl
  rw [numVals_at qs i hl, hq] at this
  exact this

set_option maxHeartbeats 4000000 in
set_option maxRecDepth 100000 in
theorem array_ok (qs : List Rat) (r s : Int) (g o C : Nat) (w : World) (hr : 1 ≤ r) (hr9 : r ≤ 1000) (hs : 1 ≤ s) (hs9 : s ≤ 1000) (hrs : r * s = (qs.length : Int)) (hq : ∀ q ∈ qs, fits q = true) (h9 : qs.length ≤ 1000) (hv : ValsAt w g o (numVals qs)) (hE : Env w) :
    Calls Tryz.prog 63 #[.agg #[.int .i64 5, .string { data := #[] }, .string { data := #[] }, .string { data := #[] }, .bool false, .int .i64 0, .int .i64 r, .int .i64 s, .slice (some ⟨g, o, none⟩) qs.length C]] w fun e w' => e = .returned (.int .i64 0) ∧ Below w.heap.size w w' := by
  have hb : Below w.heap.size w (w.alloc (.cells #[.int .i64 5, .string { data := #[] }, .string { data := #[] }, .string { data := #[] }, .bool false, .int .i64 0, .int .i64 r, .int .i64 s, .slice (some ⟨g, o, none⟩) qs.length C] 30)) := (Below.refl _ _).alloc (Nat.le_refl _) _
  have HI0 := Lib.hid (show RowI w g o qs (w.alloc (.cells #[.int .i64 5, .string { data := #[] }, .string { data := #[] }, .string { data := #[] }, .bool false, .int .i64 0, .int .i64 r, .int .i64 s, .slice (some ⟨g, o, none⟩) qs.length C] 30)) from ⟨hv.below hb, hE.below hb, hb⟩)
  have HQ := Lib.hid hq
  have d1 : decide (r < 1) = false := decide_eq_false (by omega)
  have d2 : decide (100000 < r) = false := decide_eq_false (by omega)
  have d3 : decide (s < 1) = false := decide_eq_false (by omega)
  have d4 : decide (100000 < s) = false := decide_eq_false (by omega)
  obtain ⟨L, hL⟩ : ∃ L, qs.length = L := ⟨_, rfl⟩
  have HLL := Lib.hid hL
  rw [hL] at hrs h9 HI0 ⊢
  have d5 : decide (100000 < (L : Int)) = false := decide_eq_false (by omega)
  have hwr : IntKind.i64.wrap (L : Int) = (L : Int) := IntWalk.i64_in _ (by omega)
  clear hb hv hE hq hL
  go_enter Tryz.func63, Tryz.ntmps63
  go_wp2_with fail
  go_loopg [42] L (fun gh v42 wx => ∃ k : Nat, v42 = .int .i64 (k : Int) ∧ k ≤ L ∧ gh = L - k ∧ RowI w g o qs wx)
  case atStart => exact ⟨0, rfl, Nat.zero_le _, rfl, HI0.out⟩
  case round =>
    clear HI0
    obtain ⟨k, rfl, hk, rfl, hti⟩ := hrel
    have HTI := Lib.hid hti
    clear hti hrs hwr
    by_cases hlt : k < L
    · have hd : decide ((k : Int) < (L : Int)) = true := decide_eq_true (by omega)
      have hd2 : decide (k < L) = true := decide_eq_true hlt
      have hkq : k < qs.length := by rw [HLL.out]; exact hlt
      obtain ⟨q, hqq⟩ : ∃ q, qs[k] = q := ⟨_, rfl⟩
      have hfq : fits q = true := by rw [← hqq]; exact HQ.out _ (List.getElem_mem hkq)
      obtain ⟨c0, c1, c2, c3, c4, c5, c6, c7, c8⟩ := item_at HTI.out.row k hkq q hqq
      have TC := Lib.hid (fun W gg => check_num q W hfq gg)
      have hi0 : (0 : Int) ≤ (k : Int) := by omega
      have hi1 : (k : Int) < (L : Int) := by omega
      clear hfq hkq hqq
      have HTA := Lib.hid (HTI.out.step ((Below.refl wr.heap.size wr).alloc (Nat.le_refl _) (.cells #[.int .i64 1, .string (numS q), .string (denS q), .string { data := #[] }, .bool false, .int .i64 0, .int .i64 0, .int .i64 0, .slice none 0 0] 30)))
      go_wp2_with fail
      refine (TC.out _ HTA.out.env).mono ?_
      rintro e w2 ⟨rfl, hb⟩
      have HT2 := Lib.hid (HTA.out.step hb)
      clear hb c0 c1 c2 c3 c4 c5 c6 c7 c8
      go_wp2
      go_roundg (L - (k + 1))
      case measure => omega
      case rel => exact ⟨k + 1, by go_num, by omega, by omega, HT2.out⟩
    · have hd : decide ((k : Int) < (L : Int)) = false := decide_eq_false (by omega)
      have hd2 : decide (k < L) = false := decide_eq_false hlt
      clear hlt
      go_wp2
      go_ret
      exact ⟨rfl, HTI.out.low⟩

set_option maxHeartbeats 4000000 in
set_option maxRecDepth 100000 in
theorem check_arr (qs : List Rat) (r s : Int) (g o C : Nat) (w : World) (hr : 1 ≤ r) (hr9 : r ≤ 1000) (hs : 1 ≤ s) (hs9 : s ≤ 1000) (hrs : r * s = (qs.length : Int)) (hq : ∀ q ∈ qs, fits q = true) (h9 : qs.length ≤ 1000) (hv : ValsAt w g o (numVals qs)) (hE : Env w) :
    Calls Tryz.prog 40 #[.agg #[.int .i64 5, .string { data := #[] }, .string { data := #[] }, .string { data := #[] }, .bool false, .int .i64 0, .int .i64 r, .int .i64 s, .slice (some ⟨g, o, none⟩) qs.length C]] w fun e w' => e = .returned (.int .i64 0) ∧ Below w.heap.size w w' := by
  have TA := Lib.hid (fun W hvv gg => array_ok qs r s g o C W hr hr9 hs hs9 hrs hq h9 hvv gg)
  have HX := Lib.hid (heap_alloc_new w (.cells #[.int .i64 5, .string { data := #[] }, .string { data := #[] }, .string { data := #[] }, .bool false, .int .i64 0, .int .i64 r, .int .i64 s, .slice (some ⟨g, o, none⟩) qs.length C] 30))
  have HL := Lib.hid (show Below w.heap.size w (w.alloc (.cells #[.int .i64 5, .string { data := #[] }, .string { data := #[] }, .string { data := #[] }, .bool false, .int .i64 0, .int .i64 r, .int .i64 s, .slice (some ⟨g, o, none⟩) qs.length C] 30)) from (Below.refl _ _).alloc (Nat.le_refl _) _)
  have HE := Lib.hid (hE.below HL.out)
  have HV := Lib.hid (hv.below HL.out)
  have TZ := Lib.hid (fun W => zeros_arr r s (some ⟨g, o, none⟩) qs.length C W)
  obtain ⟨L, hL⟩ : ∃ L, qs.length = L := ⟨_, rfl⟩
  rw [hL] at TA HX HL HE TZ HV ⊢
  clear hE hv hr hr9 hs hs9 hrs hq h9 hL
  go_enter Tryz.func40, Tryz.ntmps40
  go_wp2_with fail
  refine (TZ.out _).mono ?_
  rintro e W1 ⟨rfl, hb⟩
  replace HX := Lib.hid (keep_block HX.out hb)
  replace HE := Lib.hid (HE.out.below hb)
  replace HV := Lib.hid (HV.out.below hb)
  replace HL := Lib.hid (HL.out.trans (hb.mono HL.out.size))
  clear hb
  obtain ⟨⟨x0, x1, x2, x3, x4, x5, x6, x7, x8⟩, _⟩ := nine_at HX.out
  go_wp2_with fail
  refine (TA.out _ HV.out HE.out).mono ?_
  rintro e W2 ⟨rfl, hb⟩
  replace HL := Lib.hid (HL.out.trans (hb.mono HL.out.size))
  clear hb
  go_wp2
  go_ret
  exact ⟨rfl, HL.out⟩

/-- what stays while the items are collected; the row lies ahead of the base -/
structure InI (w : World) (g o : Nat) (qs : List Rat) (v : Value) (done : List Rat) (W : World) : Prop where
  row : ValsAt W g o (numVals qs)
  env : Env W
  low : Below w.heap.size w W
  own : OwnF w.heap.size v done W
theorem InI.step {w W W' : World} {g o : Nat} {qs done : List Rat} {v : Value} (h : InI w g o qs v done W) (hb : Below W.heap.size W W') : InI w g o qs v done W' :=
  ⟨h.row.below hb, h.env.below hb, h.low.trans (hb.mono h.low.size), h.own.kept (only_of_below hb none) (by cases v.ownBlock <;> simp)⟩
theorem vals_other {W W' : World} {g o : Nat} {vs : List Val} (h : ValsAt W g o vs) (ho : W'.heap[g]? = W.heap[g]?) : ValsAt W' g o vs := by
  intro j u hj
  have := h j u hj
  rw [addr_add] at this ⊢
  simp only [World.cell?] at this ⊢
  rw [ho]; exact this
end Go.Proofs.YtkbhlkinlcmgoaaGreatDoor.Num.Off
