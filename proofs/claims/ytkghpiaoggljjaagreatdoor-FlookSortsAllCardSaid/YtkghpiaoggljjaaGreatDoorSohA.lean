/- Numbers as texts of digits, fractions, values and the functions of fmath: contracts of the program's functions, joined from smaller texts. Conditions stand at each theorem. -/
import Derived.Test.YtkghpiaoggljjaaGreatDoorSogB
import Derived.Test.YtkghpiaoggljjaaGreatDoorSodA
import Derived.Test.YtkghpiaoggljjaaGreatDoorSofA
import Derived.Test.YtkghpiaoggljjaaGreatDoorSogA
import Derived.Test.YtkghpiaoggljjaaGreatDoorNumG
import Derived.Test.YtkghpiaoggljjaaGreatDoorSodB
import Derived.Test.YtkghpiaoggljjaaGreatDoorLayA
import Derived.ProofKit
import Derived.OpenShut
set_option linter.unusedVariables false
set_option linter.unusedSimpArgs false

/- Results that are arrays: through Run's closure, Run at kinds 'a', Call and the law's own call, for flook's table. Conditions: the tables lie as they are laid; each number fits; at most 1000 numbers. -/
namespace Go.Proofs.YtkghpiaoggljjaaGreatDoor.Num.Fl.K1
open Go.RowKit Go.Lib Go.MapKept Num
set_option maxHeartbeats 4000000 in
set_option maxRecDepth 100000 in
theorem run1_tab (pb e : Nat) (sl : Value) (rr ss L : Nat) (its : List Rat) (hr1 : 1 ≤ rr) (hs1 : 1 ≤ ss) (hL9 : L ≤ 1000) (hL : rr * ss = L) (hil : its.length = L) (w : World) (hs : ∃ a l c, sl = .slice a l c) (hc : w.cell? ⟨pb, 3, none⟩ = some (.func (.func 118) #[] #[.pointer (some ⟨e, 0, none⟩)])) (hE : Env w)
  (hF : ∀ W, Below w.heap.size w W → Calls Tryz.prog 118 #[sl, .pointer (some ⟨e, 0, none⟩)] W fun e w' => ∃ lg cap, e = .returned (.agg #[.int .i64 5, .string { data := #[] }, .string { data := #[] }, .string { data := #[] }, .bool false, .int .i64 0, .int .i64 (rr : Int), .int .i64 (ss : Int), .slice (some ⟨lg, 0, none⟩) L cap]) ∧ ValsAt w' lg 0 (numVals its) ∧ W.heap.size ≤ lg ∧ Below W.heap.size W w') :
  Calls Tryz.prog 32 #[sl, .pointer (some ⟨pb, 0, none⟩)] w fun e w' => ∃ lg cap, e = .returned (.agg #[.int .i64 5, .string { data := #[] }, .string { data := #[] }, .string { data := #[] }, .bool false, .int .i64 0, .int .i64 (rr : Int), .int .i64 (ss : Int), .slice (some ⟨lg, 0, none⟩) L cap]) ∧ ValsAt w' lg 0 (numVals its) ∧ w.heap.size ≤ lg ∧ Below w.heap.size w w' := by
 have hrL : rr ≤ L := by rw [← hL]; exact Nat.le_mul_of_pos_right rr hs1
 have hsL : ss ≤ L := by rw [← hL]; exact Nat.le_mul_of_pos_left ss hr1
 obtain ⟨sa, slen, sc, rfl⟩ := hs
 have hmf : ∀ (fn : Fn) (first cap : Array Value) (w : World), (Instr.makeFunc fn first cap).run Tryz.prog w = .ok (.func fn first cap) w := fun _ _ _ _ => rfl
 have hb : Below w.heap.size w (w.alloc (.cells #[.int .i64 0, .string { data := #[] }, .string { data := #[] }, .string { data := #[] }, .bool false, .int .i64 0, .int .i64 0, .int .i64 0, .slice none 0 0] 27)) := (Below.refl _ _).alloc (Nat.le_refl _) _
 have HR := Lib.hid (heap_alloc_new w (.cells #[.int .i64 0, .string { data := #[] }, .string { data := #[] }, .string { data := #[] }, .bool false, .int .i64 0, .int .i64 0, .int .i64 0, .slice none 0 0] 27))
 have HX := Lib.hid (cell_below hc hb)
 have HL := Lib.hid hb
 have HE := Lib.hid (hE.below hb)
 have TF := Lib.hid (hF _ hb)
 clear hb hc hE hF
 have d0 : decide ((0 : Int) < (rr : Int)) = true := decide_eq_true (by omega)
 have d1 : decide (0 < rr) = true := decide_eq_true (by omega)
 have hr0 : ((rr : Int) = 0) = False := eq_false (by omega)
 have hr1' : (rr = 0) = False := eq_false (by omega)
 have hr2 : decide (rr = 0) = false := decide_eq_false (by omega)
 have hq : 100 ≤ (100000 : Int) / (rr : Int) := (Int.le_ediv_iff_mul_le (by omega)).2 (by omega)
 have hq4 : (ss : Int) * (rr : Int) = (L : Int) := by rw [← hL, Int.natCast_mul, Int.mul_comm]
 have hq3 : (ss : Int) ≤ (100000 : Int) / (rr : Int) := (Int.le_ediv_iff_mul_le (by omega)).2 (by omega)
 have hq2 : (100000 : Int) / (rr : Int) ≤ 100000 := Int.ediv_le_self _ (by omega)
 have hqt : (100000 : Int).tdiv (rr : Int) = (100000 : Int) / (rr : Int) := Int.tdiv_eq_ediv_of_nonneg (by omega)
 obtain ⟨q9, hqq⟩ : ∃ q, (100000 : Int) / (rr : Int) = q := ⟨_, rfl⟩
 rw [hqq] at hq hq2 hqt hq3
 have hqw : IntKind.i64.wrap q9 = q9 := IntWalk.i64_in _ (by omega)
 have d3 : decide (q9 < (ss : Int)) = false := decide_eq_false (by omega)
 clear hq hq2 hq3 hq4
 obtain x3 := HX.out
 go_enter_defers Tryz.func32, Tryz.ntmps32
 go_wp2_with fail
 refine TF.out.mono ?_
 rintro e w1 ⟨lg, cap, rfl, hva, hlg, hb⟩
 have HVA := Lib.hid hva
 have HLG := Lib.hid (show w.heap.size + 1 ≤ lg by simpa using hlg)
 clear hva hlg
 replace HR := Lib.hid (keep_block HR.out hb)
 replace HE := Lib.hid (HE.out.below hb)
 replace HL := Lib.hid (HL.out.trans (hb.mono HL.out.size))
 clear hb
 obtain ⟨⟨r0, r1, r2, r3, r4, r5, r6, r7, r8⟩, g0, g1, g2, g3, g4, g5, g6, g7, g8⟩ := nine_at HR.out
 have HR2 := Lib.hid (set9_at HR.out (.int .i64 5) (.string { data := #[] }) (.string { data := #[] }) (.string { data := #[] }) (.bool false) (.int .i64 0) (.int .i64 (rr : Int)) (.int .i64 (ss : Int)) (.slice (some ⟨lg, 0, none⟩) L cap))
 have HL2 := Lib.hid (nine_end (x0 := (.int .i64 5)) (x1 := (.string { data := #[] })) (x2 := (.string { data := #[] })) (x3 := (.string { data := #[] })) (x4 := (.bool false)) (x5 := (.int .i64 0)) (x6 := (.int .i64 (rr : Int))) (x7 := (.int .i64 (ss : Int))) (x8 := (.slice (some ⟨lg, 0, none⟩) L cap)) HR.out HL.out (Nat.le_refl _)).1
 go_wp2_with fail
 obtain ⟨W2, hW2⟩ : ∃ W2, (((((((((w1.setCell ⟨w.heap.size, 0, none⟩ (.int .i64 5)).setCell ⟨w.heap.size, 1, none⟩ (.string { data := #[] })).setCell ⟨w.heap.size, 2, none⟩ (.string { data := #[] })).setCell ⟨w.heap.size, 3, none⟩ (.string { data := #[] })).setCell ⟨w.heap.size, 4, none⟩ (.bool false)).setCell ⟨w.heap.size, 5, none⟩ (.int .i64 0)).setCell ⟨w.heap.size, 6, none⟩ (.int .i64 (rr : Int))).setCell ⟨w.heap.size, 7, none⟩ (.int .i64 (ss : Int))).setCell ⟨w.heap.size, 8, none⟩ (.slice (some ⟨lg, 0, none⟩) L cap)) = W2 := ⟨_, rfl⟩
 rw [hW2] at HR2 HL2 ⊢
 clear r0 r1 r2 r3 r4 r5 r6 r7 r8 g0 g1 g2 g3 g4 g5 g6 g7 g8
 obtain ⟨⟨r0, r1, r2, r3, r4, r5, r6, r7, r8⟩, g0, g1, g2, g3, g4, g5, g6, g7, g8⟩ := nine_at HR2.out
 have HVB := Lib.hid (vals_other (W' := W2) HVA.out (by rw [← hW2]; exact set9_other w1 w.heap.size (.int .i64 5) (.string { data := #[] }) (.string { data := #[] }) (.string { data := #[] }) (.bool false) (.int .i64 0) (.int .i64 (rr : Int)) (.int .i64 (ss : Int)) (.slice (some ⟨lg, 0, none⟩) L cap) (show lg ≠ w.heap.size by have := HLG.out; omega)))
 clear hW2
 go_quiet (fail)
 have HR3 := Lib.hid (show (W2.drewN nq).heap[w.heap.size]? = _ from HR2.out)
 obtain ⟨nb, e0, e1, e2, e3, e4, e5, e6, e7, e8⟩ := nine_end (x0 := (.int .i64 5)) (x1 := (.string { data := #[] })) (x2 := (.string { data := #[] })) (x3 := (.string { data := #[] })) (x4 := (.bool false)) (x5 := (.int .i64 0)) (x6 := (.int .i64 (rr : Int))) (x7 := (.int .i64 (ss : Int))) (x8 := (.slice (some ⟨lg, 0, none⟩) L cap)) HR3.out (Go.below_drewN HL2.out nq) (Nat.le_refl _)
 go_wp2
 refine leaves_cons (f := 33) (args := #[.pointer (some ⟨w.heap.size, 0, none⟩)]) (by simp) (by simp [go_sem]) ?_
 refine (idle_any _ _).mono ?_
 rintro e u' w3 ⟨rfl, rfl, rfl⟩
 have HVC := vals_other (show ValsAt (W2.drewN nq) lg 0 (numVals its) from HVB.out) (set9_other (W2.drewN nq) w.heap.size (.int .i64 5) (.string { data := #[] }) (.string { data := #[] }) (.string { data := #[] }) (.bool false) (.int .i64 0) (.int .i64 (rr : Int)) (.int .i64 (ss : Int)) (.slice (some ⟨lg, 0, none⟩) L cap) (show lg ≠ w.heap.size by have := HLG.out; omega))
 exact ⟨_, (by simp [results, Tryz.results32, go_sem, e0, e1, e2, e3, e4, e5, e6, e7, e8]), lg, cap, rfl, HVC, by have := HLG.out; omega, nb⟩

attribute [local go_sem] run_store_func
set_option maxHeartbeats 8000000 in
set_option maxRecDepth 100000 in
theorem run_a_tab (i : Nat) (r : Row) (hi : i < allRows.length) (hr : allRows[i] = r) (hnum : r.num = true) (hkd : r.kinds = { data := #[97] }) (hfr : ∀ j (hj : j < i), (allRows[i].name == (allRows[j]'(by omega)).name) = false) (vs : List Val) (b ab ao C : Nat) (rr ss L : Nat) (its : List Rat) (hr1 : 1 ≤ rr) (hs1 : 1 ≤ ss) (hL9 : L ≤ 1000) (hL : rr * ss = L) (hil : its.length = L) (hfit : ∀ q ∈ its, fits q = true) (w : World) (h0 : 0 < vs.length) (h9 : vs.length ≤ 300) (hc1 : r.least ≤ vs.length) (hc2 : (vs.length : Int) ≤ r.most) (hv : ValsAt w ab ao vs) (hE : Env w) (hT : TableAt w b allRows)
  (hC : ∀ v ∈ vs, ∀ W, Below w.heap.size w W → Calls Tryz.prog 24 #[v.agg] W fun e w' => e = .returned (.int .i64 0) ∧ Below W.heap.size W w')
  (hK : ∀ W e g cap, Below w.heap.size w W → Env W → FnAt W e r → ValsAt W g 0 vs → Calls Tryz.prog 118 #[.slice (some ⟨g, 0, none⟩) vs.length cap, .pointer (some ⟨e, 0, none⟩)] W fun e w' => ∃ lg cap, e = .returned (.agg #[.int .i64 5, .string { data := #[] }, .string { data := #[] }, .string { data := #[] }, .bool false, .int .i64 0, .int .i64 (rr : Int), .int .i64 (ss : Int), .slice (some ⟨lg, 0, none⟩) L cap]) ∧ ValsAt w' lg 0 (numVals its) ∧ W.heap.size ≤ lg ∧ Below W.heap.size W w') :
  Calls Tryz.prog 21 #[.map (some b), .string r.name, .slice (some ⟨ab, ao, none⟩) vs.length C] w fun e w' => ∃ lg cap, e = .returned (.tuple #[.agg #[.int .i64 5, .string { data := #[] }, .string { data := #[] }, .string { data := #[] }, .bool false, .int .i64 0, .int .i64 (rr : Int), .int .i64 (ss : Int), .slice (some ⟨lg, 0, none⟩) L cap], .int .i64 0]) ∧ ValsAt w' lg 0 (numVals its) ∧ w.heap.size ≤ lg ∧ Below w.heap.size w w' := by
 have hb : Below w.heap.size w (w.alloc (.cells #[.int .i64 0, .string { data := #[] }, .string { data := #[] }, .string { data := #[] }, .bool false, .int .i64 0, .int .i64 0, .int .i64 0, .slice none 0 0] 27)) := (Below.refl _ _).alloc (Nat.le_refl _) _
 have HR := Lib.hid (heap_alloc_new w (.cells #[.int .i64 0, .string { data := #[] }, .string { data := #[] }, .string { data := #[] }, .bool false, .int .i64 0, .int .i64 0, .int .i64 0, .slice none 0 0] 27))
 obtain ⟨v, hrf, hrun⟩ := (hT.below hb).look i hi hfr Tryz.underlying46 Tryz.underlying9
 rw [hr] at hrf hrun
 obtain ⟨e0, rfl, hfn⟩ := rowFn_at hrf hnum
 obtain ⟨name, least, most, kinds, num, F⟩ := r
 simp only at hkd hc1 hc2
 subst hkd
 simp only at hrun ⊢
 have HV := Lib.hid (hv.below hb)
 have HE := Lib.hid (hE.below hb)
 have HL := Lib.hid hb
 have HFN := Lib.hid hfn
 have d1 : decide ((vs.length : Int) < least) = false := decide_eq_false (by omega)
 have d2 : decide (most < (vs.length : Int)) = false := decide_eq_false (by omega)
 have hmf : ∀ (fn : Fn) (first cap : Array Value) (w : World), (Instr.makeFunc fn first cap).run Tryz.prog w = .ok (.func fn first cap) w := fun _ _ _ _ => rfl
 have hb : Below (w.alloc (.cells #[.int .i64 0, .string { data := #[] }, .string { data := #[] }, .string { data := #[] }, .bool false, .int .i64 0, .int .i64 0, .int .i64 0, .slice none 0 0] 27)).heap.size (w.alloc (.cells #[.int .i64 0, .string { data := #[] }, .string { data := #[] }, .string { data := #[] }, .bool false, .int .i64 0, .int .i64 0, .int .i64 0, .slice none 0 0] 27)) ((w.alloc (.cells #[.int .i64 0, .string { data := #[] }, .string { data := #[] }, .string { data := #[] }, .bool false, .int .i64 0, .int .i64 0, .int .i64 0, .slice none 0 0] 27)).alloc (.cells #[.int .i64 least, .int .i64 most, .string { data := #[97] }, .func (.func 118) #[] #[.pointer (some ⟨e0, 0, none⟩)]] 60)) := (Below.refl _ _).alloc (Nat.le_refl _) _
 have HX := Lib.hid (Lib.cell_of_heap (heap_alloc_new (w.alloc (.cells #[.int .i64 0, .string { data := #[] }, .string { data := #[] }, .string { data := #[] }, .bool false, .int .i64 0, .int .i64 0, .int .i64 0, .slice none 0 0] 27)) (.cells #[.int .i64 least, .int .i64 most, .string { data := #[97] }, .func (.func 118) #[] #[.pointer (some ⟨e0, 0, none⟩)]] 60)) 3)
 replace HR := Lib.hid (keep_block HR.out hb)
 replace HV := Lib.hid (HV.out.below hb)
 replace HE := Lib.hid (HE.out.below hb)
 replace HL := Lib.hid (HL.out.trans (hb.mono HL.out.size))
 replace HFN := Lib.hid (HFN.out.below hb)
 have hpos : (w.alloc (.cells #[.int .i64 0, .string { data := #[] }, .string { data := #[] }, .string { data := #[] }, .bool false, .int .i64 0, .int .i64 0, .int .i64 0, .slice none 0 0] 27)).heap.size = w.heap.size + 1 := by simp
 rw [hpos] at HX
 have TL := Lib.hid (lift_a_tab vs ab ao C (w.heap.size + 1) rr ss L its hr1 hs1 hL9 hL hil hfit ((w.alloc (.cells #[.int .i64 0, .string { data := #[] }, .string { data := #[] }, .string { data := #[] }, .bool false, .int .i64 0, .int .i64 0, .int .i64 0, .slice none 0 0] 27)).alloc (.cells #[.int .i64 least, .int .i64 most, .string { data := #[97] }, .func (.func 118) #[] #[.pointer (some ⟨e0, 0, none⟩)]] 60)) h0 h9 HV.out HE.out
  (fun v hv W h => hC v hv W (HL.out.trans (h.mono HL.out.size)))
  (fun W g cap hbw hva => by
   exact run1_tab (w.heap.size + 1) e0 (.slice (some ⟨g, 0, none⟩) vs.length cap) rr ss L its hr1 hs1 hL9 hL hil W ⟨_, _, _, rfl⟩ (cell_below HX.out hbw) (HE.out.below hbw) (fun W' hb' =>
    hK W' e0 g cap (HL.out.trans ((hbw.trans (hb'.mono hbw.size)).mono HL.out.size)) (HE.out.below (hbw.trans (hb'.mono hbw.size))) (HFN.out.below (hbw.trans (hb'.mono hbw.size))) (hva.below hb'))))
 clear hb hv hE hT hC hK hrf hfn hpos hfr hr hnum hi h0 h9 hc1 hc2
 go_enter Tryz.func21, Tryz.ntmps21
 go_wp2_with fail
 refine TL.out.mono ?_
 rintro e w2 ⟨lg, cap, rfl, hva, hlg, hb2⟩
 have HVA := Lib.hid hva
 have HLG := Lib.hid (show w.heap.size + 2 ≤ lg by simpa using hlg)
 clear hva hlg
 replace HR := Lib.hid (keep_block HR.out hb2)
 replace HL := Lib.hid (HL.out.trans (hb2.mono HL.out.size))
 clear hb2
 obtain ⟨⟨r0, r1, r2, r3, r4, r5, r6, r7, r8⟩, g0, g1, g2, g3, g4, g5, g6, g7, g8⟩ := nine_at HR.out
 obtain ⟨nb, z0, z1, z2, z3, z4, z5, z6, z7, z8⟩ := nine_end (x0 := (.int .i64 5)) (x1 := (.string { data := #[] })) (x2 := (.string { data := #[] })) (x3 := (.string { data := #[] })) (x4 := (.bool false)) (x5 := (.int .i64 0)) (x6 := (.int .i64 (rr : Int))) (x7 := (.int .i64 (ss : Int))) (x8 := (.slice (some ⟨lg, 0, none⟩) L cap)) HR.out HL.out (Nat.le_refl _)
 have HVB := Lib.hid (vals_other HVA.out (set9_other w2 w.heap.size (.int .i64 5) (.string { data := #[] }) (.string { data := #[] }) (.string { data := #[] }) (.bool false) (.int .i64 0) (.int .i64 (rr : Int)) (.int .i64 (ss : Int)) (.slice (some ⟨lg, 0, none⟩) L cap) (show lg ≠ w.heap.size by have := HLG.out; omega)))
 have NB := Lib.hid nb
 clear nb
 go_wp2
 refine bodyPost_ret (v := .tuple #[.agg #[.int .i64 5, .string { data := #[] }, .string { data := #[] }, .string { data := #[] }, .bool false, .int .i64 0, .int .i64 (rr : Int), .int .i64 (ss : Int), .slice (some ⟨lg, 0, none⟩) L cap], .int .i64 0]) (by simp [results, Tryz.results21, go_sem, z0, z1, z2, z3, z4, z5, z6, z7, z8]) rfl ⟨lg, cap, rfl, HVB.out, by have := HLG.out; omega, NB.out⟩

set_option maxHeartbeats 4000000 in
set_option maxRecDepth 100000 in
theorem call_tab (name : ByteArray) (sl : Value) (rr ss L : Nat) (its : List Rat) (w : World) (hs : ∃ a l c, sl = .slice a l c)
  (hRun : ∀ W b, Below w.heap.size w W → TableAt W b allRows → Calls Tryz.prog 21 #[.map (some b), .string name, sl] W fun e w' => ∃ lg cap, e = .returned (.tuple #[.agg #[.int .i64 5, .string { data := #[] }, .string { data := #[] }, .string { data := #[] }, .bool false, .int .i64 0, .int .i64 (rr : Int), .int .i64 (ss : Int), .slice (some ⟨lg, 0, none⟩) L cap], .int .i64 0]) ∧ ValsAt w' lg 0 (numVals its) ∧ W.heap.size ≤ lg ∧ Below W.heap.size W w') :
  Calls Tryz.prog 11 #[.string name, sl] w fun e w' => ∃ lg cap, e = .returned (.tuple #[.agg #[.int .i64 5, .string { data := #[] }, .string { data := #[] }, .string { data := #[] }, .bool false, .int .i64 0, .int .i64 (rr : Int), .int .i64 (ss : Int), .slice (some ⟨lg, 0, none⟩) L cap], .int .i64 0]) ∧ ValsAt w' lg 0 (numVals its) ∧ w.heap.size ≤ lg ∧ Below w.heap.size w w' := by
 obtain ⟨sa, slen, sc, rfl⟩ := hs
 have hb : Below w.heap.size w (w.alloc (.cells #[.int .i64 0, .string { data := #[] }, .string { data := #[] }, .string { data := #[] }, .bool false, .int .i64 0, .int .i64 0, .int .i64 0, .slice none 0 0] 27)) := (Below.refl _ _).alloc (Nat.le_refl _) _
 have HR := Lib.hid (heap_alloc_new w (.cells #[.int .i64 0, .string { data := #[] }, .string { data := #[] }, .string { data := #[] }, .bool false, .int .i64 0, .int .i64 0, .int .i64 0, .slice none 0 0] 27))
 have HL := Lib.hid hb
 have TR := Lib.hid hRun
 clear hRun hb
 go_enter Tryz.func11, Tryz.ntmps11
 go_wp2_with fail
 refine (table_any _).mono ?_
 rintro e W1 ⟨b, rfl, ht, hb⟩
 have HT := Lib.hid ht
 clear ht
 replace HR := Lib.hid (keep_block HR.out hb)
 replace HL := Lib.hid (HL.out.trans (hb.mono HL.out.size))
 clear hb
 go_wp2_with fail
 refine (TR.out _ _ HL.out HT.out).mono ?_
 rintro e W2 ⟨lg, cap, rfl, hva, hlg, hb⟩
 have HVA := Lib.hid hva
 have HLG := Lib.hid (show w.heap.size < lg by have := heap_lt HR.out; omega)
 clear hva hlg
 replace HR := Lib.hid (keep_block HR.out hb)
 replace HL := Lib.hid (HL.out.trans (hb.mono HL.out.size))
 clear hb
 obtain ⟨⟨r0, r1, r2, r3, r4, r5, r6, r7, r8⟩, g0, g1, g2, g3, g4, g5, g6, g7, g8⟩ := nine_at HR.out
 obtain ⟨nb, z0, z1, z2, z3, z4, z5, z6, z7, z8⟩ := nine_end (x0 := (.int .i64 5)) (x1 := (.string { data := #[] })) (x2 := (.string { data := #[] })) (x3 := (.string { data := #[] })) (x4 := (.bool false)) (x5 := (.int .i64 0)) (x6 := (.int .i64 (rr : Int))) (x7 := (.int .i64 (ss : Int))) (x8 := (.slice (some ⟨lg, 0, none⟩) L cap)) HR.out HL.out (Nat.le_refl _)
 have HVB := Lib.hid (vals_other HVA.out (set9_other W2 w.heap.size (.int .i64 5) (.string { data := #[] }) (.string { data := #[] }) (.string { data := #[] }) (.bool false) (.int .i64 0) (.int .i64 (rr : Int)) (.int .i64 (ss : Int)) (.slice (some ⟨lg, 0, none⟩) L cap) (show lg ≠ w.heap.size by have := HLG.out; omega)))
 have NB := Lib.hid nb
 clear nb
 go_wp2
 refine bodyPost_ret (v := .tuple #[.agg #[.int .i64 5, .string { data := #[] }, .string { data := #[] }, .string { data := #[] }, .bool false, .int .i64 0, .int .i64 (rr : Int), .int .i64 (ss : Int), .slice (some ⟨lg, 0, none⟩) L cap], .int .i64 0]) (by simp [results, Tryz.results11, go_sem, z0, z1, z2, z3, z4, z5, z6, z7, z8]) rfl ⟨lg, cap, rfl, HVB.out, by have := HLG.out; omega, NB.out⟩

set_option maxHeartbeats 4000000 in
set_option maxRecDepth 100000 in
theorem math_tab (name : ByteArray) (sl : Value) (rr ss L : Nat) (its : List Rat) (w : World) (hs : ∃ a l c, sl = .slice a l c)
  (hRun : ∀ W b, Below w.heap.size w W → TableAt W b allRows → Calls Tryz.prog 21 #[.map (some b), .string name, sl] W fun e w' => ∃ lg cap, e = .returned (.tuple #[.agg #[.int .i64 5, .string { data := #[] }, .string { data := #[] }, .string { data := #[] }, .bool false, .int .i64 0, .int .i64 (rr : Int), .int .i64 (ss : Int), .slice (some ⟨lg, 0, none⟩) L cap], .int .i64 0]) ∧ ValsAt w' lg 0 (numVals its) ∧ W.heap.size ≤ lg ∧ Below W.heap.size W w') :
  Calls Tryz.prog 6 #[.string name, sl] w fun e w' => ∃ lg cap, e = .returned (.agg #[.int .i64 5, .string { data := #[] }, .string { data := #[] }, .string { data := #[] }, .bool false, .int .i64 0, .int .i64 (rr : Int), .int .i64 (ss : Int), .slice (some ⟨lg, 0, none⟩) L cap]) ∧ ValsAt w' lg 0 (numVals its) ∧ w.heap.size ≤ lg ∧ Below w.heap.size w w' := by
 have hb : Below w.heap.size w (w.alloc (.cells #[.int .i64 0, .string { data := #[] }, .string { data := #[] }, .string { data := #[] }, .bool false, .int .i64 0, .int .i64 0, .int .i64 0, .slice none 0 0] 27)) := (Below.refl _ _).alloc (Nat.le_refl _) _
 have HR := Lib.hid (heap_alloc_new w (.cells #[.int .i64 0, .string { data := #[] }, .string { data := #[] }, .string { data := #[] }, .bool false, .int .i64 0, .int .i64 0, .int .i64 0, .slice none 0 0] 27))
 have HL := Lib.hid hb
 have TC := Lib.hid (call_tab name sl rr ss L its (w.alloc (.cells #[.int .i64 0, .string { data := #[] }, .string { data := #[] }, .string { data := #[] }, .bool false, .int .i64 0, .int .i64 0, .int .i64 0, .slice none 0 0] 27)) hs (fun W b h => hRun W b (hb.trans (h.mono hb.size))))
 obtain ⟨sa, slen, sc, rfl⟩ := hs
 clear hRun hb
 go_enter Tryz.func6, Tryz.ntmps6
 go_wp2_with fail
 refine TC.out.mono ?_
 rintro e W1 ⟨lg, cap, rfl, hva, hlg, hb⟩
 have HVA := Lib.hid hva
 have HLG := Lib.hid (show w.heap.size < lg by have := heap_lt HR.out; omega)
 clear hva hlg
 replace HR := Lib.hid (keep_block HR.out hb)
 replace HL := Lib.hid (HL.out.trans (hb.mono HL.out.size))
 clear hb
 have hlt := heap_lt HR.out
 obtain ⟨⟨r0, r1, r2, r3, r4, r5, r6, r7, r8⟩, g0, g1, g2, g3, g4, g5, g6, g7, g8⟩ := nine_at HR.out
 have HF1 := Lib.hid (set9_at HR.out (.int .i64 5) (.string { data := #[] }) (.string { data := #[] }) (.string { data := #[] }) (.bool false) (.int .i64 0) (.int .i64 (rr : Int)) (.int .i64 (ss : Int)) (.slice (some ⟨lg, 0, none⟩) L cap))
 have HF2 := Lib.hid ((Below.heap_alloc _ (.cells #[.int .i64 5, .string { data := #[] }, .string { data := #[] }, .string { data := #[] }, .bool false, .int .i64 0, .int .i64 (rr : Int), .int .i64 (ss : Int), .slice (some ⟨lg, 0, none⟩) L cap] 27) _ (heap_lt HF1.out)).trans HF1.out)
 have HB2 := Lib.hid (nine_end (x0 := (.int .i64 5)) (x1 := (.string { data := #[] })) (x2 := (.string { data := #[] })) (x3 := (.string { data := #[] })) (x4 := (.bool false)) (x5 := (.int .i64 0)) (x6 := (.int .i64 (rr : Int))) (x7 := (.int .i64 (ss : Int))) (x8 := (.slice (some ⟨lg, 0, none⟩) L cap)) HR.out HL.out (Nat.le_refl _)).1
 have HZ2 := Lib.hid (HB2.out.alloc HB2.out.size (.cells #[.int .i64 5, .string { data := #[] }, .string { data := #[] }, .string { data := #[] }, .bool false, .int .i64 0, .int .i64 (rr : Int), .int .i64 (ss : Int), .slice (some ⟨lg, 0, none⟩) L cap] 27))
 have HA := Lib.hid ((Below.heap_alloc W1 (.cells #[.int .i64 5, .string { data := #[] }, .string { data := #[] }, .string { data := #[] }, .bool false, .int .i64 0, .int .i64 (rr : Int), .int .i64 (ss : Int), .slice (some ⟨lg, 0, none⟩) L cap] 27) _ hlt).trans HR.out)
 have HVB := Lib.hid (vals_other (HVA.out.below ((Below.refl W1.heap.size W1).alloc (Nat.le_refl _) (.cells #[.int .i64 5, .string { data := #[] }, .string { data := #[] }, .string { data := #[] }, .bool false, .int .i64 0, .int .i64 (rr : Int), .int .i64 (ss : Int), .slice (some ⟨lg, 0, none⟩) L cap] 27))) (set9_other (W1.alloc (.cells #[.int .i64 5, .string { data := #[] }, .string { data := #[] }, .string { data := #[] }, .bool false, .int .i64 0, .int .i64 (rr : Int), .int .i64 (ss : Int), .slice (some ⟨lg, 0, none⟩) L cap] 27)) w.heap.size (.int .i64 5) (.string { data := #[] }) (.string { data := #[] }) (.string { data := #[] }) (.bool false) (.int .i64 0) (.int .i64 (rr : Int)) (.int .i64 (ss : Int)) (.slice (some ⟨lg, 0, none⟩) L cap) (show lg ≠ w.heap.size by have := HLG.out; omega)))
 have HVC := Lib.hid (vals_other (HVA.out) (set9_other W1 w.heap.size (.int .i64 5) (.string { data := #[] }) (.string { data := #[] }) (.string { data := #[] }) (.bool false) (.int .i64 0) (.int .i64 (rr : Int)) (.int .i64 (ss : Int)) (.slice (some ⟨lg, 0, none⟩) L cap) (show lg ≠ w.heap.size by have := HLG.out; omega)))
 obtain ⟨⟨a0, a1, a2, a3, a4, a5, a6, a7, a8⟩, b0, b1, b2, b3, b4, b5, b6, b7, b8⟩ := nine_at HA.out
 obtain ⟨⟨z0, z1, z2, z3, z4, z5, z6, z7, z8⟩, _⟩ := nine_at HF2.out
 go_wp2
 refine bodyPost_ret (v := .agg #[.int .i64 5, .string { data := #[] }, .string { data := #[] }, .string { data := #[] }, .bool false, .int .i64 0, .int .i64 (rr : Int), .int .i64 (ss : Int), .slice (some ⟨lg, 0, none⟩) L cap]) (by simp [results, Tryz.results6, go_sem, z0, z1, z2, z3, z4, z5, z6, z7, z8]) rfl ⟨lg, cap, rfl, HVC.out.below ((Below.refl _ _).alloc (Nat.le_refl _) _), by have := HLG.out; omega, HZ2.out⟩
end Go.Proofs.YtkghpiaoggljjaaGreatDoor.Num.Fl.K1

/- package flook: the law's look at SORT and SORTBY. Conditions: sizes from 1 on, at most thirty rows; each number fits; the numbers lie in memory; the tables lie as they are laid. -/
namespace Go.Proofs.YtkghpiaoggljjaaGreatDoor.Num.Fl
open Go.RowKit Go.Lib Go.MapKept Num

theorem rowsL_len {qs : List Rat} {r s L : Nat} (hL : r * s = L) (hq : qs.length = L) : ∀ l : List Nat, (∀ x ∈ l, x < r) → (rowsL qs s l).length = l.length * s
 | [], _ => by simp [rowsL]
 | x :: l, h => by
  have := rowsL_len hL hq l (fun y hy => h y (by simp [hy]))
  unfold rowsL at this ⊢
  rw [List.flatMap_cons, List.length_append, this, rowAt_len hL hq (h x (by simp)), List.length_cons, Nat.add_mul, Nat.one_mul, Nat.add_comm]
theorem rowsL_mem {qs : List Rat} {s : Nat} {l : List Nat} {q : Rat} (h : q ∈ rowsL qs s l) : q ∈ qs := by
 unfold rowsL at h
 obtain ⟨x, _, hx⟩ := List.mem_flatMap.1 h
 unfold rowAt at hx
 exact List.mem_of_mem_drop (List.mem_of_mem_take hx)
theorem sorted_len {qs : List Rat} {r s L : Nat} {cf : Nat → Nat → Int} (hL : r * s = L) (hq : qs.length = L) : (rowsL qs s (sortL cf r)).length = L := by
 rw [rowsL_len hL hq _ (sortL_lt r), sortL_len, hL]
set_option maxHeartbeats 1000000 in
theorem look_SORT (r s c gi Ci ab ao C L : Nat) (k : Int) (qs : List Rat) (w : World) (hk : k = 1 ∨ k = -1) (h1 : 1 ≤ r) (h30 : r ≤ 30) (h2 : 1 ≤ s) (hs9 : s ≤ 100) (hc : c < s) (hL : r * s = L) (hq : qs.length = L) (h9 : L ≤ 1000) (hLC : L ≤ Ci) (hfit : ∀ q ∈ qs, fits q = true) (hv : ValsAt w ab ao [arrVal' (r : Int) (s : Int) gi L Ci, numVal' (((c + 1 : Nat) : Int) : Rat), numVal' ((k : Int) : Rat)]) (hav : ValsAt w gi 0 (numVals qs)) (hE : Env w) :
  Calls Tryz.prog 6 #[.string { data := #[83, 79, 82, 84] }, .slice (some ⟨ab, ao, none⟩) 3 C] w fun e w' => ∃ lg cap, e = .returned (.agg #[.int .i64 5, .string { data := #[] }, .string { data := #[] }, .string { data := #[] }, .bool false, .int .i64 0, .int .i64 (r : Int), .int .i64 (s : Int), .slice (some ⟨lg, 0, none⟩) L cap]) ∧ ValsAt w' lg 0 (numVals (rowsL qs s (sortL (Mt.cfS qs s c k) r))) ∧ w.heap.size ≤ lg ∧ L ≤ cap ∧ Below w.heap.size w w' := by
 have hLp : 0 < L := by rw [← hL]; exact Nat.mul_pos (by omega) h2
 have hgl : gi < w.heap.size := cell_lt (hav.at 0 (by rw [numVals_len, hq]; exact hLp)).1
 have hcn : (c : Int) + 1 = ((c + 1 : Nat) : Int) := rfl
 have hka : k.natAbs ≤ 1 := by rcases hk with e | e <;> rw [e] <;> decide
 exact K4.math_tab { data := #[83, 79, 82, 84] } (.slice (some ⟨ab, ao, none⟩) 3 C) r s L _ w ⟨_, _, _, rfl⟩ (fun W b hb hT =>
  K4.run_asss_tab 22 ⟨{ data := #[83, 79, 82, 84] }, 1, 4, { data := #[97, 115, 115, 115] }, true, 67⟩
  (by decide) rfl rfl rfl (fr_of 22 (by decide) (by kernel_rfl)) [arrVal' (r : Int) (s : Int) gi L Ci, numVal' (((c + 1 : Nat) : Int) : Rat), numVal' ((k : Int) : Rat)] b ab ao C r s L (rowsL qs s (sortL (Mt.cfS qs s c k) r)) h1 h2 h9 hL (sorted_len hL hq) (fun q h => hfit q (rowsL_mem h)) W (show 0 < 3 by decide) (show 3 ≤ 300 by decide) (show (1 : Int) ≤ 3 by decide) (show (3 : Int) ≤ 4 by decide)
   (fun _ => rfl) (fun _ => rfl)
   (fun i hi h2 => by
    have hi3 : i < 3 := hi
    omega)
   (hv.below hb) (hE.below hb) hT
   (fun u hu W' h2' => by
    simp only [List.mem_cons, List.not_mem_nil, or_false] at hu
    have hE2 := (hE.below hb).below h2'
    rcases hu with rfl | rfl | rfl
    ·have h := check_arr qs (r : Int) (s : Int) gi Ci W' (by omega) (by omega) (by omega) (by omega) (by rw [hq, ← hL, Int.natCast_mul]) hfit (by omega) ((hav.below hb).below h2') hE2
     rw [hq] at h
     exact h
    ·exact check_num _ W' (fits_int _ (by omega)) hE2
    ·exact check_num _ W' (fits_int _ (by omega)) hE2)
   (fun W' e g cap hb' hE' hfn hva => entry_tab ⟨{ data := #[83, 79, 82, 84] }, 1, 4, { data := #[97, 115, 115, 115] }, true, 67⟩ g cap e [arrVal' (r : Int) (s : Int) gi L Ci, numVal' (((c + 1 : Nat) : Int) : Rat), numVal' ((k : Int) : Rat)] r s L 0 (rowsL qs s (sortL (Mt.cfS qs s c k) r)) W' hfn (enters_of Tryz.func67 (by kernel_rfl) rfl) hE' hva (fun W'' b' hb'' hE'' hP hlt hge ha hva' hne =>
    (sort_fn r s c b' g cap gi L Ci k qs W'' hk h1 h30 h2 hs9 hc hL hq h9 hLC hfit ha hva' (((hav.below hb).below hb').below hb'') hne (by
     have h1 := hb'.size
     have h2 := hb.size
     omega) hE'' hP).mono (by
     rintro e w' ⟨lg, cap, rfl, h1, h2, h3⟩
     exact ⟨lg, cap, rfl, h1, h2.1, h3⟩)) (show 0 < 3 by decide)))
set_option maxHeartbeats 1000000 in
theorem look_SORTBY (r s c gi Ci gk Ck ab ao C L : Nat) (k : Int) (qs ks : List Rat) (w : World) (hk : k = 1 ∨ k = -1) (h1 : 1 ≤ r) (h30 : r ≤ 30) (h2 : 1 ≤ s) (hs9 : s ≤ 100) (hL : r * s = L) (hq : qs.length = L) (hkl : ks.length = r) (h9 : L ≤ 1000) (hLC : L ≤ Ci) (hfit : ∀ q ∈ qs, fits q = true) (hfk : ∀ q ∈ ks, fits q = true) (hke : ∀ x y, cmpR (ks.getD x 0) (ks.getD y 0) * k = Mt.cfS qs s c k x y) (hv : ValsAt w ab ao [arrVal' (r : Int) (s : Int) gi L Ci, arrVal' (r : Int) 1 gk r Ck, numVal' ((k : Int) : Rat)]) (hav : ValsAt w gi 0 (numVals qs)) (hkv : ValsAt w gk 0 (numVals ks)) (hE : Env w) :
  Calls Tryz.prog 6 #[.string { data := #[83, 79, 82, 84, 66, 89] }, .slice (some ⟨ab, ao, none⟩) 3 C] w fun e w' => ∃ lg cap, e = .returned (.agg #[.int .i64 5, .string { data := #[] }, .string { data := #[] }, .string { data := #[] }, .bool false, .int .i64 0, .int .i64 (r : Int), .int .i64 (s : Int), .slice (some ⟨lg, 0, none⟩) L cap]) ∧ ValsAt w' lg 0 (numVals (rowsL qs s (sortL (Mt.cfS qs s c k) r))) ∧ w.heap.size ≤ lg ∧ Below w.heap.size w w' := by
 have hLp : 0 < L := by rw [← hL]; exact Nat.mul_pos (by omega) h2
 have hgl : gi < w.heap.size := cell_lt (hav.at 0 (by rw [numVals_len, hq]; exact hLp)).1
 have hgk : gk < w.heap.size := cell_lt (hkv.at 0 (by rw [numVals_len, hkl]; omega)).1
 have hka : k.natAbs ≤ 1 := by rcases hk with e | e <;> rw [e] <;> decide
 exact K1.math_tab { data := #[83, 79, 82, 84, 66, 89] } (.slice (some ⟨ab, ao, none⟩) 3 C) r s L _ w ⟨_, _, _, rfl⟩ (fun W b hb hT =>
  K1.run_a_tab 23 ⟨{ data := #[83, 79, 82, 84, 66, 89] }, 2, 255, { data := #[97] }, true, 68⟩
  (by decide) rfl rfl rfl (fr_of 23 (by decide) (by kernel_rfl)) [arrVal' (r : Int) (s : Int) gi L Ci, arrVal' (r : Int) 1 gk r Ck, numVal' ((k : Int) : Rat)] b ab ao C r s L (rowsL qs s (sortL (Mt.cfS qs s c k) r)) h1 h2 h9 hL (sorted_len hL hq) (fun q h => hfit q (rowsL_mem h)) W (show 0 < 3 by decide) (show 3 ≤ 300 by decide) (show (2 : Int) ≤ 3 by decide) (show (3 : Int) ≤ 255 by decide)
   (hv.below hb) (hE.below hb) hT
   (fun u hu W' h2' => by
    simp only [List.mem_cons, List.not_mem_nil, or_false] at hu
    have hE2 := (hE.below hb).below h2'
    rcases hu with rfl | rfl | rfl
    ·have h := check_arr qs (r : Int) (s : Int) gi Ci W' (by omega) (by omega) (by omega) (by omega) (by rw [hq, ← hL, Int.natCast_mul]) hfit (by omega) ((hav.below hb).below h2') hE2
     rw [hq] at h
     exact h
    ·have h := check_arr ks (r : Int) 1 gk Ck W' (by omega) (by omega) (by omega) (by omega) (by rw [hkl, Int.mul_one]) hfk (by omega) ((hkv.below hb).below h2') hE2
     rw [hkl] at h
     exact h
    ·exact check_num _ W' (fits_int _ (by omega)) hE2)
   (fun W' e g cap hb' hE' hfn hva => entry_tab ⟨{ data := #[83, 79, 82, 84, 66, 89] }, 2, 255, { data := #[97] }, true, 68⟩ g cap e [arrVal' (r : Int) (s : Int) gi L Ci, arrVal' (r : Int) 1 gk r Ck, numVal' ((k : Int) : Rat)] r s L 0 (rowsL qs s (sortL (Mt.cfS qs s c k) r)) W' hfn (enters_of Tryz.func68 (by kernel_rfl) rfl) hE' hva (fun W'' b' hb'' hE'' hP hlt hge ha hva' hne =>
    (sortBy_fn r s c b' g cap gi L Ci gk Ck k qs ks W'' hk h1 h30 h2 hs9 hL hq hkl h9 hLC hfk hke ha hva' (((hav.below hb).below hb').below hb'') (((hkv.below hb).below hb').below hb'') hne (by
     have h1 := hb'.size
     have h2 := hb.size
     omega) (by
     have h1 := hb'.size
     have h2 := hb.size
     omega) hE'' hP).mono (by
     rintro e w' ⟨lg, cap, rfl, h1, h2, h3⟩
     exact ⟨lg, cap, rfl, h1, h2.1, h3⟩)) (show 0 < 3 by decide)))
end Go.Proofs.YtkghpiaoggljjaaGreatDoor.Num.Fl

/- The sorted table as numbers: its rows are the table's, in order; sorted again it stays; its column of keys. Plain: of no program. -/
namespace Go.Proofs.YtkghpiaoggljjaaGreatDoor.Num.Fl
open Num

theorem rowsL_range {qs : List Rat} {s : Nat} : ∀ r, r * s ≤ qs.length → rowsL qs s (List.range r) = qs.take (r * s)
 | 0, _ => by simp [rowsL]
 | r + 1, h => by
  have h1 : r * s + s ≤ qs.length := by rw [Nat.add_mul, Nat.one_mul] at h; exact h
  have ih := rowsL_range (qs := qs) (s := s) r (by omega)
  unfold rowsL at ih ⊢
  rw [List.range_succ, List.flatMap_append, ih, List.flatMap_cons, List.flatMap_nil, List.append_nil, Nat.add_mul, Nat.one_mul, List.take_add]
  rfl
theorem rowsL_all {qs : List Rat} {r s L : Nat} (hL : r * s = L) (hq : qs.length = L) : rowsL qs s (List.range r) = qs := by
 rw [rowsL_range r (by omega), List.take_of_length_le (by omega)]
theorem sorted_perm {qs : List Rat} {r s L : Nat} {cf : Nat → Nat → Int} (hL : r * s = L) (hq : qs.length = L) : (rowsL qs s (sortL cf r)).Perm qs := by
 have h := (sortL_perm (cf := cf) r).flatMap_right (rowAt qs s)
 have e := rowsL_all hL hq
 unfold rowsL at e ⊢
 rw [e] at h
 exact h
theorem rowAt_getD {qs : List Rat} {r s x c L : Nat} (hL : r * s = L) (_hq : qs.length = L) (hx : x < r) (hc : c < s) : (rowAt qs s x).getD c 0 = qs.getD (x * s + c) 0 := by
 have := Mt.place_lt hx hc hL
 unfold rowAt
 rw [List.getD_eq_getElem?_getD, List.getD_eq_getElem?_getD, List.getElem?_take, if_pos hc, List.getElem?_drop]
theorem rowsL_getD {qs : List Rat} {r s c L : Nat} (hL : r * s = L) (hq : qs.length = L) (hc : c < s) : ∀ (l : List Nat) (i : Nat) (h : i < l.length), (∀ x ∈ l, x < r) → (rowsL qs s l).getD (i * s + c) 0 = qs.getD (l[i] * s + c) 0
 | [], i, h, _ => absurd h (by simp)
 | x :: l, 0, _, hl => by
  have hx := hl x (by simp)
  have e := rowAt_len hL hq hx
  unfold rowsL
  rw [List.flatMap_cons, Nat.zero_mul, Nat.zero_add, List.getElem_cons_zero, ← rowAt_getD hL hq hx hc, List.getD_eq_getElem?_getD, List.getD_eq_getElem?_getD, List.getElem?_append_left (by omega)]
 | x :: l, i + 1, h, hl => by
  have hx := hl x (by simp)
  have e := rowAt_len hL hq hx
  have ih := rowsL_getD hL hq hc l i (by simpa using h) (fun y hy => hl y (by simp [hy]))
  unfold rowsL at ih ⊢
  rw [List.flatMap_cons, List.getElem_cons_succ, ← ih, List.getD_eq_getElem?_getD, List.getD_eq_getElem?_getD, Nat.add_mul, Nat.one_mul, List.getElem?_append_right (by omega), e]
  congr 2
  omega
theorem sorted_getD {qs : List Rat} {r s c L i : Nat} {cf : Nat → Nat → Int} (hL : r * s = L) (hq : qs.length = L) (hc : c < s) (hi : i < r) : (rowsL qs s (sortL cf r)).getD (i * s + c) 0 = qs.getD ((sortL cf r)[i]'(by rw [sortL_len]; exact hi) * s + c) 0 :=
 rowsL_getD hL hq hc _ i (by rw [sortL_len]; exact hi) (sortL_lt r)
theorem sorted_lt {qs : List Rat} {r s c L i j : Nat} {k : Int} (hk : k = 1 ∨ k = -1) (hL : r * s = L) (hq : qs.length = L) (hc : c < s) (hij : i < j) (hj : j < r) : Mt.cfS (rowsL qs s (sortL (Mt.cfS qs s c k) r)) s c k i j ≤ 0 := by
 have h := List.pairwise_iff_getElem.1 (sortL_pair (cfS_ord qs s c k hk) r) i j (by rw [sortL_len]; omega) (by rw [sortL_len]; exact hj) hij
 have e : Mt.cfS (rowsL qs s (sortL (Mt.cfS qs s c k) r)) s c k i j = Mt.cfS qs s c k ((sortL (Mt.cfS qs s c k) r)[i]'(by rw [sortL_len]; omega)) ((sortL (Mt.cfS qs s c k) r)[j]'(by rw [sortL_len]; exact hj)) := by
  conv => lhs; unfold Mt.cfS
  rw [sorted_getD hL hq hc (show i < r by omega), sorted_getD hL hq hc hj]
  rfl
 rw [e]
 rcases h with h | h <;> omega
theorem sorted_again {qs : List Rat} {r s c L : Nat} {k : Int} (hk : k = 1 ∨ k = -1) (hL : r * s = L) (hq : qs.length = L) (hc : c < s) : rowsL (rowsL qs s (sortL (Mt.cfS qs s c k) r)) s (sortL (Mt.cfS (rowsL qs s (sortL (Mt.cfS qs s c k) r)) s c k) r) = rowsL qs s (sortL (Mt.cfS qs s c k) r) := by
 have hlt := fun i j hij hj => sorted_lt (i := i) (j := j) hk hL hq hc hij hj
 have hlen : (rowsL qs s (sortL (Mt.cfS qs s c k) r)).length = L := sorted_len hL hq
 generalize rowsL qs s (sortL (Mt.cfS qs s c k) r) = its at hlt hlen ⊢
 rw [sortL_self (cfS_ord its s c k hk) (fun i j hij hj => by
  have := hlt i j hij hj
  unfold Lt
  omega)]
 exact rowsL_all hL hlen
theorem colL_getD {qs : List Rat} {r s c L : Nat} (hL : r * s = L) (hq : qs.length = L) (x : Nat) : (colL qs r s c).getD x 0 = qs.getD (x * s + c) 0 := by
 by_cases h : x < r
 ·simp [colL, List.getD_eq_getElem?_getD, h]
 ·have h1 : r * s ≤ x * s := Nat.mul_le_mul (by omega) (Nat.le_refl _)
  rw [List.getD_eq_getElem?_getD, List.getD_eq_getElem?_getD, List.getElem?_eq_none (by rw [colL_len]; omega), List.getElem?_eq_none (by omega)]
end Go.Proofs.YtkghpiaoggljjaaGreatDoor.Num.Fl

/- value.Same at two square arrays of the same numbers. No conditions but on sizes. -/
namespace Go.Proofs.YtkghpiaoggljjaaGreatDoor.Num.Mt
open Go.RowKit Go.Lib Num

/-- what stays while the items are compared -/
structure EqI (w : World) (g1 g2 : Nat) (qs : List Rat) (W : World) : Prop where
 a : ValsAt W g1 0 (numVals qs)
 b : ValsAt W g2 0 (numVals qs)
 low : Below w.heap.size w W
theorem EqI.step {w W W' : World} {g1 g2 : Nat} {qs : List Rat} (h : EqI w g1 g2 qs W) (hb : Below W.heap.size W W') : EqI w g1 g2 qs W' := ⟨h.a.below hb, h.b.below hb, h.low.trans (hb.mono h.low.size)⟩
set_option maxHeartbeats 4000000 in
set_option maxRecDepth 100000 in
theorem equal_vals (qs : List Rat) (L g1 g2 c1 c2 : Nat) (w : World) (hL : qs.length = L) (h9 : L ≤ 1000) (h1 : ValsAt w g1 0 (numVals qs)) (h2 : ValsAt w g2 0 (numVals qs)) :
  Calls Tryz.prog 19 #[.slice (some ⟨g1, 0, none⟩) L c1, .slice (some ⟨g2, 0, none⟩) L c2, .func (.func 9) #[] #[]] w fun e w' => e = .returned (.bool true) ∧ Below w.heap.size w w' := by
 have HI0 := Lib.hid (show EqI w g1 g2 qs w from ⟨h1, h2, Below.refl _ _⟩)
 have HL := Lib.hid hL
 have e0 : ((L : Int) != (L : Int)) = false := by simp
 clear h1 h2 hL
 go_enter Tryz.func19, Tryz.ntmps19
 go_wp2_with fail
 go_loopg [7, 8, 9, 17] L (fun gh v7 v8 v9 v17 wx => ∃ k : Nat, v17 = .int .i64 (k : Int) ∧ k ≤ L ∧ gh = L - k ∧ EqI w g1 g2 qs wx)
 case atStart => exact ⟨0, rfl, Nat.zero_le _, rfl, HI0.out⟩
 case round =>
  clear HI0
  obtain ⟨k, rfl, hk, hgk, hI⟩ := hrel
  have HI := Lib.hid hI
  clear hI
  by_cases hlt : k < L
  ·have hdd : decide ((k : Int) < (L : Int)) = true := decide_eq_true (by omega)
   have hdd2 : decide (k < L) = true := decide_eq_true hlt
   have hi0 : (0 : Int) ≤ (k : Int) := by omega
   have hi1 : (k : Int) < (L : Int) := by omega
   have hwk : IntKind.i64.wrap ((k : Int) + 1) = (k : Int) + 1 := IntWalk.i64_in _ (by omega)
   have hkq : k < qs.length := by have := HL.out; omega
   obtain ⟨q, hq⟩ : ∃ q, qs[k] = q := ⟨_, rfl⟩
   obtain ⟨a0, a1, a2, a3, a4, a5, a6, a7, a8⟩ := item_at HI.out.a k hkq q hq
   have hb1 : Below wr.heap.size wr (wr.alloc (.cells #[.int .i64 1, .string (numS q), .string (denS q), .string { data := #[] }, .bool false, .int .i64 0, .int .i64 0, .int .i64 0, .slice none 0 0] 27)) := (Below.refl _ _).alloc (Nat.le_refl _) _
   have HI1 := Lib.hid (HI.out.step hb1)
   obtain ⟨b0, b1, b2, b3, b4, b5, b6, b7, b8⟩ := item_at HI1.out.b k hkq q hq
   have H8 := Lib.hid (heap_alloc_new wr (.cells #[.int .i64 1, .string (numS q), .string (denS q), .string { data := #[] }, .bool false, .int .i64 0, .int .i64 0, .int .i64 0, .slice none 0 0] 27))
   obtain ⟨w1, hw1⟩ : ∃ Z, wr.alloc (.cells #[.int .i64 1, .string (numS q), .string (denS q), .string { data := #[] }, .bool false, .int .i64 0, .int .i64 0, .int .i64 0, .slice none 0 0] 27) = Z := ⟨_, rfl⟩
   have HLT := Lib.hid (show wr.heap.size < w1.heap.size by rw [← hw1]; simp)
   have hsz : w1.heap.size = wr.heap.size + 1 := by rw [← hw1]; simp
   have hb2 : Below w1.heap.size w1 (w1.alloc (.cells #[.int .i64 1, .string (numS q), .string (denS q), .string { data := #[] }, .bool false, .int .i64 0, .int .i64 0, .int .i64 0, .slice none 0 0] 27)) := (Below.refl _ _).alloc (Nat.le_refl _) _
   rw [hw1] at HI1 H8
   have H9 := Lib.hid (heap_alloc_new w1 (.cells #[.int .i64 1, .string (numS q), .string (denS q), .string { data := #[] }, .bool false, .int .i64 0, .int .i64 0, .int .i64 0, .slice none 0 0] 27))
   have H82 := Lib.hid (keep_block H8.out hb2)
   have HI2 := Lib.hid (HI1.out.step hb2)
   rw [← hw1] at H82 H9 HI2
   have hs2 : (wr.alloc (.cells #[.int .i64 1, .string (numS q), .string (denS q), .string { data := #[] }, .bool false, .int .i64 0, .int .i64 0, .int .i64 0, .slice none 0 0] 27)).heap.size = wr.heap.size + 1 := by simp
   have TS := Lib.hid (fun W' => same_num q q W')
   rw [numVal_is q] at TS
   have HTR := Lib.hid (show decide (q = q) = true from decide_eq_true rfl)
   clear hkq hq hb1 hb2 HI1 H8 hw1 hsz HI hs2
   go_upto_region 7 with fail
   clear a0 a1 a2 a3 a4 a5 a6 a7 a8 b0 b1 b2 b3 b4 b5 b6 b7 b8
   have h9 := H9.out
   rw [show (wr.alloc (.cells #[.int .i64 1, .string (numS q), .string (denS q), .string { data := #[] }, .bool false, .int .i64 0, .int .i64 0, .int .i64 0, .slice none 0 0] 27)).heap.size = wr.heap.size + 1 by simp] at h9
   obtain ⟨w2, hw2⟩ : ∃ Z, (wr.alloc (.cells #[.int .i64 1, .string (numS q), .string (denS q), .string { data := #[] }, .bool false, .int .i64 0, .int .i64 0, .int .i64 0, .slice none 0 0] 27)).alloc (.cells #[.int .i64 1, .string (numS q), .string (denS q), .string { data := #[] }, .bool false, .int .i64 0, .int .i64 0, .int .i64 0, .slice none 0 0] 27) = Z := ⟨_, rfl⟩
   rw [hw2] at H82 h9 HI2 ⊢
   obtain ⟨⟨a0, a1, a2, a3, a4, a5, a6, a7, a8⟩, _⟩ := nine_at H82.out
   obtain ⟨⟨b0, b1, b2, b3, b4, b5, b6, b7, b8⟩, _⟩ := nine_at h9
   clear hw2 h9 H9
   go_wp2_with fail
   refine (TS.out _).mono ?_
   rintro e w3 ⟨rfl, hb⟩
   replace HI2 := Lib.hid (HI2.out.step hb)
   rw [HTR.out]
   clear hb a0 a1 a2 a3 a4 a5 a6 a7 a8 b0 b1 b2 b3 b4 b5 b6 b7 b8
   go_wp2
   go_roundg (L - (k + 1))
   case measure => omega
   case rel => exact ⟨k + 1, by go_num, by omega, by omega, HI2.out⟩
  ·have hdd : decide ((k : Int) < (L : Int)) = false := decide_eq_false (by omega)
   have hdd2 : decide (k < L) = false := decide_eq_false hlt
   clear hlt
   go_wp2
   go_ret
   exact ⟨rfl, HI.out.low⟩
theorem both9a {W : World} {a b : Nat} {x0 x1 x2 x3 x4 x5 x6 x7 x8 y0 y1 y2 y3 y4 y5 y6 y7 y8 : Value} {T U : TypeId} (h : W.heap[a]? = some (.cells #[x0, x1, x2, x3, x4, x5, x6, x7, x8] T (0, 0))) (k : W.heap[b]? = some (.cells #[y0, y1, y2, y3, y4, y5, y6, y7, y8] U (0, 0))) : (W.cell? ⟨a, 0, none⟩ = some x0 ∧ W.cell? ⟨a, 1, none⟩ = some x1 ∧ W.cell? ⟨a, 2, none⟩ = some x2 ∧ W.cell? ⟨a, 3, none⟩ = some x3 ∧ W.cell? ⟨a, 4, none⟩ = some x4 ∧ W.cell? ⟨a, 5, none⟩ = some x5 ∧ W.cell? ⟨a, 6, none⟩ = some x6 ∧ W.cell? ⟨a, 7, none⟩ = some x7 ∧ W.cell? ⟨a, 8, none⟩ = some x8) ∧ W.cell? ⟨b, 0, none⟩ = some y0 ∧ W.cell? ⟨b, 1, none⟩ = some y1 ∧ W.cell? ⟨b, 2, none⟩ = some y2 ∧ W.cell? ⟨b, 3, none⟩ = some y3 ∧ W.cell? ⟨b, 4, none⟩ = some y4 ∧ W.cell? ⟨b, 5, none⟩ = some y5 ∧ W.cell? ⟨b, 6, none⟩ = some y6 ∧ W.cell? ⟨b, 7, none⟩ = some y7 ∧ W.cell? ⟨b, 8, none⟩ = some y8 :=
 ⟨(nine_at h).1, (nine_at k).1⟩
end Go.Proofs.YtkghpiaoggljjaaGreatDoor.Num.Mt

/- value.Same at two arrays of r rows and s columns of the same numbers. No conditions but on sizes. -/
namespace Go.Proofs.YtkghpiaoggljjaaGreatDoor.Num.Mt
open Go.RowKit Go.Lib Num
set_option maxHeartbeats 4000000 in
set_option maxRecDepth 100000 in
theorem same_tab (qs : List Rat) (r s L g1 g2 c1 c2 : Nat) (w : World) (hL : qs.length = L) (h9 : L ≤ 1000) (h1 : ValsAt w g1 0 (numVals qs)) (h2 : ValsAt w g2 0 (numVals qs)) : Calls Tryz.prog 9 #[.agg #[.int .i64 5, .string { data := #[] }, .string { data := #[] }, .string { data := #[] }, .bool false, .int .i64 0, .int .i64 (r : Int), .int .i64 (s : Int), .slice (some ⟨g1, 0, none⟩) L c1], .agg #[.int .i64 5, .string { data := #[] }, .string { data := #[] }, .string { data := #[] }, .bool false, .int .i64 0, .int .i64 (r : Int), .int .i64 (s : Int), .slice (some ⟨g2, 0, none⟩) L c2]] w fun e w' => e = .returned (.bool true) ∧ Below w.heap.size w w' := by
 obtain ⟨hx, hy, hb⟩ := two_new w (.cells #[.int .i64 5, .string { data := #[] }, .string { data := #[] }, .string { data := #[] }, .bool false, .int .i64 0, .int .i64 (r : Int), .int .i64 (s : Int), .slice (some ⟨g1, 0, none⟩) L c1] 27) (.cells #[.int .i64 5, .string { data := #[] }, .string { data := #[] }, .string { data := #[] }, .bool false, .int .i64 0, .int .i64 (r : Int), .int .i64 (s : Int), .slice (some ⟨g2, 0, none⟩) L c2] 27)
 obtain ⟨W0, hW0⟩ : ∃ W0, (w.alloc (.cells #[.int .i64 5, .string { data := #[] }, .string { data := #[] }, .string { data := #[] }, .bool false, .int .i64 0, .int .i64 (r : Int), .int .i64 (s : Int), .slice (some ⟨g1, 0, none⟩) L c1] 27)).alloc (.cells #[.int .i64 5, .string { data := #[] }, .string { data := #[] }, .string { data := #[] }, .bool false, .int .i64 0, .int .i64 (r : Int), .int .i64 (s : Int), .slice (some ⟨g2, 0, none⟩) L c2] 27) = W0 := ⟨_, rfl⟩
 rw [hW0] at hx hy hb
 have HX := Lib.hid hx
 have HY := Lib.hid hy
 have HL := Lib.hid hb.drew
 have HL0 := Lib.hid hb
 have HW := Lib.hid hW0
 have NX := Lib.hid (And.intro (heap_lt hx) (heap_lt hy))
 have HV1 := Lib.hid h1
 have HV2 := Lib.hid h2
 have HQL := Lib.hid hL
 clear hx hy hb hW0 h1 h2 hL
 go_enter Tryz.func9, Tryz.ntmps9
 go_wp2_with fail
 rw [HW.out]
 go_region_held3 (fun W => (W.cell? ⟨w.heap.size, 0, none⟩ = some (.int .i64 5) ∧ W.cell? ⟨w.heap.size, 1, none⟩ = some (.string { data := #[] }) ∧ W.cell? ⟨w.heap.size, 2, none⟩ = some (.string { data := #[] }) ∧ W.cell? ⟨w.heap.size, 3, none⟩ = some (.string { data := #[] }) ∧ W.cell? ⟨w.heap.size, 4, none⟩ = some (.bool false) ∧ W.cell? ⟨w.heap.size, 5, none⟩ = some (.int .i64 0) ∧ W.cell? ⟨w.heap.size, 6, none⟩ = some (.int .i64 (r : Int)) ∧ W.cell? ⟨w.heap.size, 7, none⟩ = some (.int .i64 (s : Int)) ∧ W.cell? ⟨w.heap.size, 8, none⟩ = some (.slice (some ⟨g1, 0, none⟩) L c1)) ∧ W.cell? ⟨w.heap.size + 1, 0, none⟩ = some (.int .i64 5) ∧ W.cell? ⟨w.heap.size + 1, 1, none⟩ = some (.string { data := #[] }) ∧ W.cell? ⟨w.heap.size + 1, 2, none⟩ = some (.string { data := #[] }) ∧ W.cell? ⟨w.heap.size + 1, 3, none⟩ = some (.string { data := #[] }) ∧ W.cell? ⟨w.heap.size + 1, 4, none⟩ = some (.bool false) ∧ W.cell? ⟨w.heap.size + 1, 5, none⟩ = some (.int .i64 0) ∧ W.cell? ⟨w.heap.size + 1, 6, none⟩ = some (.int .i64 (r : Int)) ∧ W.cell? ⟨w.heap.size + 1, 7, none⟩ = some (.int .i64 (s : Int)) ∧ W.cell? ⟨w.heap.size + 1, 8, none⟩ = some (.slice (some ⟨g2, 0, none⟩) L c2))
  (first | (with_reducible exact both9a (drew_block HX.out) (drew_block HY.out)) | (with_reducible exact both9a (drew_block (new_keep HX.out)) (drew_block (new_keep HY.out))) | (with_reducible exact both9a (drew_block (new_keep (new_keep HX.out))) (drew_block (new_keep (new_keep HY.out)))) | fail)
  ((first | fail))
 all_goals
  obtain ⟨lx, ly⟩ := NX.out
  have x8 := (nine_at HX.out).1.2.2.2.2.2.2.2.2
  have y8 := (nine_at HY.out).1.2.2.2.2.2.2.2.2
  have HSZ := Lib.hid HL.out.size
  have HBL := Lib.hid (fun c1 c2 : Array Value => Below.drew (((HL0.out.alloc HL0.out.size (.cells c1 27))).alloc (by have := HL0.out.size; simp; omega) (.cells c2 27)))
  go_wp2_with fail
  refine (equal_vals qs L g1 g2 c1 c2 _ HQL.out h9 (HV1.out.below (HBL.out _ _)) (HV2.out.below (HBL.out _ _))).mono ?_
  rintro e w2 ⟨rfl, hb⟩
  have HB2 := Lib.hid ((HBL.out _ _).trans (hb.mono (HBL.out _ _).size))
  clear hb
  go_wp2
  go_ret
  exact ⟨rfl, HB2.out⟩
end Go.Proofs.YtkghpiaoggljjaaGreatDoor.Num.Mt

/- Sums of hundredths, of their squares, products and differences: what fits and what is equal. Plain: no program. -/
namespace Go.Proofs.YtkghpiaoggljjaaGreatDoor.Num

def over (c : Nat) (xs : List Int) : List Rat := xs.map fun (x : Int) => (x : Rat) / ((c : Nat) : Rat)
theorem foldl_add (qs : List Rat) : ∀ s : Rat, qs.foldl (· + ·) s = s + sumL qs := by
 unfold sumL
 induction qs with
 | nil => intro s; simp [Rat.add_zero]
 | cons q r ih => intro s; rw [List.foldl_cons, List.foldl_cons, ih, ih (0 + q)]; grind
theorem sumL_cons (q : Rat) (qs : List Rat) : sumL (q :: qs) = q + sumL qs := by
 show (q :: qs).foldl (· + ·) 0 = _
 rw [List.foldl_cons, foldl_add]; grind
end Go.Proofs.YtkghpiaoggljjaaGreatDoor.Num

/- Means and deviations of rows of numbers over one denominator. Plain: no program. -/
namespace Go.Proofs.YtkghpiaoggljjaaGreatDoor.Num

theorem over_len (c : Nat) (xs : List Int) : (over c xs).length = xs.length := by simp [over]

/-- how many there are, as a fraction -/
def lenR (l : List Rat) : Rat := (((l.length : Nat) : Int) : Rat)
def meanR (l : List Rat) : Rat := sumL l / lenR l
/-- numbers over c, at most X each, between 1 and 12 of them: all that is on the way fits -/
structure Row12 (c X : Nat) (xs : List Int) : Prop where
 c0 : c ≠ 0
 c9 : c ≤ 1000000
 pos : 0 < xs.length
 len : xs.length ≤ 30
 le : ∀ x ∈ xs, x.natAbs ≤ X
 X9 : X ≤ 1000000000000
section
variable {c X : Nat} {xs : List Int} (h : Row12 c X xs)
include h
end
end Go.Proofs.YtkghpiaoggljjaaGreatDoor.Num

/- the laws' own table of one column: at most 30 numbers from 0 to 6. Conditions: the tables lie as they are laid. -/
namespace Go.Proofs.YtkghpiaoggljjaaGreatDoor.Num
open Go.RowKit Go.Lib

theorem over_one (xs : List Int) : over 1 xs = xs.map fun (x : Int) => (x : Rat) := by
 unfold over
 apply List.map_congr_left
 intro x _
 show (x : Rat) / 1 = x
 grind
/-- what stays while the values are collected: the result's block, the value's block, the row -/
structure TabI (w : World) (c : Nat) (bv v : Value) (done : List Rat) (W : World) : Prop where
 res : W.heap[w.heap.size]? = some (.cells #[.int .i64 0, .string { data := #[] }, .string { data := #[] }, .string { data := #[] }, .bool false, .int .i64 0, .int .i64 0, .int .i64 0, .slice none 0 0] 27 (0, 0))
 box : W.heap[w.heap.size + 1]? = some (.cells #[.int .i64 5, .string { data := #[] }, .string { data := #[] }, .string { data := #[] }, .bool false, .int .i64 0, .int .i64 (c : Int), .int .i64 1, bv] 27 (0, 0))
 low : Below w.heap.size w W
 own : W.ownsRow (w.heap.size + 2) 27 9 v done.length (flat (numVals done))
end Go.Proofs.YtkghpiaoggljjaaGreatDoor.Num

/- A slice of whole numbers that came in. No conditions. -/
namespace Go.Proofs.YtkghpiaoggljjaaGreatDoor.Num
open Go.ChangeShapes Go.WideShapes Go.ChangeAt Go.RowKit Go.Lib

/-- whole numbers that came in -/
def CameI (W : World) (A : Addr) (ns : List Int) : Prop := ∀ i (h : i < ns.length), W.cell? (A.add i) = some (.int .i64 ns[i])
/-- a slice of ints as it came in: where it lies, and its numbers -/
structure IntsIn (W : World) (A : Option Addr) (L C : Nat) (zs : List Int) : Prop where
 len : zs.length = L
 max : L ≤ 9223372036854775807
 cap : L ≤ C
 src : 0 < L → ∃ A', A = some A' ∧ CameI W A' zs
 rng : ∀ z ∈ zs, -9223372036854775808 ≤ z ∧ z ≤ 9223372036854775807
set_option maxRecDepth 100000 in
theorem ints_in {H : Type} {enc : TypeId × Value → H} {W : World} {base base2 : Nat} {held : Bool} {v : Value} {d : DataW H} {p : List MemPlace} (hok : Value.okWide Tryz.prog W .any base2 22 v) (h : DataW.Trod enc Tryz.prog W base (fun _ => true) held 22 v d p) :
  ∃ A L C zs, v = .slice A L C ∧ IntsIn W A L C zs ∧ ∀ W', Below W.heap.size W W' → DataW.Trod enc Tryz.prog W' base (fun b => decide (b < W.heap.size)) held 22 v d p := by
 obtain ⟨a, len, cap, rfl⟩ := okWide_slice Tryz.underlying22 hok
 obtain ⟨fuel, hf⟩ := h
 rcases open_ints Tryz.underlying22 Tryz.underlying3 (by kernel_rfl) hf with ⟨hcs, hx⟩ | ⟨a', len', cap', zs, hcs, hb, hl, hm, hz, hx, hcell, hwz⟩
 ·have hcs' : (Value.slice a len cap) = .slice none 0 0 := by simpa [Value.cells] using hcs
  injection hcs' with h1 h2 h3
  subst h1; subst h2; subst h3
  injection hx with h1 h2
  subst h1; subst h2
  exact ⟨none, 0, 0, [], rfl, ⟨rfl, by decide, Nat.le_refl _, fun h => absurd h (by decide), fun z h => (by cases h)⟩, fun W' _ => shut_slice_nil Tryz.underlying22⟩
 ·have hcs' : (Value.slice a len cap) = .slice (some a') len' cap' := by simpa [Value.cells] using hcs
  injection hcs' with h1 h2 h3
  subst h1; subst h2; subst h3
  injection hx with h1 h2
  subst h1; subst h2
  have hz0 : zs.length = cap := by simpa using hz
  have hzl : len ≤ zs.length := by omega
  have hz2 : zs.length = (if decide (a'.block < W.heap.size) then cap else len) := by
   by_cases hc : 0 < cap
   ·have h1 : (a'.add 0).block < W.heap.size := cell_lt (hcell 0 (by omega))
    rw [block_add] at h1
    rw [if_pos (decide_eq_true h1)]; exact hz0
   ·split <;> omega
  refine ⟨some a', len, cap, zs.take len, rfl, ⟨by rw [List.length_take]; omega, by unfold maxLen at hm; omega, hl, fun _ => ⟨a', rfl, ?_⟩, fun n hn => i64_range (hwz n (List.mem_of_mem_take hn))⟩, fun W' hb' => ⟨2, shut_ints 0 Tryz.underlying22 Tryz.underlying3 (by kernel_rfl) hb hl hm hz2 (fun i hi => cell_below (hcell i hi) hb') hwz⟩⟩
  intro i hi
  have hi' : i < zs.length := by rw [List.length_take] at hi; omega
  have := hcell i hi'
  rw [List.getD_eq_getElem?_getD, List.getElem?_eq_getElem hi', Option.getD_some] at this
  rw [this, List.getElem_take]
end Go.Proofs.YtkghpiaoggljjaaGreatDoor.Num
