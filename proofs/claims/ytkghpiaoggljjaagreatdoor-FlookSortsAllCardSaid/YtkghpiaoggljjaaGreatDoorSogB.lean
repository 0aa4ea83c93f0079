/- Numbers as texts of digits, fractions, values and the functions of fmath: contracts of the program's functions, joined from smaller texts. Conditions stand at each theorem. -/
import Derived.Test.YtkghpiaoggljjaaGreatDoorSogA
import Derived.Test.YtkghpiaoggljjaaGreatDoorSodA
import Derived.Test.YtkghpiaoggljjaaGreatDoorSoeA
set_option linter.unusedVariables false
set_option linter.unusedSimpArgs false

/- Results that are arrays: through Run's closure, Run at kinds 'asss', Call and the law's own call, for flook's table. Conditions: the tables lie as they are laid; each number fits; at most 1000 numbers. -/
namespace Go.Proofs.YtkghpiaoggljjaaGreatDoor.Num.Fl.K4
open Go.RowKit Go.Lib Go.MapKept Num
set_option maxHeartbeats 4000000 in
set_option maxRecDepth 100000 in
theorem run1_tab (pb e : Nat) (sl : Value) (rr ss L : Nat) (its : List Rat) (hr1 : 1 ≤ rr) (hs1 : 1 ≤ ss) (hL9 : L ≤ 1000) (hL : rr * ss = L) (hil : its.length = L) (w : World) (hs : ∃ a l c, sl = .slice a l c) (hc : w.cell? ⟨pb, 3, none⟩ = some (.func (.func 118) #[] #[.pointer (some ⟨e, 0, none⟩)])) (hE : Env w)
  (hF : ∀ W, Below w.heap.size w W → Calls Tryz.prog 118 #[sl, .pointer (some ⟨e, 0, none⟩)] W fun e w' => ∃ lg cap, e = .returned (.agg #[.int .i64 5, .string { data := #[] }, .string { data := #[] }, .string { data := #[] }, .bool false, .int .i64 0, .int .i64 (rr : Int), .int .i64 (ss : Int), .slice (some ⟨lg, 0, none⟩) L cap]) ∧ ValsAt w' lg 0 (numVals its) ∧ W.heap.size ≤ lg ∧ Below W.heap.size W w') :
  Calls Tryz.prog 32 #[sl, .pointer (some ⟨pb, 0, none⟩)] w fun e w' => ∃ lg cap, e = .returned (.agg #[.int .i64 5, .string { data := #[] }, .string { data := #[] }, .string { data := #[] }, .bool false, .int .i64 0, .int .i64 (rr : Int), .int .i64 (ss : Int), .slice (some ⟨lg, 0, none⟩) L cap]) ∧ ValsAt w' lg 0 (numVals its) ∧ w.heap.size ≤ lg ∧ Below w.heap.size w w' := by
 have hrL : rr ≤ L := by rw [← hL]; exact Nat.le_mul_of_pos_right rr hs1
 have hsL : ss ≤ L := by rw [← hL]; exact Nat.le_mul_of_pos_left ss hr1
 obtain ⟨sa, slen, sc, rfl⟩ := hs
 have hmf : ∀ (fn : Fn) (first cap : Array Value) (w : World), (Instr.makeFunc fn first cap).run Tryz.prog w = .ok (.func fn first cap) w := fun _ _ _ _ => rfl
 have hb : Below w.heap.size w (w.alloc (.cells #[.int .i64 0, .string { data := #[] }, .string { data := #[] }, .string { data := #[] }, .bool false, .int .i64 0, .int .i64 0, .int .i64 0, .slice none 0 0] 27)) := (Below.refl _ _).alloc (Nat.le_refl _) _
 have HR := Lib.hid (heap_alloc_new w (.cells #[.int .i64 0, .string { data := #[] }, .string { data := #[] }, .string { data := #[] }, .bool false, .int .i64 0, .int .i64 0, .int .i64 0, .slice none 0 0] 27))
 have HX := Lib.hid (cell_below hc hb)
 have HL := Lib.hid hb
 have HE := Lib.hid (hE.below hb)
 have TF := Lib.hid (hF _ hb)
 clear hb hc hE hF
 have d0 : decide ((0 : Int) < (rr : Int)) = true := decide_eq_true (by omega)
 have d1 : decide (0 < rr) = true := decide_eq_true (by omega)
 have hr0 : ((rr : Int) = 0) = False := eq_false (by omega)
 have hr1' : (rr = 0) = False := eq_false (by omega)
 have hr2 : decide (rr = 0) = false := decide_eq_false (by omega)
 have hq : 100 ≤ (100000 : Int) / (rr : Int) := (Int.le_ediv_iff_mul_le (by omega)).2 (by omega)
 have hq4 : (ss : Int) * (rr : Int) = (L : Int) := by rw [← hL, Int.natCast_mul, Int.mul_comm]
 have hq3 : (ss : Int) ≤ (100000 : Int) / (rr : Int) := (Int.le_ediv_iff_mul_le (by omega)).2 (by omega)
 have hq2 : (100000 : Int) / (rr : Int) ≤ 100000 := Int.ediv_le_self _ (by omega)
 have hqt : (100000 : Int).tdiv (rr : Int) = (100000 : Int) / (rr : Int) := Int.tdiv_eq_ediv_of_nonneg (by omega)
 obtain ⟨q9, hqq⟩ : ∃ q, (100000 : Int) / (rr : Int) = q := ⟨_, rfl⟩
 rw [hqq] at hq hq2 hqt hq3
 have hqw : IntKind.i64.wrap q9 = q9 := IntWalk.i64_in _ (by omega)
 have d3 : decide (q9 < (ss : Int)) = false := decide_eq_false (by omega)
 clear hq hq2 hq3 hq4
 obtain x3 := HX.out
 go_enter_defers Tryz.func32, Tryz.ntmps32
 go_wp2_with fail
 refine TF.out.mono ?_
 rintro e w1 ⟨lg, cap, rfl, hva, hlg, hb⟩
 have HVA := Lib.hid hva
 have HLG := Lib.hid (show w.heap.size + 1 ≤ lg by simpa using hlg)
 clear hva hlg
 replace HR := Lib.hid (keep_block HR.out hb)
 replace HE := Lib.hid (HE.out.below hb)
 replace HL := Lib.hid (HL.out.trans (hb.mono HL.out.size))
 clear hb
 obtain ⟨⟨r0, r1, r2, r3, r4, r5, r6, r7, r8⟩, g0, g1, g2, g3, g4, g5, g6, g7, g8⟩ := nine_at HR.out
 have HR2 := Lib.hid (set9_at HR.out (.int .i64 5) (.string { data := #[] }) (.string { data := #[] }) (.string { data := #[] }) (.bool false) (.int .i64 0) (.int .i64 (rr : Int)) (.int .i64 (ss : Int)) (.slice (some ⟨lg, 0, none⟩) L cap))
 have HL2 := Lib.hid (nine_end (x0 := (.int .i64 5)) (x1 := (.string { data := #[] })) (x2 := (.string { data := #[] })) (x3 := (.string { data := #[] })) (x4 := (.bool false)) (x5 := (.int .i64 0)) (x6 := (.int .i64 (rr : Int))) (x7 := (.int .i64 (ss : Int))) (x8 := (.slice (some ⟨lg, 0, none⟩) L cap)) HR.out HL.out (Nat.le_refl _)).1
 go_wp2_with fail
 obtain ⟨W2, hW2⟩ : ∃ W2, (((((((((w1.setCell ⟨w.heap.size, 0, none⟩ (.int .i64 5)).setCell ⟨w.heap.size, 1, none⟩ (.string { data := #[] })).setCell ⟨w.heap.size, 2, none⟩ (.string { data := #[] })).setCell ⟨w.heap.size, 3, none⟩ (.string { data := #[] })).setCell ⟨w.heap.size, 4, none⟩ (.bool false)).setCell ⟨w.heap.size, 5, none⟩ (.int .i64 0)).setCell ⟨w.heap.size, 6, none⟩ (.int .i64 (rr : Int))).setCell ⟨w.heap.size, 7, none⟩ (.int .i64 (ss : Int))).setCell ⟨w.heap.size, 8, none⟩ (.slice (some ⟨lg, 0, none⟩) L cap)) = W2 := ⟨_, rfl⟩
 rw [hW2] at HR2 HL2 ⊢
 clear r0 r1 r2 r3 r4 r5 r6 r7 r8 g0 g1 g2 g3 g4 g5 g6 g7 g8
 obtain ⟨⟨r0, r1, r2, r3, r4, r5, r6, r7, r8⟩, g0, g1, g2, g3, g4, g5, g6, g7, g8⟩ := nine_at HR2.out
 have HVB := Lib.hid (vals_other (W' := W2) HVA.out (by rw [← hW2]; exact set9_other w1 w.heap.size (.int .i64 5) (.string { data := #[] }) (.string { data := #[] }) (.string { data := #[] }) (.bool false) (.int .i64 0) (.int .i64 (rr : Int)) (.int .i64 (ss : Int)) (.slice (some ⟨lg, 0, none⟩) L cap) (show lg ≠ w.heap.size by have := HLG.out; omega)))
 clear hW2
 go_quiet (fail)
 have HR3 := Lib.hid (show (W2.drewN nq).heap[w.heap.size]? = _ from HR2.out)
 obtain ⟨nb, e0, e1, e2, e3, e4, e5, e6, e7, e8⟩ := nine_end (x0 := (.int .i64 5)) (x1 := (.string { data := #[] })) (x2 := (.string { data := #[] })) (x3 := (.string { data := #[] })) (x4 := (.bool false)) (x5 := (.int .i64 0)) (x6 := (.int .i64 (rr : Int))) (x7 := (.int .i64 (ss : Int))) (x8 := (.slice (some ⟨lg, 0, none⟩) L cap)) HR3.out (below_drewN HL2.out nq) (Nat.le_refl _)
 go_wp2
 refine leaves_cons (f := 33) (args := #[.pointer (some ⟨w.heap.size, 0, none⟩)]) (by simp) (by simp [go_sem]) ?_
 refine (idle_any _ _).mono ?_
 rintro e u' w3 ⟨rfl, rfl, rfl⟩
 have HVC := vals_other (show ValsAt (W2.drewN nq) lg 0 (numVals its) from HVB.out) (set9_other (W2.drewN nq) w.heap.size (.int .i64 5) (.string { data := #[] }) (.string { data := #[] }) (.string { data := #[] }) (.bool false) (.int .i64 0) (.int .i64 (rr : Int)) (.int .i64 (ss : Int)) (.slice (some ⟨lg, 0, none⟩) L cap) (show lg ≠ w.heap.size by have := HLG.out; omega))
 exact ⟨_, (by simp [results, Tryz.results32, go_sem, e0, e1, e2, e3, e4, e5, e6, e7, e8]), lg, cap, rfl, HVC, by have := HLG.out; omega, nb⟩

attribute [local go_sem] run_store_func
set_option maxHeartbeats 8000000 in
set_option maxRecDepth 100000 in
theorem run_asss_tab (i : Nat) (r : Row) (hi : i < allRows.length) (hr : allRows[i] = r) (hnum : r.num = true) (hkd : r.kinds = { data := #[97, 115, 115, 115] }) (hfr : ∀ j (hj : j < i), (allRows[i].name == (allRows[j]'(by omega)).name) = false) (vs : List Val) (b ab ao C : Nat) (rr ss L : Nat) (its : List Rat) (hr1 : 1 ≤ rr) (hs1 : 1 ≤ ss) (hL9 : L ≤ 1000) (hL : rr * ss = L) (hil : its.length = L) (hfit : ∀ q ∈ its, fits q = true) (w : World) (h0 : 0 < vs.length) (h9 : vs.length ≤ 300) (hc1 : r.least ≤ vs.length) (hc2 : (vs.length : Int) ≤ r.most) (hno1 : ∀ (h : 1 < vs.length), (vs[1].k == 5) = false) (hno2 : ∀ (h : 2 < vs.length), (vs[2].k == 5) = false) (hnoL : ∀ (i : Nat) (h : i < vs.length), 3 ≤ i → (vs[i].k == 5) = false) (hv : ValsAt w ab ao vs) (hE : Env w) (hT : TableAt w b allRows)
  (hC : ∀ v ∈ vs, ∀ W, Below w.heap.size w W → Calls Tryz.prog 24 #[v.agg] W fun e w' => e = .returned (.int .i64 0) ∧ Below W.heap.size W w')
  (hK : ∀ W e g cap, Below w.heap.size w W → Env W → FnAt W e r → ValsAt W g 0 vs → Calls Tryz.prog 118 #[.slice (some ⟨g, 0, none⟩) vs.length cap, .pointer (some ⟨e, 0, none⟩)] W fun e w' => ∃ lg cap, e = .returned (.agg #[.int .i64 5, .string { data := #[] }, .string { data := #[] }, .string { data := #[] }, .bool false, .int .i64 0, .int .i64 (rr : Int), .int .i64 (ss : Int), .slice (some ⟨lg, 0, none⟩) L cap]) ∧ ValsAt w' lg 0 (numVals its) ∧ W.heap.size ≤ lg ∧ Below W.heap.size W w') :
  Calls Tryz.prog 21 #[.map (some b), .string r.name, .slice (some ⟨ab, ao, none⟩) vs.length C] w fun e w' => ∃ lg cap, e = .returned (.tuple #[.agg #[.int .i64 5, .string { data := #[] }, .string { data := #[] }, .string { data := #[] }, .bool false, .int .i64 0, .int .i64 (rr : Int), .int .i64 (ss : Int), .slice (some ⟨lg, 0, none⟩) L cap], .int .i64 0]) ∧ ValsAt w' lg 0 (numVals its) ∧ w.heap.size ≤ lg ∧ L ≤ cap ∧ Below w.heap.size w w' := by
 have hb : Below w.heap.size w (w.alloc (.cells #[.int .i64 0, .string { data := #[] }, .string { data := #[] }, .string { data := #[] }, .bool false, .int .i64 0, .int .i64 0, .int .i64 0, .slice none 0 0] 27)) := (Below.refl _ _).alloc (Nat.le_refl _) _
 have HR := Lib.hid (heap_alloc_new w (.cells #[.int .i64 0, .string { data := #[] }, .string { data := #[] }, .string { data := #[] }, .bool false, .int .i64 0, .int .i64 0, .int .i64 0, .slice none 0 0] 27))
 obtain ⟨v, hrf, hrun⟩ := (hT.below hb).look i hi hfr Tryz.underlying46 Tryz.underlying9
 rw [hr] at hrf hrun
 obtain ⟨e0, rfl, hfn⟩ := rowFn_at hrf hnum
 obtain ⟨name, least, most, kinds, num, F⟩ := r
 simp only at hkd hc1 hc2
 subst hkd
 simp only at hrun ⊢
 have HV := Lib.hid (hv.below hb)
 have HE := Lib.hid (hE.below hb)
 have HL := Lib.hid hb
 have HFN := Lib.hid hfn
 have d1 : decide ((vs.length : Int) < least) = false := decide_eq_false (by omega)
 have d2 : decide (most < (vs.length : Int)) = false := decide_eq_false (by omega)
 have hmf : ∀ (fn : Fn) (first cap : Array Value) (w : World), (Instr.makeFunc fn first cap).run Tryz.prog w = .ok (.func fn first cap) w := fun _ _ _ _ => rfl
 have hb : Below (w.alloc (.cells #[.int .i64 0, .string { data := #[] }, .string { data := #[] }, .string { data := #[] }, .bool false, .int .i64 0, .int .i64 0, .int .i64 0, .slice none 0 0] 27)).heap.size (w.alloc (.cells #[.int .i64 0, .string { data := #[] }, .string { data := #[] }, .string { data := #[] }, .bool false, .int .i64 0, .int .i64 0, .int .i64 0, .slice none 0 0] 27)) ((w.alloc (.cells #[.int .i64 0, .string { data := #[] }, .string { data := #[] }, .string { data := #[] }, .bool false, .int .i64 0, .int .i64 0, .int .i64 0, .slice none 0 0] 27)).alloc (.cells #[.int .i64 least, .int .i64 most, .string { data := #[97, 115, 115, 115] }, .func (.func 118) #[] #[.pointer (some ⟨e0, 0, none⟩)]] 60)) := (Below.refl _ _).alloc (Nat.le_refl _) _
 have HX := Lib.hid (Lib.cell_of_heap (heap_alloc_new (w.alloc (.cells #[.int .i64 0, .string { data := #[] }, .string { data := #[] }, .string { data := #[] }, .bool false, .int .i64 0, .int .i64 0, .int .i64 0, .slice none 0 0] 27)) (.cells #[.int .i64 least, .int .i64 most, .string { data := #[97, 115, 115, 115] }, .func (.func 118) #[] #[.pointer (some ⟨e0, 0, none⟩)]] 60)) 3)
 replace HR := Lib.hid (keep_block HR.out hb)
 replace HV := Lib.hid (HV.out.below hb)
 replace HE := Lib.hid (HE.out.below hb)
 replace HL := Lib.hid (HL.out.trans (hb.mono HL.out.size))
 replace HFN := Lib.hid (HFN.out.below hb)
 have hpos : (w.alloc (.cells #[.int .i64 0, .string { data := #[] }, .string { data := #[] }, .string { data := #[] }, .bool false, .int .i64 0, .int .i64 0, .int .i64 0, .slice none 0 0] 27)).heap.size = w.heap.size + 1 := by simp
 rw [hpos] at HX
 have TL := Lib.hid (lift_asss_tab vs ab ao C (w.heap.size + 1) rr ss L its hr1 hs1 hL9 hL hil hfit ((w.alloc (.cells #[.int .i64 0, .string { data := #[] }, .string { data := #[] }, .string { data := #[] }, .bool false, .int .i64 0, .int .i64 0, .int .i64 0, .slice none 0 0] 27)).alloc (.cells #[.int .i64 least, .int .i64 most, .string { data := #[97, 115, 115, 115] }, .func (.func 118) #[] #[.pointer (some ⟨e0, 0, none⟩)]] 60)) h0 h9 hno1 hno2 hnoL HV.out HE.out
  (fun v hv W h => hC v hv W (HL.out.trans (h.mono HL.out.size)))
  (fun W g cap hbw hva => by
   exact run1_tab (w.heap.size + 1) e0 (.slice (some ⟨g, 0, none⟩) vs.length cap) rr ss L its hr1 hs1 hL9 hL hil W ⟨_, _, _, rfl⟩ (cell_below HX.out hbw) (HE.out.below hbw) (fun W' hb' =>
    hK W' e0 g cap (HL.out.trans ((hbw.trans (hb'.mono hbw.size)).mono HL.out.size)) (HE.out.below (hbw.trans (hb'.mono hbw.size))) (HFN.out.below (hbw.trans (hb'.mono hbw.size))) (hva.below hb'))))
 clear hb hv hE hT hC hK hrf hfn hpos hfr hr hi h0 h9 hc1 hc2
 go_enter Tryz.func21, Tryz.ntmps21
 go_wp2_with fail
 refine TL.out.mono ?_
 rintro e w2 ⟨lg, cap, rfl, hva, hlg, hcp, hb2⟩
 have HCP := Lib.hid hcp
 have HVA := Lib.hid hva
 have HLG := Lib.hid (show w.heap.size + 2 ≤ lg by simpa using hlg)
 clear hva hlg
 replace HR := Lib.hid (keep_block HR.out hb2)
 replace HL := Lib.hid (HL.out.trans (hb2.mono HL.out.size))
 clear hb2
 obtain ⟨⟨r0, r1, r2, r3, r4, r5, r6, r7, r8⟩, g0, g1, g2, g3, g4, g5, g6, g7, g8⟩ := nine_at HR.out
 obtain ⟨nb, z0, z1, z2, z3, z4, z5, z6, z7, z8⟩ := nine_end (x0 := (.int .i64 5)) (x1 := (.string { data := #[] })) (x2 := (.string { data := #[] })) (x3 := (.string { data := #[] })) (x4 := (.bool false)) (x5 := (.int .i64 0)) (x6 := (.int .i64 (rr : Int))) (x7 := (.int .i64 (ss : Int))) (x8 := (.slice (some ⟨lg, 0, none⟩) L cap)) HR.out HL.out (Nat.le_refl _)
 have HVB := Lib.hid (vals_other HVA.out (set9_other w2 w.heap.size (.int .i64 5) (.string { data := #[] }) (.string { data := #[] }) (.string { data := #[] }) (.bool false) (.int .i64 0) (.int .i64 (rr : Int)) (.int .i64 (ss : Int)) (.slice (some ⟨lg, 0, none⟩) L cap) (show lg ≠ w.heap.size by have := HLG.out; omega)))
 have NB := Lib.hid nb
 clear nb
 go_wp2
 refine bodyPost_ret (v := .tuple #[.agg #[.int .i64 5, .string { data := #[] }, .string { data := #[] }, .string { data := #[] }, .bool false, .int .i64 0, .int .i64 (rr : Int), .int .i64 (ss : Int), .slice (some ⟨lg, 0, none⟩) L cap], .int .i64 0]) (by simp [results, Tryz.results21, go_sem, z0, z1, z2, z3, z4, z5, z6, z7, z8]) rfl ⟨lg, cap, rfl, HVB.out, by have := HLG.out; omega, HCP.out, NB.out⟩

set_option maxHeartbeats 4000000 in
set_option maxRecDepth 100000 in
theorem call_tab (name : ByteArray) (sl : Value) (rr ss L : Nat) (its : List Rat) (w : World) (hs : ∃ a l c, sl = .slice a l c)
  (hRun : ∀ W b, Below w.heap.size w W → TableAt W b allRows → Calls Tryz.prog 21 #[.map (some b), .string name, sl] W fun e w' => ∃ lg cap, e = .returned (.tuple #[.agg #[.int .i64 5, .string { data := #[] }, .string { data := #[] }, .string { data := #[] }, .bool false, .int .i64 0, .int .i64 (rr : Int), .int .i64 (ss : Int), .slice (some ⟨lg, 0, none⟩) L cap], .int .i64 0]) ∧ ValsAt w' lg 0 (numVals its) ∧ W.heap.size ≤ lg ∧ L ≤ cap ∧ Below W.heap.size W w') :
  Calls Tryz.prog 11 #[.string name, sl] w fun e w' => ∃ lg cap, e = .returned (.tuple #[.agg #[.int .i64 5, .string { data := #[] }, .string { data := #[] }, .string { data := #[] }, .bool false, .int .i64 0, .int .i64 (rr : Int), .int .i64 (ss : Int), .slice (some ⟨lg, 0, none⟩) L cap], .int .i64 0]) ∧ ValsAt w' lg 0 (numVals its) ∧ w.heap.size ≤ lg ∧ L ≤ cap ∧ Below w.heap.size w w' := by
 obtain ⟨sa, slen, sc, rfl⟩ := hs
 have hb : Below w.heap.size w (w.alloc (.cells #[.int .i64 0, .string { data := #[] }, .string { data := #[] }, .string { data := #[] }, .bool false, .int .i64 0, .int .i64 0, .int .i64 0, .slice none 0 0] 27)) := (Below.refl _ _).alloc (Nat.le_refl _) _
 have HR := Lib.hid (heap_alloc_new w (.cells #[.int .i64 0, .string { data := #[] }, .string { data := #[] }, .string { data := #[] }, .bool false, .int .i64 0, .int .i64 0, .int .i64 0, .slice none 0 0] 27))
 have HL := Lib.hid hb
 have TR := Lib.hid hRun
 clear hRun hb
 go_enter Tryz.func11, Tryz.ntmps11
 go_wp2_with fail
 refine (table_any _).mono ?_
 rintro e W1 ⟨b, rfl, ht, hb⟩
 have HT := Lib.hid ht
 clear ht
 replace HR := Lib.hid (keep_block HR.out hb)
 replace HL := Lib.hid (HL.out.trans (hb.mono HL.out.size))
 clear hb
 go_wp2_with fail
 refine (TR.out _ _ HL.out HT.out).mono ?_
 rintro e W2 ⟨lg, cap, rfl, hva, hlg, hcp, hb⟩
 have HCP := Lib.hid hcp
 have HVA := Lib.hid hva
 have HLG := Lib.hid (show w.heap.size < lg by have := heap_lt HR.out; omega)
 clear hva hlg
 replace HR := Lib.hid (keep_block HR.out hb)
 replace HL := Lib.hid (HL.out.trans (hb.mono HL.out.size))
 clear hb
 obtain ⟨⟨r0, r1, r2, r3, r4, r5, r6, r7, r8⟩, g0, g1, g2, g3, g4, g5, g6, g7, g8⟩ := nine_at HR.out
 obtain ⟨nb, z0, z1, z2, z3, z4, z5, z6, z7, z8⟩ := nine_end (x0 := (.int .i64 5)) (x1 := (.string { data := #[] })) (x2 := (.string { data := #[] })) (x3 := (.string { data := #[] })) (x4 := (.bool false)) (x5 := (.int .i64 0)) (x6 := (.int .i64 (rr : Int))) (x7 := (.int .i64 (ss : Int))) (x8 := (.slice (some ⟨lg, 0, none⟩) L cap)) HR.out HL.out (Nat.le_refl _)
 have HVB := Lib.hid (vals_other HVA.out (set9_other W2 w.heap.size (.int .i64 5) (.string { data := #[] }) (.string { data := #[] }) (.string { data := #[] }) (.bool false) (.int .i64 0) (.int .i64 (rr : Int)) (.int .i64 (ss : Int)) (.slice (some ⟨lg, 0, none⟩) L cap) (show lg ≠ w.heap.size by have := HLG.out; omega)))
 have NB := Lib.hid nb
 clear nb
 go_wp2
 refine bodyPost_ret (v := .tuple #[.agg #[.int .i64 5, .string { data := #[] }, .string { data := #[] }, .string { data := #[] }, .bool false, .int .i64 0, .int .i64 (rr : Int), .int .i64 (ss : Int), .slice (some ⟨lg, 0, none⟩) L cap], .int .i64 0]) (by simp [results, Tryz.results11, go_sem, z0, z1, z2, z3, z4, z5, z6, z7, z8]) rfl ⟨lg, cap, rfl, HVB.out, by have := HLG.out; omega, HCP.out, NB.out⟩

set_option maxHeartbeats 4000000 in
set_option maxRecDepth 100000 in
theorem math_tab (name : ByteArray) (sl : Value) (rr ss L : Nat) (its : List Rat) (w : World) (hs : ∃ a l c, sl = .slice a l c)
  (hRun : ∀ W b, Below w.heap.size w W → TableAt W b allRows → Calls Tryz.prog 21 #[.map (some b), .string name, sl] W fun e w' => ∃ lg cap, e = .returned (.tuple #[.agg #[.int .i64 5, .string { data := #[] }, .string { data := #[] }, .string { data := #[] }, .bool false, .int .i64 0, .int .i64 (rr : Int), .int .i64 (ss : Int), .slice (some ⟨lg, 0, none⟩) L cap], .int .i64 0]) ∧ ValsAt w' lg 0 (numVals its) ∧ W.heap.size ≤ lg ∧ L ≤ cap ∧ Below W.heap.size W w') :
  Calls Tryz.prog 6 #[.string name, sl] w fun e w' => ∃ lg cap, e = .returned (.agg #[.int .i64 5, .string { data := #[] }, .string { data := #[] }, .string { data := #[] }, .bool false, .int .i64 0, .int .i64 (rr : Int), .int .i64 (ss : Int), .slice (some ⟨lg, 0, none⟩) L cap]) ∧ ValsAt w' lg 0 (numVals its) ∧ w.heap.size ≤ lg ∧ L ≤ cap ∧ Below w.heap.size w w' := by
 have hb : Below w.heap.size w (w.alloc (.cells #[.int .i64 0, .string { data := #[] }, .string { data := #[] }, .string { data := #[] }, .bool false, .int .i64 0, .int .i64 0, .int .i64 0, .slice none 0 0] 27)) := (Below.refl _ _).alloc (Nat.le_refl _) _
 have HR := Lib.hid (heap_alloc_new w (.cells #[.int .i64 0, .string { data := #[] }, .string { data := #[] }, .string { data := #[] }, .bool false, .int .i64 0, .int .i64 0, .int .i64 0, .slice none 0 0] 27))
 have HL := Lib.hid hb
 have TC := Lib.hid (call_tab name sl rr ss L its (w.alloc (.cells #[.int .i64 0, .string { data := #[] }, .string { data := #[] }, .string { data := #[] }, .bool false, .int .i64 0, .int .i64 0, .int .i64 0, .slice none 0 0] 27)) hs (fun W b h => hRun W b (hb.trans (h.mono hb.size))))
 obtain ⟨sa, slen, sc, rfl⟩ := hs
 clear hRun hb
 go_enter Tryz.func6, Tryz.ntmps6
 go_wp2_with fail
 refine TC.out.mono ?_
 rintro e W1 ⟨lg, cap, rfl, hva, hlg, hcp, hb⟩
 have HCP := Lib.hid hcp
 have HVA := Lib.hid hva
 have HLG := Lib.hid (show w.heap.size < lg by have := heap_lt HR.out; omega)
 clear hva hlg
 replace HR := Lib.hid (keep_block HR.out hb)
 replace HL := Lib.hid (HL.out.trans (hb.mono HL.out.size))
 clear hb
 have hlt := heap_lt HR.out
 obtain ⟨⟨r0, r1, r2, r3, r4, r5, r6, r7, r8⟩, g0, g1, g2, g3, g4, g5, g6, g7, g8⟩ := nine_at HR.out
 have HF1 := Lib.hid (set9_at HR.out (.int .i64 5) (.string { data := #[] }) (.string { data := #[] }) (.string { data := #[] }) (.bool false) (.int .i64 0) (.int .i64 (rr : Int)) (.int .i64 (ss : Int)) (.slice (some ⟨lg, 0, none⟩) L cap))
 have HF2 := Lib.hid ((Below.heap_alloc _ (.cells #[.int .i64 5, .string { data := #[] }, .string { data := #[] }, .string { data := #[] }, .bool false, .int .i64 0, .int .i64 (rr : Int), .int .i64 (ss : Int), .slice (some ⟨lg, 0, none⟩) L cap] 27) _ (heap_lt HF1.out)).trans HF1.out)
 have HB2 := Lib.hid (nine_end (x0 := (.int .i64 5)) (x1 := (.string { data := #[] })) (x2 := (.string { data := #[] })) (x3 := (.string { data := #[] })) (x4 := (.bool false)) (x5 := (.int .i64 0)) (x6 := (.int .i64 (rr : Int))) (x7 := (.int .i64 (ss : Int))) (x8 := (.slice (some ⟨lg, 0, none⟩) L cap)) HR.out HL.out (Nat.le_refl _)).1
 have HZ2 := Lib.hid (HB2.out.alloc HB2.out.size (.cells #[.int .i64 5, .string { data := #[] }, .string { data := #[] }, .string { data := #[] }, .bool false, .int .i64 0, .int .i64 (rr : Int), .int .i64 (ss : Int), .slice (some ⟨lg, 0, none⟩) L cap] 27))
 have HA := Lib.hid ((Below.heap_alloc W1 (.cells #[.int .i64 5, .string { data := #[] }, .string { data := #[] }, .string { data := #[] }, .bool false, .int .i64 0, .int .i64 (rr : Int), .int .i64 (ss : Int), .slice (some ⟨lg, 0, none⟩) L cap] 27) _ hlt).trans HR.out)
 have HVB := Lib.hid (vals_other (HVA.out.below ((Below.refl W1.heap.size W1).alloc (Nat.le_refl _) (.cells #[.int .i64 5, .string { data := #[] }, .string { data := #[] }, .string { data := #[] }, .bool false, .int .i64 0, .int .i64 (rr : Int), .int .i64 (ss : Int), .slice (some ⟨lg, 0, none⟩) L cap] 27))) (set9_other (W1.alloc (.cells #[.int .i64 5, .string { data := #[] }, .string { data := #[] }, .string { data := #[] }, .bool false, .int .i64 0, .int .i64 (rr : Int), .int .i64 (ss : Int), .slice (some ⟨lg, 0, none⟩) L cap] 27)) w.heap.size (.int .i64 5) (.string { data := #[] }) (.string { data := #[] }) (.string { data := #[] }) (.bool false) (.int .i64 0) (.int .i64 (rr : Int)) (.int .i64 (ss : Int)) (.slice (some ⟨lg, 0, none⟩) L cap) (show lg ≠ w.heap.size by have := HLG.out; omega)))
 have HVC := Lib.hid (vals_other (HVA.out) (set9_other W1 w.heap.size (.int .i64 5) (.string { data := #[] }) (.string { data := #[] }) (.string { data := #[] }) (.bool false) (.int .i64 0) (.int .i64 (rr : Int)) (.int .i64 (ss : Int)) (.slice (some ⟨lg, 0, none⟩) L cap) (show lg ≠ w.heap.size by have := HLG.out; omega)))
 obtain ⟨⟨a0, a1, a2, a3, a4, a5, a6, a7, a8⟩, b0, b1, b2, b3, b4, b5, b6, b7, b8⟩ := nine_at HA.out
 obtain ⟨⟨z0, z1, z2, z3, z4, z5, z6, z7, z8⟩, _⟩ := nine_at HF2.out
 go_wp2
 refine bodyPost_ret (v := .agg #[.int .i64 5, .string { data := #[] }, .string { data := #[] }, .string { data := #[] }, .bool false, .int .i64 0, .int .i64 (rr : Int), .int .i64 (ss : Int), .slice (some ⟨lg, 0, none⟩) L cap]) (by simp [results, Tryz.results6, go_sem, z0, z1, z2, z3, z4, z5, z6, z7, z8]) rfl ⟨lg, cap, rfl, HVC.out.below ((Below.refl _ _).alloc (Nat.le_refl _) _), by have := HLG.out; omega, HCP.out, HZ2.out⟩
end Go.Proofs.YtkghpiaoggljjaaGreatDoor.Num.Fl.K4

/- value.Lift at the kinds 'a' where the result is an array and no argument is lifted. Conditions: the tables lie as they are laid; each number fits; at most 1000 numbers. -/
namespace Go.Proofs.YtkghpiaoggljjaaGreatDoor.Num
open Go.RowKit Go.Lib Num
set_option maxHeartbeats 8000000 in
set_option maxRecDepth 100000 in
theorem lift_a_tab (vs : List Val) (ab ao C pb : Nat) (rr ss L : Nat) (its : List Rat) (hr1 : 1 ≤ rr) (hs1 : 1 ≤ ss) (hL9 : L ≤ 1000) (hL : rr * ss = L) (hil : its.length = L) (hfit : ∀ q ∈ its, fits q = true) (w : World) (h0 : 0 < vs.length) (h9 : vs.length ≤ 300) (hv : ValsAt w ab ao vs) (hE : Env w)
  (hC : ∀ v ∈ vs, ∀ W, Below w.heap.size w W → Calls Tryz.prog 24 #[v.agg] W fun e w' => e = .returned (.int .i64 0) ∧ Below W.heap.size W w')
  (hF : ∀ W g cap, Below w.heap.size w W → ValsAt W g 0 vs → Calls Tryz.prog 32 #[.slice (some ⟨g, 0, none⟩) vs.length cap, .pointer (some ⟨pb, 0, none⟩)] W fun e w' => ∃ lg cap, e = .returned (.agg #[.int .i64 5, .string { data := #[] }, .string { data := #[] }, .string { data := #[] }, .bool false, .int .i64 0, .int .i64 (rr : Int), .int .i64 (ss : Int), .slice (some ⟨lg, 0, none⟩) L cap]) ∧ ValsAt w' lg 0 (numVals its) ∧ W.heap.size ≤ lg ∧ Below W.heap.size W w') :
  Calls Tryz.prog 31 #[.string { data := #[97] }, .slice (some ⟨ab, ao, none⟩) vs.length C, .func (.func 32) #[] #[.pointer (some ⟨pb, 0, none⟩)]] w fun e w' => ∃ lg cap, e = .returned (.tuple #[.agg #[.int .i64 5, .string { data := #[] }, .string { data := #[] }, .string { data := #[] }, .bool false, .int .i64 0, .int .i64 (rr : Int), .int .i64 (ss : Int), .slice (some ⟨lg, 0, none⟩) L cap], .int .i64 0]) ∧ ValsAt w' lg 0 (numVals its) ∧ w.heap.size ≤ lg ∧ Below w.heap.size w w' := by
 have hnn : (rr : Int) * (ss : Int) = (its.length : Int) := by rw [hil, ← hL, Int.natCast_mul]
 have h0L : 0 < L := by rw [← hL]; exact Nat.mul_pos hr1 hs1
 have hrL : rr ≤ L := by rw [← hL]; exact Nat.le_mul_of_pos_right rr hs1
 have hsL : ss ≤ L := by rw [← hL]; exact Nat.le_mul_of_pos_left ss hr1
 have hb : Below w.heap.size w (w.alloc (.cells #[.int .i64 0, .string { data := #[] }, .string { data := #[] }, .string { data := #[] }, .bool false, .int .i64 0, .int .i64 0, .int .i64 0, .slice none 0 0] 27)) := (Below.refl _ _).alloc (Nat.le_refl _) _
 have HR := Lib.hid (heap_alloc_new w (.cells #[.int .i64 0, .string { data := #[] }, .string { data := #[] }, .string { data := #[] }, .bool false, .int .i64 0, .int .i64 0, .int .i64 0, .slice none 0 0] 27))
 have HV := Lib.hid (hv.below hb)
 have HE := Lib.hid (hE.below hb)
 have HL := Lib.hid hb
 have HC := Lib.hid hC
 have HO := Lib.hid (fun lg cap W (hva : ValsAt W lg 0 (numVals its)) (ge : Env W) => valid_tab 5 { data := #[] } { data := #[] } { data := #[] } false 0 (rr : Int) (ss : Int) (some ⟨lg, 0, none⟩) L cap W (fun W' hb' ge' => by
  have := check_arr its (rr : Int) (ss : Int) lg cap W' (by omega) (by omega) (by omega) (by omega) hnn hfit (by omega) (hva.below hb') ge'
  rw [hil] at this
  exact this) ge)
 have HF := Lib.hid hF
 obtain ⟨LV, hLv⟩ : ∃ L, vs.length = L := ⟨_, rfl⟩
 have HLL := Lib.hid hLv
 rw [hLv] at h0 h9 HF ⊢
 have htr := fun W => Any.strings_Trim_laid Tryz.lays160 (by kernel_rfl) { data := #[97] } { data := #[115, 97] } W (by decide) (by decide) (ascii_of_all (by decide))
 rw [show Lib.trimS ({ data := #[97] } : ByteArray).data.toList ({ data := #[115, 97] } : ByteArray).data.toList = [] from by decide] at htr
 have HTR := Lib.hid htr
 have hem : ({ data := #[] } : ByteArray).toList.isEmpty = true := by rw [Lib.toList_data]; rfl
 obtain ⟨B, hB⟩ : ∃ B, w.heap.size = B := ⟨_, rfl⟩
 have HB := Lib.hid hB
 clear hb hv hE hC hF hLv htr hB
 go_enter Tryz.func31, Tryz.ntmps31
 go_wp2_with fail
 refine (HTR.out _).mono ?_
 rintro e w1 ⟨rfl, hb⟩
 replace HR := Lib.hid (keep_block HR.out hb)
 replace HV := Lib.hid (HV.out.below hb)
 replace HE := Lib.hid (HE.out.below hb)
 replace HL := Lib.hid (HL.out.trans (hb.mono HL.out.size))
 clear hb
 have LI := Lib.hid (show LiftI w ab ao vs w1 from ⟨HR.out, HV.out, HE.out, HL.out⟩)
 clear HR HV HE HL
 go_wp2_with fail
 go_loopg [29] LV (fun g v29 wx => ∃ i : Nat, v29 = .int .i64 (i : Int) ∧ i ≤ LV ∧ g = LV - i ∧ LiftI w ab ao vs wx)
 case atStart => exact ⟨0, rfl, Nat.zero_le _, rfl, LI.out⟩
 case round =>
  obtain ⟨i, rfl, hi, rfl, hli⟩ := hrel
  have HLI := Lib.hid hli
  clear hli LI
  by_cases hlt : i < LV
  ·have hd : decide ((i : Int) < (LV : Int)) = true := decide_eq_true (by omega)
   have hd2 : decide (i < LV) = true := decide_eq_true hlt
   have hii : i < vs.length := by rw [HLL.out]; exact hlt
   obtain ⟨c0, c1, c2, c3, c4, c5, c6, c7, c8⟩ := HLI.out.2.1.at i hii
   have hi0 : (0 : Int) ≤ (i : Int) := by omega
   have hi1 : (i : Int) < (LV : Int) := by omega
   have TC := Lib.hid (HC.out vs[i] (List.getElem_mem hii))
   have HA := Lib.hid (HLI.out.2.2.2.trans ((Below.refl wr.heap.size wr).alloc (Nat.le_refl _) (.cells #[.int .i64 vs[i].k, .string vs[i].n, .string vs[i].d, .string vs[i].t, .bool vs[i].on, .int .i64 vs[i].c, .int .i64 vs[i].r, .int .i64 vs[i].s, .slice vs[i].A vs[i].L vs[i].C] 27) |>.mono HLI.out.2.2.2.size))
   go_wp2_with fail
   refine (TC.out _ HA.out).mono ?_
   rintro e w2 ⟨rfl, hb⟩
   have HLI2 := Lib.hid ((HLI.out.step ((Below.refl wr.heap.size wr).alloc (Nat.le_refl _) (.cells #[.int .i64 vs[i].k, .string vs[i].n, .string vs[i].d, .string vs[i].t, .bool vs[i].on, .int .i64 vs[i].c, .int .i64 vs[i].r, .int .i64 vs[i].s, .slice vs[i].A vs[i].L vs[i].C] 27))).step hb)
   clear hb c0 c1 c2 c3 c4 c5 c6 c7 c8
   go_wp2
   go_roundg (LV - (i + 1))
   case measure => omega
   case rel => exact ⟨i + 1, by go_num, by omega, by omega, HLI2.out⟩
  ·have hd : decide ((i : Int) < (LV : Int)) = false := decide_eq_false (by omega)
   have hd2 : decide (i < LV) = false := decide_eq_false hlt
   clear hlt
   go_wp2_with fail
   go_loopg [11, 12, 42] LV (fun g v11 v12 v42 wx => ∃ i : Nat, v11 = .int .i64 0 ∧ v12 = .int .i64 0 ∧ v42 = .int .i64 (i : Int) ∧ i ≤ LV ∧ g = LV - i ∧ LiftI w ab ao vs wx)
   case atStart => exact ⟨0, rfl, rfl, rfl, Nat.zero_le _, rfl, HLI.out⟩
   case round =>
    clear HLI hd hd2 hi
    obtain ⟨i, rfl, rfl, rfl, hi, rfl, hli⟩ := hrel
    have HLI := Lib.hid hli
    clear hli
    by_cases hlt : i < LV
    ·have hd : decide ((i : Int) < (LV : Int)) = true := decide_eq_true (by omega)
     have hd2 : decide (i < LV) = true := decide_eq_true hlt
     have hii : i < vs.length := by rw [HLL.out]; exact hlt
     obtain ⟨c0, c1, c2, c3, c4, c5, c6, c7, c8⟩ := HLI.out.2.1.at i hii
     have hi0 : (0 : Int) ≤ (i : Int) := by omega
     have hi1 : (i : Int) < (LV : Int) := by omega
     skip
     go_wp2_with fail
     refine (letter_one 97 i (by omega) _).mono ?_
     rintro e w2 ⟨rfl, rfl⟩
     have HLI2 := Lib.hid (HLI.out.step ((Below.refl wr.heap.size wr).alloc (Nat.le_refl _) (.cells #[.int .i64 vs[i].k, .string vs[i].n, .string vs[i].d, .string vs[i].t, .bool vs[i].on, .int .i64 vs[i].c, .int .i64 vs[i].r, .int .i64 vs[i].s, .slice vs[i].A vs[i].L vs[i].C] 27)))
     go_wp2
     go_roundg (LV - (i + 1))
     case measure => omega
     case rel => exact ⟨i + 1, rfl, rfl, by go_num, by omega, by omega, HLI2.out⟩
    ·have hd : decide ((i : Int) < (LV : Int)) = false := decide_eq_false (by omega)
     have hd2 : decide (i < LV) = false := decide_eq_false hlt
     clear hlt
     obtain ⟨i0, hi0', hz0, hz1, hz2⟩ := info_val
     have hfl : (flat vs).length = LV * 9 := by rw [flat_len, HLL.out]
     have hvals := HLI.out.2.1
     have hml : 0 + LV ≤ maxLen := by unfold maxLen; omega
     clear hi
     go_wp2_with (at_builtin; refine wpList_append_own _ rfl _ _ 25 rfl w.heap.size 27 i0 _ 9 112 Tryz.underlying25 hi0' hz0 hz1 hz2 rfl (by decide) (.slice none 0 0) 0 [] rfl (World.ownsRow_nil _ _ _ _) ⟨ab, ao, none⟩ LV C (flat vs) rfl hfl hvals (flat_one vs) hml (by omega) HLI.out.2.2.2.size ?_)
     intro v5 w5 hown5 hgrow5 _
     obtain ⟨g, cap, rfl, hg, hcap, hva⟩ := vals_of_owns hown5 HLL.out h0
     have HLI5 := Lib.hid (HLI.out.step (below_none hgrow5))
     have HVA := Lib.hid hva
     clear hown5 hgrow5 hg hcap hva hvals hfl hml hi0' hz0 hz1 hz2
     go_wp2_with fail
     refine (HF.out _ g cap HLI5.out.2.2.2 HVA.out).mono ?_
     rintro e w6 ⟨lg, cap', rfl, hva6, hlg6, hb⟩
     have HV6 := Lib.hid hva6
     have HLI6 := Lib.hid (HLI5.out.step hb)
     clear hb hva6 hlg6
     go_wp2_with fail
     refine (HO.out lg cap' _ HV6.out HLI6.out.2.2.1).mono ?_
     rintro e w7 ⟨rfl, hb⟩
     have HV7 := Lib.hid (HV6.out.below hb)
     have HLI7 := Lib.hid (HLI6.out.step hb)
     clear hb HLI6 HV6
     have hb8 : Below w7.heap.size w7 (w7.alloc (.cells #[.int .i64 5, .string { data := #[] }, .string { data := #[] }, .string { data := #[] }, .bool false, .int .i64 0, .int .i64 (rr : Int), .int .i64 (ss : Int), .slice (some ⟨lg, 0, none⟩) L cap'] 27)) := (Below.refl w7.heap.size w7).alloc (Nat.le_refl _) _
     have HLI8 := Lib.hid (HLI7.out.step hb8)
     have HV8 := Lib.hid (HV7.out.below hb8)
     have HT := Lib.hid (heap_alloc_new w7 (.cells #[.int .i64 5, .string { data := #[] }, .string { data := #[] }, .string { data := #[] }, .bool false, .int .i64 0, .int .i64 (rr : Int), .int .i64 (ss : Int), .slice (some ⟨lg, 0, none⟩) L cap'] 27))
     obtain ⟨t15, ht15⟩ : ∃ z, w7.heap.size = z := ⟨_, rfl⟩
     obtain ⟨w8, hw8⟩ : ∃ Z, w7.alloc (.cells #[.int .i64 5, .string { data := #[] }, .string { data := #[] }, .string { data := #[] }, .bool false, .int .i64 0, .int .i64 (rr : Int), .int .i64 (ss : Int), .slice (some ⟨lg, 0, none⟩) L cap'] 27) = Z := ⟨_, rfl⟩
     have HGT := Lib.hid (show w.heap.size < t15 by have := heap_lt HLI7.out.1; omega)
     rw [hw8] at HLI8 HV8 HT
     rw [ht15] at HT
     have EW8 := Lib.hid hw8
     have ET := Lib.hid ht15
     clear HLI7 HV7 hb8 hw8 ht15
     obtain ⟨i1, hi1', hz10, hz11, hz12⟩ := info_val
     have hfl : (flat (numVals its)).length = L * 9 := by rw [flat_len, numVals_len, hil]
     have hvals := HV8.out
     have hml : 0 + L ≤ maxLen := by unfold maxLen; omega
     obtain ⟨⟨e0, e1, e2, e3, e4, e5, e6, e7, e8⟩, f0, f1, f2, f3, f4, f5, f6, f7, f8⟩ := nine_at HT.out
     go_upto_region 19 with fail
     rw [EW8.out, ET.out]
     go_wp2_with (at_builtin; refine wpList_append_own _ rfl _ _ 25 rfl w8.heap.size 27 i1 _ 9 112 Tryz.underlying25 hi1' hz10 hz11 hz12 rfl (by decide) (.slice none 0 0) 0 [] rfl (World.ownsRow_nil _ _ _ _) ⟨lg, 0, none⟩ L cap' (flat (numVals its)) rfl hfl hvals (flat_one _) hml (by omega) (Nat.le_refl _) ?_)
     intro v9 w9 hown9 hgrow9 _
     obtain ⟨g9, cap9, rfl, hg9, hcap9, hva9⟩ := vals_of_owns hown9 (by rw [numVals_len, hil]) h0L
     have HLI9 := Lib.hid (HLI8.out.step (below_none hgrow9))
     have HT9 := Lib.hid (keep_block HT.out (below_none hgrow9))
     have HV9 := Lib.hid hva9
     have HG9 := Lib.hid (show t15 < g9 by have := heap_lt HT.out; omega)
     clear hown9 hgrow9 hcap9 hva9 hvals hfl hml hg9 e0 e1 e2 e3 e4 e5 e6 e7 e8 f0 f1 f2 f3 f4 f5 f6 f7 f8 HLI8 HV8 HT
     obtain ⟨⟨e0, e1, e2, e3, e4, e5, e6, e7, e8⟩, f0, f1, f2, f3, f4, f5, f6, f7, f8⟩ := nine_at HT9.out
     go_upto_region 20 with fail
     have hT10 := heap_setCell_at HT9.out 8 (.slice (some ⟨g9, 0, none⟩) L cap9)
     have HT10 := Lib.hid (show (w9.setCell ⟨t15, 8, none⟩ (.slice (some ⟨g9, 0, none⟩) L cap9)).heap[t15]? = some (.cells #[.int .i64 5, .string { data := #[] }, .string { data := #[] }, .string { data := #[] }, .bool false, .int .i64 0, .int .i64 (rr : Int), .int .i64 (ss : Int), .slice (some ⟨g9, 0, none⟩) L cap9] 27 (0, 0)) from hT10)
     have HV10 := Lib.hid (vals_other HV9.out (Below.heap_setCell w9 ⟨t15, 8, none⟩ (.slice (some ⟨g9, 0, none⟩) L cap9) g9 (by have := HG9.out; simp only []; omega)))
     have HR10 := Lib.hid ((Below.heap_setCell w9 ⟨t15, 8, none⟩ (.slice (some ⟨g9, 0, none⟩) L cap9) w.heap.size (by have := HGT.out; simp only []; omega)).trans HLI9.out.1)
     have HL10 := Lib.hid (HLI9.out.2.2.2.setCell (p := ⟨t15, 8, none⟩) (show w.heap.size ≤ t15 by have := HGT.out; omega) (.slice (some ⟨g9, 0, none⟩) L cap9))
     clear hT10 HLI9 HT9 HV9 e0 e1 e2 e3 e4 e5 e6 e7 e8 f0 f1 f2 f3 f4 f5 f6 f7 f8
     obtain ⟨w10, hw10⟩ : ∃ Z, w9.setCell ⟨t15, 8, none⟩ (.slice (some ⟨g9, 0, none⟩) L cap9) = Z := ⟨_, rfl⟩
     rw [hw10] at HT10 HV10 HR10 HL10 ⊢
     clear hw10
     obtain ⟨⟨e0, e1, e2, e3, e4, e5, e6, e7, e8⟩, _⟩ := nine_at HT10.out
     obtain ⟨⟨a0, a1, a2, a3, a4, a5, a6, a7, a8⟩, b0, b1, b2, b3, b4, b5, b6, b7, b8⟩ := nine_at HR10.out
     obtain ⟨nb, z0, z1, z2, z3, z4, z5, z6, z7, z8⟩ := nine_end (x0 := (.int .i64 5)) (x1 := (.string { data := #[] })) (x2 := (.string { data := #[] })) (x3 := (.string { data := #[] })) (x4 := (.bool false)) (x5 := (.int .i64 0)) (x6 := (.int .i64 (rr : Int))) (x7 := (.int .i64 (ss : Int))) (x8 := (.slice (some ⟨g9, 0, none⟩) L cap9)) HR10.out HL10.out (Nat.le_refl _)
     have NB := Lib.hid nb
     have HV11 := Lib.hid (vals_other HV10.out (set9_other w10 w.heap.size (.int .i64 5) (.string { data := #[] }) (.string { data := #[] }) (.string { data := #[] }) (.bool false) (.int .i64 0) (.int .i64 (rr : Int)) (.int .i64 (ss : Int)) (.slice (some ⟨g9, 0, none⟩) L cap9) (show g9 ≠ w.heap.size by have := HG9.out; have := HGT.out; omega)))
     clear nb
     go_wp2
     refine bodyPost_ret (v := .tuple #[.agg #[.int .i64 5, .string { data := #[] }, .string { data := #[] }, .string { data := #[] }, .bool false, .int .i64 0, .int .i64 (rr : Int), .int .i64 (ss : Int), .slice (some ⟨g9, 0, none⟩) L cap9], .int .i64 0]) (by simp [results, Tryz.results31, go_sem, z0, z1, z2, z3, z4, z5, z6, z7, z8]) rfl ⟨g9, cap9, rfl, HV11.out, by have := HG9.out; have := HGT.out; omega, NB.out⟩

end Go.Proofs.YtkghpiaoggljjaaGreatDoor.Num
