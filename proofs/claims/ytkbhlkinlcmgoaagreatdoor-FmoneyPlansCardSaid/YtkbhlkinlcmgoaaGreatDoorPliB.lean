/- Numbers as texts of digits, fractions, values and the functions of fmath: contracts of the program's functions, joined from smaller texts. Conditions stand at each theorem. -/
import Derived.Test.YtkbhlkinlcmgoaaGreatDoorPliA
import Derived.Test.YtkbhlkinlcmgoaaGreatDoorPlfA

set_option linter.unusedVariables false
set_option linter.unusedSimpArgs false

/- Results that are arrays: through Run's closure, Run at kinds 'ass', Call and the law's own call, for flook's table. Conditions: the tables lie as they are laid; each number fits; at most 1000 numbers. -/
namespace Go.Proofs.YtkbhlkinlcmgoaaGreatDoor.Num.Fl
open Go.RowKit Go.Lib Go.MapKept Num
set_option maxHeartbeats 4000000 in
set_option maxRecDepth 100000 in
theorem run1_tab (pb e : Nat) (sl : Value) (rr ss L lo : Nat) (its : List Rat) (hr1 : 1 ≤ rr) (hs1 : 1 ≤ ss) (hL9 : L ≤ 1000) (hL : rr * ss = L) (hil : its.length = L) (w : World) (hs : ∃ a l c, sl = .slice a l c) (hc : w.cell? ⟨pb, 3, none⟩ = some (.func (.func 274) #[] #[.pointer (some ⟨e, 0, none⟩)])) (hE : Env w)
    (hF : ∀ W, Below w.heap.size w W → Calls Tryz.prog 274 #[sl, .pointer (some ⟨e, 0, none⟩)] W fun e w' => ∃ lg cap, e = .returned (.agg #[.int .i64 5, .string { data := #[] }, .string { data := #[] }, .string { data := #[] }, .bool false, .int .i64 0, .int .i64 (rr : Int), .int .i64 (ss : Int), .slice (some ⟨lg, lo, none⟩) L cap]) ∧ ValsAt w' lg lo (numVals its) ∧ W.heap.size ≤ lg ∧ Below W.heap.size W w') :
    Calls Tryz.prog 65 #[sl, .pointer (some ⟨pb, 0, none⟩)] w fun e w' => ∃ lg cap, e = .returned (.agg #[.int .i64 5, .string { data := #[] }, .string { data := #[] }, .string { data := #[] }, .bool false, .int .i64 0, .int .i64 (rr : Int), .int .i64 (ss : Int), .slice (some ⟨lg, lo, none⟩) L cap]) ∧ ValsAt w' lg lo (numVals its) ∧ w.heap.size ≤ lg ∧ Below w.heap.size w w' := by
  have hrL : rr ≤ L := by rw [← hL]; exact Nat.le_mul_of_pos_right rr hs1
  have hsL : ss ≤ L := by rw [← hL]; exact Nat.le_mul_of_pos_left ss hr1
  obtain ⟨sa, slen, sc, rfl⟩ := hs
  have hmf : ∀ (fn : Fn) (first cap : Array Value) (w : World), (Instr.makeFunc fn first cap).run Tryz.prog w = .ok (.func fn first cap) w := fun _ _ _ _ => rfl
  have hb : Below w.heap.size w (w.alloc (.cells #[.int .i64 0, .string { data := #[] }, .string { data := #[] }, .string { data := #[] }, .bool false, .int .i64 0, .int .i64 0, .int .i64 0, .slice none 0 0] 30)) := (Below.refl _ _).alloc (Nat.le_refl _) _
  have HR := Lib.hid (heap_alloc_new w (.cells #[.int .i64 0, .string { data := #[] }, .string { data := #[] }, .string { data := #[] }, .bool false, .int .i64 0, .int .i64 0, .int .i64 0, .slice none 0 0] 30))
  have HX := Lib.hid (cell_below hc hb)
  have HL := Lib.hid hb
  have HE := Lib.hid (hE.below hb)
  have TF := Lib.hid (hF _ hb)
  clear hb hc hE hF
  have d0 : decide ((0 : Int) < (rr : Int)) = true := decide_eq_true (by omega)
  have d1 : decide (0 < rr) = true := decide_eq_true (by omega)
  have hr0 : ((rr : Int) = 0) = False := eq_false (by omega)
  have hr1' : (rr = 0) = False := eq_false (by omega)
  have hr2 : decide (rr = 0) = false := decide_eq_false (by omega)
  have hq : 100 ≤ (100000 : Int) / (rr : Int) := (Int.le_ediv_iff_mul_le (by omega)).2 (by omega)
  have hq4 : (ss : Int) * (rr : Int) = (L : Int) := by rw [← hL, Int.natCast_mul, Int.mul_comm]
  have hq3 : (ss : Int) ≤ (100000 : Int) / (rr : Int) := (Int.le_ediv_iff_mul_le (by omega)).2 (by omega)
  have hq2 : (100000 : Int) / (rr : Int) ≤ 100000 := Int.ediv_le_self _ (by omega)
  have hqt : (100000 : Int).tdiv (rr : Int) = (100000 : Int) / (rr : Int) := Int.tdiv_eq_ediv_of_nonneg (by omega)
  obtain ⟨q9, hqq⟩ : ∃ q, (100000 : Int) / (rr : Int) = q := ⟨_, rfl⟩
  rw [hqq] at hq hq2 hqt hq3
  have hqw : IntKind.i64.wrap q9 = q9 := IntWalk.i64_in _ (by omega)
  have d3 : decide (q9 < (ss : Int)) = false := decide_eq_false (by omega)
  clear hq hq2 hq3 hq4
  obtain x3 := HX.out
  go_enter_defers Tryz.func65, Tryz.ntmps65
  go_wp2_with fail
  refine TF.out.mono ?_
  rintro e w1 ⟨lg, cap, rfl, hva, hlg, hb⟩
  have HVA := Lib.hid hva
  have HLG := Lib.hid (show w.heap.size + 1 ≤ lg by simpa using hlg)
  clear hva hlg
  replace HR := Lib.hid (keep_block HR.out hb)
  replace HE := Lib.hid (HE.out.below hb)
  replace HL := Lib.hid (HL.out.trans (hb.mono HL.out.size))
  clear hb
  obtain ⟨⟨r0, r1, r2, r3, r4, r5, r6, r7, r8⟩, g0, g1, g2, g3, g4, g5, g6, g7, g8⟩ := nine_at HR.out
  have HR2 := Lib.hid (set9_at HR.out (.int .i64 5) (.string { data := #[] }) (.string { data := #[] }) (.string { data := #[] }) (.bool false) (.int .i64 0) (.int .i64 (rr : Int)) (.int .i64 (ss : Int)) (.slice (some ⟨lg, lo, none⟩) L cap))
  have HL2 := Lib.hid (nine_end (x0 := (.int .i64 5)) (x1 := (.string { data := #[] })) (x2 := (.string { data := #[] })) (x3 := (.string { data := #[] })) (x4 := (.bool false)) (x5 := (.int .i64 0)) (x6 := (.int .i64 (rr : Int))) (x7 := (.int .i64 (ss : Int))) (x8 := (.slice (some ⟨lg, lo, none⟩) L cap)) HR.out HL.out (Nat.le_refl _)).1
  go_wp2_with fail
  obtain ⟨W2, hW2⟩ : ∃ W2, (((((((((w1.setCell ⟨w.heap.size, 0, none⟩ (.int .i64 5)).setCell ⟨w.heap.size, 1, none⟩ (.string { data := #[] })).setCell ⟨w.heap.size, 2, none⟩ (.string { data := #[] })).setCell ⟨w.heap.size, 3, none⟩ (.string { data := #[] })).setCell ⟨w.heap.size, 4, none⟩ (.bool false)).setCell ⟨w.heap.size, 5, none⟩ (.int .i64 0)).setCell ⟨w.heap.size, 6, none⟩ (.int .i64 (rr : Int))).setCell ⟨w.heap.size, 7, none⟩ (.int .i64 (ss : Int))).setCell ⟨w.heap.size, 8, none⟩ (.slice (some ⟨lg, lo, none⟩) L cap)) = W2 := ⟨_, rfl⟩
  rw [hW2] at HR2 HL2 ⊢
  clear r0 r1 r2 r3 r4 r5 r6 r7 r8 g0 g1 g2 g3 g4 g5 g6 g7 g8
  obtain ⟨⟨r0, r1, r2, r3, r4, r5, r6, r7, r8⟩, g0, g1, g2, g3, g4, g5, g6, g7, g8⟩ := nine_at HR2.out
  have HVB := Lib.hid (Off.vals_other (W' := W2) HVA.out (by rw [← hW2]; exact set9_other w1 w.heap.size (.int .i64 5) (.string { data := #[] }) (.string { data := #[] }) (.string { data := #[] }) (.bool false) (.int .i64 0) (.int .i64 (rr : Int)) (.int .i64 (ss : Int)) (.slice (some ⟨lg, lo, none⟩) L cap) (show lg ≠ w.heap.size by have := HLG.out; omega)))
  clear hW2
  go_quiet (fail)
  have HR3 := Lib.hid (show (W2.drewN nq).heap[w.heap.size]? = _ from HR2.out)
  obtain ⟨nb, e0, e1, e2, e3, e4, e5, e6, e7, e8⟩ := nine_end (x0 := (.int .i64 5)) (x1 := (.string { data := #[] })) (x2 := (.string { data := #[] })) (x3 := (.string { data := #[] })) (x4 := (.bool false)) (x5 := (.int .i64 0)) (x6 := (.int .i64 (rr : Int))) (x7 := (.int .i64 (ss : Int))) (x8 := (.slice (some ⟨lg, lo, none⟩) L cap)) HR3.out (below_drewN HL2.out nq) (Nat.le_refl _)
  go_wp2
  refine leaves_cons (f := 66) (args := #[.pointer (some ⟨w.heap.size, 0, none⟩)]) (by simp) (by simp [go_sem]) ?_
  refine (idle_any _ _).mono ?_
  rintro e u' w3 ⟨rfl, rfl, rfl⟩
  have HVC := Off.vals_other (show ValsAt (W2.drewN nq) lg lo (numVals its) from HVB.out) (set9_other (W2.drewN nq) w.heap.size (.int .i64 5) (.string { data := #[] }) (.string { data := #[] }) (.string { data := #[] }) (.bool false) (.int .i64 0) (.int .i64 (rr : Int)) (.int .i64 (ss : Int)) (.slice (some ⟨lg, lo, none⟩) L cap) (show lg ≠ w.heap.size by have := HLG.out; omega))
  exact ⟨_, (by simp [results, Tryz.results65, go_sem, e0, e1, e2, e3, e4, e5, e6, e7, e8]), lg, cap, rfl, HVC, by have := HLG.out; omega, nb⟩

attribute [local go_sem] run_store_func
set_option maxHeartbeats 8000000 in
set_option maxRecDepth 100000 in
theorem run_ass_tab (i : Nat) (r : Row) (hi : i < allRows.length) (hr : allRows[i] = r) (hnum : r.num = true) (hkd : r.kinds = { data := #[97, 115, 115] }) (hfr : ∀ j (hj : j < i), (allRows[i].name == (allRows[j]'(by omega)).name) = false) (vs : List Val) (b ab ao C : Nat) (rr ss L lo : Nat) (its : List Rat) (hr1 : 1 ≤ rr) (hs1 : 1 ≤ ss) (hL9 : L ≤ 1000) (hL : rr * ss = L) (hil : its.length = L) (hfit : ∀ q ∈ its, fits q = true) (w : World) (h0 : 0 < vs.length) (h9 : vs.length ≤ 300) (hc1 : r.least ≤ vs.length) (hc2 : (vs.length : Int) ≤ r.most) (hno1 : ∀ (h : 1 < vs.length), (vs[1].k == 5) = false) (hnoL : ∀ (i : Nat) (h : i < vs.length), 2 ≤ i → (vs[i].k == 5) = false) (hv : ValsAt w ab ao vs) (hE : Env w) (hT : TableAt w b allRows)
    (hC : ∀ v ∈ vs, ∀ W, Below w.heap.size w W → Calls Tryz.prog 40 #[v.agg] W fun e w' => e = .returned (.int .i64 0) ∧ Below W.heap.size W w')
    (hK : ∀ W e g cap, Below w.heap.size w W → Env W → FnAt W e r → ValsAt W g 0 vs → Calls Tryz.prog 274 #[.slice (some ⟨g, 0, none⟩) vs.length cap, .pointer (some ⟨e, 0, none⟩)] W fun e w' => ∃ lg cap, e = .returned (.agg #[.int .i64 5, .string { data := #[] }, .string { data := #[] }, .string { data := #[] }, .bool false, .int .i64 0, .int .i64 (rr : Int), .int .i64 (ss : Int), .slice (some ⟨lg, lo, none⟩) L cap]) ∧ ValsAt w' lg lo (numVals its) ∧ W.heap.size ≤ lg ∧ Below W.heap.size W w') :
    Calls Tryz.prog 41 #[.map (some b), .string r.name, .slice (some ⟨ab, ao, none⟩) vs.length C] w fun e w' => ∃ lg cap, e = .returned (.tuple #[.agg #[.int .i64 5, .string { data := #[] }, .string { data := #[] }, .string { data := #[] }, .bool false, .int .i64 0, .int .i64 (rr : Int), .int .i64 (ss : Int), .slice (some ⟨lg, 0, none⟩) L cap], .int .i64 0]) ∧ ValsAt w' lg 0 (numVals its) ∧ w.heap.size ≤ lg ∧ Below w.heap.size w w' := by
  have hb : Below w.heap.size w (w.alloc (.cells #[.int .i64 0, .string { data := #[] }, .string { data := #[] }, .string { data := #[] }, .bool false, .int .i64 0, .int .i64 0, .int .i64 0, .slice none 0 0] 30)) := (Below.refl _ _).alloc (Nat.le_refl _) _
  have HR := Lib.hid (heap_alloc_new w (.cells #[.int .i64 0, .string { data := #[] }, .string { data := #[] }, .string { data := #[] }, .bool false, .int .i64 0, .int .i64 0, .int .i64 0, .slice none 0 0] 30))
  obtain ⟨v, hrf, hrun⟩ := (hT.below hb).look i hi hfr Tryz.underlying73 Tryz.underlying9
  rw [hr] at hrf hrun
  obtain ⟨e0, rfl, hfn⟩ := rowFn_at hrf hnum
  obtain ⟨name, least, most, kinds, num, F⟩ := r
  simp only at hkd hc1 hc2
  subst hkd
  simp only at hrun ⊢
  have HV := Lib.hid (hv.below hb)
  have HE := Lib.hid (hE.below hb)
  have HL := Lib.hid hb
  have HFN := Lib.hid hfn
  have d1 : decide ((vs.length : Int) < least) = false := decide_eq_false (by omega)
  have d2 : decide (most < (vs.length : Int)) = false := decide_eq_false (by omega)
  have hmf : ∀ (fn : Fn) (first cap : Array Value) (w : World), (Instr.makeFunc fn first cap).run Tryz.prog w = .ok (.func fn first cap) w := fun _ _ _ _ => rfl
  have hb : Below (w.alloc (.cells #[.int .i64 0, .string { data := #[] }, .string { data := #[] }, .string { data := #[] }, .bool false, .int .i64 0, .int .i64 0, .int .i64 0, .slice none 0 0] 30)).heap.size (w.alloc (.cells #[.int .i64 0, .string { data := #[] }, .string { data := #[] }, .string { data := #[] }, .bool false, .int .i64 0, .int .i64 0, .int .i64 0, .slice none 0 0] 30)) ((w.alloc (.cells #[.int .i64 0, .string { data := #[] }, .string { data := #[] }, .string { data := #[] }, .bool false, .int .i64 0, .int .i64 0, .int .i64 0, .slice none 0 0] 30)).alloc (.cells #[.int .i64 least, .int .i64 most, .string { data := #[97, 115, 115] }, .func (.func 274) #[] #[.pointer (some ⟨e0, 0, none⟩)]] 97)) := (Below.refl _ _).alloc (Nat.le_refl _) _
  have HX := Lib.hid (Lib.cell_of_heap (heap_alloc_new (w.alloc (.cells #[.int .i64 0, .string { data := #[] }, .string { data := #[] }, .string { data := #[] }, .bool false, .int .i64 0, .int .i64 0, .int .i64 0, .slice none 0 0] 30)) (.cells #[.int .i64 least, .int .i64 most, .string { data := #[97, 115, 115] }, .func (.func 274) #[] #[.pointer (some ⟨e0, 0, none⟩)]] 97)) 3)
  replace HR := Lib.hid (keep_block HR.out hb)
  replace HV := Lib.hid (HV.out.below hb)
  replace HE := Lib.hid (HE.out.below hb)
  replace HL := Lib.hid (HL.out.trans (hb.mono HL.out.size))
  replace HFN := Lib.hid (HFN.out.below hb)
  have hpos : (w.alloc (.cells #[.int .i64 0, .string { data := #[] }, .string { data := #[] }, .string { data := #[] }, .bool false, .int .i64 0, .int .i64 0, .int .i64 0, .slice none 0 0] 30)).heap.size = w.heap.size + 1 := by simp
  rw [hpos] at HX
  have TL := Lib.hid (lift_ass_tab vs ab ao C (w.heap.size + 1) rr ss L lo its hr1 hs1 hL9 hL hil hfit ((w.alloc (.cells #[.int .i64 0, .string { data := #[] }, .string { data := #[] }, .string { data := #[] }, .bool false, .int .i64 0, .int .i64 0, .int .i64 0, .slice none 0 0] 30)).alloc (.cells #[.int .i64 least, .int .i64 most, .string { data := #[97, 115, 115] }, .func (.func 274) #[] #[.pointer (some ⟨e0, 0, none⟩)]] 97)) h0 h9 hno1 hnoL HV.out HE.out
    (fun v hv W h => hC v hv W (HL.out.trans (h.mono HL.out.size)))
    (fun W g cap hbw hva => by
      exact run1_tab (w.heap.size + 1) e0 (.slice (some ⟨g, 0, none⟩) vs.length cap) rr ss L lo its hr1 hs1 hL9 hL hil W ⟨_, _, _, rfl⟩ (cell_below HX.out hbw) (HE.out.below hbw) (fun W' hb' =>
        hK W' e0 g cap (HL.out.trans ((hbw.trans (hb'.mono hbw.size)).mono HL.out.size)) (HE.out.below (hbw.trans (hb'.mono hbw.size))) (HFN.out.below (hbw.trans (hb'.mono hbw.size))) (hva.below hb'))))
  clear hb hv hE hT hC hK hrf hfn hpos hfr hr hi h0 h9 hc1 hc2
  go_enter Tryz.func41, Tryz.ntmps41
  go_wp2_with fail
  refine TL.out.mono ?_
  rintro e w2 ⟨lg, cap, rfl, hva, hlg, hb2⟩
  have HVA := Lib.hid hva
  have HLG := Lib.hid (show w.heap.size + 2 ≤ lg by simpa using hlg)
  clear hva hlg
  replace HR := Lib.hid (keep_block HR.out hb2)
  replace HL := Lib.hid (HL.out.trans (hb2.mono HL.out.size))
  clear hb2
  obtain ⟨⟨r0, r1, r2, r3, r4, r5, r6, r7, r8⟩, g0, g1, g2, g3, g4, g5, g6, g7, g8⟩ := nine_at HR.out
  obtain ⟨nb, z0, z1, z2, z3, z4, z5, z6, z7, z8⟩ := nine_end (x0 := (.int .i64 5)) (x1 := (.string { data := #[] })) (x2 := (.string { data := #[] })) (x3 := (.string { data := #[] })) (x4 := (.bool false)) (x5 := (.int .i64 0)) (x6 := (.int .i64 (rr : Int))) (x7 := (.int .i64 (ss : Int))) (x8 := (.slice (some ⟨lg, 0, none⟩) L cap)) HR.out HL.out (Nat.le_refl _)
  have HVB := Lib.hid (vals_other HVA.out (set9_other w2 w.heap.size (.int .i64 5) (.string { data := #[] }) (.string { data := #[] }) (.string { data := #[] }) (.bool false) (.int .i64 0) (.int .i64 (rr : Int)) (.int .i64 (ss : Int)) (.slice (some ⟨lg, 0, none⟩) L cap) (show lg ≠ w.heap.size by have := HLG.out; omega)))
  have NB := Lib.hid nb
  clear nb
  go_wp2
  refine bodyPost_ret (v := .tuple #[.agg #[.int .i64 5, .string { data := #[] }, .string { data := #[] }, .string { data := #[] }, .bool false, .int .i64 0, .int .i64 (rr : Int), .int .i64 (ss : Int), .slice (some ⟨lg, 0, none⟩) L cap], .int .i64 0]) (by simp [results, Tryz.results41, go_sem, z0, z1, z2, z3, z4, z5, z6, z7, z8]) rfl ⟨lg, cap, rfl, HVB.out, by have := HLG.out; omega, NB.out⟩

set_option maxHeartbeats 4000000 in
set_option maxRecDepth 100000 in
theorem call_tab (name : ByteArray) (sl : Value) (rr ss L : Nat) (its : List Rat) (w : World) (hs : ∃ a l c, sl = .slice a l c)
    (hRun : ∀ W b, Below w.heap.size w W → TableAt W b allRows → Calls Tryz.prog 41 #[.map (some b), .string name, sl] W fun e w' => ∃ lg cap, e = .returned (.tuple #[.agg #[.int .i64 5, .string { data := #[] }, .string { data := #[] }, .string { data := #[] }, .bool false, .int .i64 0, .int .i64 (rr : Int), .int .i64 (ss : Int), .slice (some ⟨lg, 0, none⟩) L cap], .int .i64 0]) ∧ ValsAt w' lg 0 (numVals its) ∧ W.heap.size ≤ lg ∧ Below W.heap.size W w') :
    Calls Tryz.prog 31 #[.string name, sl] w fun e w' => ∃ lg cap, e = .returned (.tuple #[.agg #[.int .i64 5, .string { data := #[] }, .string { data := #[] }, .string { data := #[] }, .bool false, .int .i64 0, .int .i64 (rr : Int), .int .i64 (ss : Int), .slice (some ⟨lg, 0, none⟩) L cap], .int .i64 0]) ∧ ValsAt w' lg 0 (numVals its) ∧ w.heap.size ≤ lg ∧ Below w.heap.size w w' := by
  obtain ⟨sa, slen, sc, rfl⟩ := hs
  have hb : Below w.heap.size w (w.alloc (.cells #[.int .i64 0, .string { data := #[] }, .string { data := #[] }, .string { data := #[] }, .bool false, .int .i64 0, .int .i64 0, .int .i64 0, .slice none 0 0] 30)) := (Below.refl _ _).alloc (Nat.le_refl _) _
  have HR := Lib.hid (heap_alloc_new w (.cells #[.int .i64 0, .string { data := #[] }, .string { data := #[] }, .string { data := #[] }, .bool false, .int .i64 0, .int .i64 0, .int .i64 0, .slice none 0 0] 30))
  have HL := Lib.hid hb
  have TR := Lib.hid hRun
  clear hRun hb
  go_enter Tryz.func31, Tryz.ntmps31
  go_wp2_with fail
  refine (table_any _).mono ?_
  rintro e W1 ⟨b, rfl, ht, hb⟩
  have HT := Lib.hid ht
  clear ht
  replace HR := Lib.hid (keep_block HR.out hb)
  replace HL := Lib.hid (HL.out.trans (hb.mono HL.out.size))
  clear hb
  go_wp2_with fail
  refine (TR.out _ _ HL.out HT.out).mono ?_
  rintro e W2 ⟨lg, cap, rfl, hva, hlg, hb⟩
  have HVA := Lib.hid hva
  have HLG := Lib.hid (show w.heap.size < lg by have := heap_lt HR.out; omega)
  clear hva hlg
  replace HR := Lib.hid (keep_block HR.out hb)
  replace HL := Lib.hid (HL.out.trans (hb.mono HL.out.size))
  clear hb
  obtain ⟨⟨r0, r1, r2, r3, r4, r5, r6, r7, r8⟩, g0, g1, g2, g3, g4, g5, g6, g7, g8⟩ := nine_at HR.out
  obtain ⟨nb, z0, z1, z2, z3, z4, z5, z6, z7, z8⟩ := nine_end (x0 := (.int .i64 5)) (x1 := (.string { data := #[] })) (x2 := (.string { data := #[] })) (x3 := (.string { data := #[] })) (x4 := (.bool false)) (x5 := (.int .i64 0)) (x6 := (.int .i64 (rr : Int))) (x7 := (.int .i64 (ss : Int))) (x8 := (.slice (some ⟨lg, 0, none⟩) L cap)) HR.out HL.out (Nat.le_refl _)
  have HVB := Lib.hid (vals_other HVA.out (set9_other W2 w.heap.size (.int .i64 5) (.string { data := #[] }) (.string { data := #[] }) (.string { data := #[] }) (.bool false) (.int .i64 0) (.int .i64 (rr : Int)) (.int .i64 (ss : Int)) (.slice (some ⟨lg, 0, none⟩) L cap) (show lg ≠ w.heap.size by have := HLG.out; omega)))
  have NB := Lib.hid nb
  clear nb
  go_wp2
  refine bodyPost_ret (v := .tuple #[.agg #[.int .i64 5, .string { data := #[] }, .string { data := #[] }, .string { data := #[] }, .bool false, .int .i64 0, .int .i64 (rr : Int), .int .i64 (ss : Int), .slice (some ⟨lg, 0, none⟩) L cap], .int .i64 0]) (by simp [results, Tryz.results31, go_sem, z0, z1, z2, z3, z4, z5, z6, z7, z8]) rfl ⟨lg, cap, rfl, HVB.out, by have := HLG.out; omega, NB.out⟩

set_option maxHeartbeats 4000000 in
set_option maxRecDepth 100000 in
theorem math_tab (name : ByteArray) (sl : Value) (rr ss L : Nat) (its : List Rat) (w : World) (hs : ∃ a l c, sl = .slice a l c)
    (hRun : ∀ W b, Below w.heap.size w W → TableAt W b allRows → Calls Tryz.prog 41 #[.map (some b), .string name, sl] W fun e w' => ∃ lg cap, e = .returned (.tuple #[.agg #[.int .i64 5, .string { data := #[] }, .string { data := #[] }, .string { data := #[] }, .bool false, .int .i64 0, .int .i64 (rr : Int), .int .i64 (ss : Int), .slice (some ⟨lg, 0, none⟩) L cap], .int .i64 0]) ∧ ValsAt w' lg 0 (numVals its) ∧ W.heap.size ≤ lg ∧ Below W.heap.size W w') :
    Calls Tryz.prog 15 #[.string name, sl] w fun e w' => ∃ lg cap, e = .returned (.agg #[.int .i64 5, .string { data := #[] }, .string { data := #[] }, .string { data := #[] }, .bool false, .int .i64 0, .int .i64 (rr : Int), .int .i64 (ss : Int), .slice (some ⟨lg, 0, none⟩) L cap]) ∧ ValsAt w' lg 0 (numVals its) ∧ w.heap.size ≤ lg ∧ Below w.heap.size w w' := by
  have hb : Below w.heap.size w (w.alloc (.cells #[.int .i64 0, .string { data := #[] }, .string { data := #[] }, .string { data := #[] }, .bool false, .int .i64 0, .int .i64 0, .int .i64 0, .slice none 0 0] 30)) := (Below.refl _ _).alloc (Nat.le_refl _) _
  have HR := Lib.hid (heap_alloc_new w (.cells #[.int .i64 0, .string { data := #[] }, .string { data := #[] }, .string { data := #[] }, .bool false, .int .i64 0, .int .i64 0, .int .i64 0, .slice none 0 0] 30))
  have HL := Lib.hid hb
  have TC := Lib.hid (call_tab name sl rr ss L its (w.alloc (.cells #[.int .i64 0, .string { data := #[] }, .string { data := #[] }, .string { data := #[] }, .bool false, .int .i64 0, .int .i64 0, .int .i64 0, .slice none 0 0] 30)) hs (fun W b h => hRun W b (hb.trans (h.mono hb.size))))
  obtain ⟨sa, slen, sc, rfl⟩ := hs
  clear hRun hb
  go_enter Tryz.func15, Tryz.ntmps15
  go_wp2_with fail
  refine TC.out.mono ?_
  rintro e W1 ⟨lg, cap, rfl, hva, hlg, hb⟩
  have HVA := Lib.hid hva
  have HLG := Lib.hid (show w.heap.size < lg by have := heap_lt HR.out; omega)
  clear hva hlg
  replace HR := Lib.hid (keep_block HR.out hb)
  replace HL := Lib.hid (HL.out.trans (hb.mono HL.out.size))
  clear hb
  have hlt := heap_lt HR.out
  obtain ⟨⟨r0, r1, r2, r3, r4, r5, r6, r7, r8⟩, g0, g1, g2, g3, g4, g5, g6, g7, g8⟩ := nine_at HR.out
  have HF1 := Lib.hid (set9_at HR.out (.int .i64 5) (.string { data := #[] }) (.string { data := #[] }) (.string { data := #[] }) (.bool false) (.int .i64 0) (.int .i64 (rr : Int)) (.int .i64 (ss : Int)) (.slice (some ⟨lg, 0, none⟩) L cap))
  have HF2 := Lib.hid ((Below.heap_alloc _ (.cells #[.int .i64 5, .string { data := #[] }, .string { data := #[] }, .string { data := #[] }, .bool false, .int .i64 0, .int .i64 (rr : Int), .int .i64 (ss : Int), .slice (some ⟨lg, 0, none⟩) L cap] 30) _ (heap_lt HF1.out)).trans HF1.out)
  have HB2 := Lib.hid (nine_end (x0 := (.int .i64 5)) (x1 := (.string { data := #[] })) (x2 := (.string { data := #[] })) (x3 := (.string { data := #[] })) (x4 := (.bool false)) (x5 := (.int .i64 0)) (x6 := (.int .i64 (rr : Int))) (x7 := (.int .i64 (ss : Int))) (x8 := (.slice (some ⟨lg, 0, none⟩) L cap)) HR.out HL.out (Nat.le_refl _)).1
  have HZ2 := Lib.hid (HB2.out.alloc HB2.out.size (.cells #[.int .i64 5, .string { data := #[] }, .string { data := #[] }, .string { data := #[] }, .bool false, .int .i64 0, .int .i64 (rr : Int), .int .i64 (ss : Int), .slice (some ⟨lg, 0, none⟩) L cap] 30))
  have HA := Lib.hid ((Below.heap_alloc W1 (.cells #[.int .i64 5, .string { data := #[] }, .string { data := #[] }, .string { data := #[] }, .bool false, .int .i64 0, .int .i64 (rr : Int), .int .i64 (ss : Int), .slice (some ⟨lg, 0, none⟩) L cap] 30) _ hlt).trans HR.out)
  have HVB := Lib.hid (vals_other (HVA.out.below ((Below.refl W1.heap.size W1).alloc (Nat.le_refl _) (.cells #[.int .i64 5, .string { data := #[] }, .string { data := #[] }, .string { data := #[] }, .bool false, .int .i64 0, .int .i64 (rr : Int), .int .i64 (ss : Int), .slice (some ⟨lg, 0, none⟩) L cap] 30))) (set9_other (W1.alloc (.cells #[.int .i64 5, .string { data := #[] }, .string { data := #[] }, .string { data := #[] }, .bool false, .int .i64 0, .int .i64 (rr : Int), .int .i64 (ss : Int), .slice (some ⟨lg, 0, none⟩) L cap] 30)) w.heap.size (.int .i64 5) (.string { data := #[] }) (.string { data := #[] }) (.string { data := #[] }) (.bool false) (.int .i64 0) (.int .i64 (rr : Int)) (.int .i64 (ss : Int)) (.slice (some ⟨lg, 0, none⟩) L cap) (show lg ≠ w.heap.size by have := HLG.out; omega)))
  have HVC := Lib.hid (vals_other (HVA.out) (set9_other W1 w.heap.size (.int .i64 5) (.string { data := #[] }) (.string { data := #[] }) (.string { data := #[] }) (.bool false) (.int .i64 0) (.int .i64 (rr : Int)) (.int .i64 (ss : Int)) (.slice (some ⟨lg, 0, none⟩) L cap) (show lg ≠ w.heap.size by have := HLG.out; omega)))
  obtain ⟨⟨a0, a1, a2, a3, a4, a5, a6, a7, a8⟩, b0, b1, b2, b3, b4, b5, b6, b7, b8⟩ := nine_at HA.out
  obtain ⟨⟨z0, z1, z2, z3, z4, z5, z6, z7, z8⟩, _⟩ := nine_at HF2.out
  go_wp2
  refine bodyPost_ret (v := .agg #[.int .i64 5, .string { data := #[] }, .string { data := #[] }, .string { data := #[] }, .bool false, .int .i64 0, .int .i64 (rr : Int), .int .i64 (ss : Int), .slice (some ⟨lg, 0, none⟩) L cap]) (by simp [results, Tryz.results15, go_sem, z0, z1, z2, z3, z4, z5, z6, z7, z8]) rfl ⟨lg, cap, rfl, HVC.out.below ((Below.refl _ _).alloc (Nat.le_refl _) _), by have := HLG.out; omega, HZ2.out⟩
end Go.Proofs.YtkbhlkinlcmgoaaGreatDoor.Num.Fl

/- package flook: the law's look at INDEX: an array of numbers, no row, a column. Conditions: sizes from 1 on; each number fits; the numbers lie in memory; the tables lie as they are laid. -/
namespace Go.Proofs.YtkbhlkinlcmgoaaGreatDoor.Num.Fl
open Go.RowKit Go.Lib Go.MapKept Num

theorem fr_of (i : Nat) (hi : i < allRows.length) (h : freshB allRows[i].name (allRows.take i) = true) : ∀ j (hj : j < i), (allRows[i].name == (allRows[j]'(by omega)).name) = false := by
  intro j hj
  have := fresh_of h (allRows[j]'(by omega)) (by
    rw [List.mem_take_iff_getElem]
    exact ⟨j, by omega, rfl⟩)
  exact this
set_option maxHeartbeats 4000000 in
set_option maxRecDepth 100000 in
theorem entry_tab (r : Row) (g cap0 e : Nat) (vs : List Val) (rr ss L lo : Nat) (its : List Rat) (w : World) (hfn : FnAt w e r) (eF : ∀ args w, (callFunc r.fn args).run Tryz.prog w = .ok (.enter r.fn args) w) (hE : Env w) (hv : ValsAt w g 0 vs)
    (hF : ∀ W b, Below w.heap.size w W → Env W → Past b → b < W.heap.size → w.heap.size ≤ b → ArgsAt W b (some ⟨g, 0, none⟩) vs.length cap0 0 → ValsAt W g 0 vs → g ≠ b → Calls Tryz.prog r.fn #[.pointer (some ⟨b, 0, none⟩)] W fun e w' => ∃ lg cap, e = .returned (.agg #[.int .i64 5, .string { data := #[] }, .string { data := #[] }, .string { data := #[] }, .bool false, .int .i64 0, .int .i64 (rr : Int), .int .i64 (ss : Int), .slice (some ⟨lg, lo, none⟩) L cap]) ∧ ValsAt w' lg lo (numVals its) ∧ W.heap.size ≤ lg ∧ W.grownBy w' (some b)) (hv0 : 0 < vs.length) :
    Calls Tryz.prog 274 #[.slice (some ⟨g, 0, none⟩) vs.length cap0, .pointer (some ⟨e, 0, none⟩)] w fun e w' => ∃ lg cap, e = .returned (.agg #[.int .i64 5, .string { data := #[] }, .string { data := #[] }, .string { data := #[] }, .bool false, .int .i64 0, .int .i64 (rr : Int), .int .i64 (ss : Int), .slice (some ⟨lg, lo, none⟩) L cap]) ∧ ValsAt w' lg lo (numVals its) ∧ w.heap.size ≤ lg ∧ Below w.heap.size w w' := by
  unfold FnAt at hfn
  obtain ⟨hR, hB, hb⟩ := two_new w (.cells #[.int .i64 0, .string { data := #[] }, .string { data := #[] }, .string { data := #[] }, .bool false, .int .i64 0, .int .i64 0, .int .i64 0, .slice none 0 0] 30) (.cells #[.slice (some ⟨g, 0, none⟩) vs.length cap0, .int .i64 0] 118)
  have HR := Lib.hid hR
  have HL := Lib.hid hb
  have HX := Lib.hid (cell_below hfn ((Below.refl w.heap.size w).alloc (Nat.le_refl _) (.cells #[.int .i64 0, .string { data := #[] }, .string { data := #[] }, .string { data := #[] }, .bool false, .int .i64 0, .int .i64 0, .int .i64 0, .slice none 0 0] 30)))
  have hgl : g < w.heap.size := cell_lt (hv.at 0 hv0).1
  have TF := Lib.hid (hF _ (w.heap.size + 1) hb (hE.below hb) (hE.past (Nat.le_succ _)) (by simp) (Nat.le_succ _) hB (hv.below hb) (by omega))
  clear hR hB hb hF hE hv hgl hfn
  obtain x0 := HX.out
  go_enter Tryz.func274, Tryz.ntmps274
  go_wp2_with fail
  refine TF.out.mono ?_
  rintro e W1 ⟨lg, cap, rfl, hva, hlg, hg⟩
  have HVA := Lib.hid hva
  have HLG := Lib.hid (show w.heap.size < lg by simp at hlg; omega)
  clear hva hlg
  replace HR := Lib.hid (kept_block HR.out hg (by omega))
  have HG := Lib.hid (below_map HL.out (Nat.le_succ _) hg)
  clear hg x0 HX
  obtain ⟨⟨r0, r1, r2, r3, r4, r5, r6, r7, r8⟩, g0, g1, g2, g3, g4, g5, g6, g7, g8⟩ := nine_at HR.out
  obtain ⟨nb, z0, z1, z2, z3, z4, z5, z6, z7, z8⟩ := nine_end (x0 := (.int .i64 5)) (x1 := (.string { data := #[] })) (x2 := (.string { data := #[] })) (x3 := (.string { data := #[] })) (x4 := (.bool false)) (x5 := (.int .i64 0)) (x6 := (.int .i64 (rr : Int))) (x7 := (.int .i64 (ss : Int))) (x8 := (.slice (some ⟨lg, lo, none⟩) L cap)) HR.out HG.out (Nat.le_refl _)
  have HVB := Lib.hid (Off.vals_other HVA.out (set9_other W1 w.heap.size (.int .i64 5) (.string { data := #[] }) (.string { data := #[] }) (.string { data := #[] }) (.bool false) (.int .i64 0) (.int .i64 (rr : Int)) (.int .i64 (ss : Int)) (.slice (some ⟨lg, lo, none⟩) L cap) (show lg ≠ w.heap.size by have := HLG.out; omega)))
  have NB := Lib.hid nb
  clear nb
  go_wp2
  refine bodyPost_ret (v := .agg #[.int .i64 5, .string { data := #[] }, .string { data := #[] }, .string { data := #[] }, .bool false, .int .i64 0, .int .i64 (rr : Int), .int .i64 (ss : Int), .slice (some ⟨lg, lo, none⟩) L cap]) (by simp [results, Tryz.results274, go_sem, z0, z1, z2, z3, z4, z5, z6, z7, z8]) rfl ⟨lg, cap, rfl, HVB.out, by have := HLG.out; omega, NB.out⟩
set_option maxHeartbeats 4000000 in
set_option maxRecDepth 100000 in
theorem entry_one (r : Row) (g cap0 e : Nat) (vs : List Val) (x : Rat) (w : World) (hfn : FnAt w e r) (eF : ∀ args w, (callFunc r.fn args).run Tryz.prog w = .ok (.enter r.fn args) w) (hE : Env w) (hv : ValsAt w g 0 vs)
    (hF : ∀ W b, Below w.heap.size w W → Env W → Past b → b < W.heap.size → w.heap.size ≤ b → ArgsAt W b (some ⟨g, 0, none⟩) vs.length cap0 0 → ValsAt W g 0 vs → g ≠ b → Calls Tryz.prog r.fn #[.pointer (some ⟨b, 0, none⟩)] W fun e w' => e = .returned (.agg #[.int .i64 1, .string (numS x), .string (denS x), .string { data := #[] }, .bool false, .int .i64 0, .int .i64 0, .int .i64 0, .slice none 0 0]) ∧ W.grownBy w' (some b)) (hv0 : 0 < vs.length) :
    Calls Tryz.prog 274 #[.slice (some ⟨g, 0, none⟩) vs.length cap0, .pointer (some ⟨e, 0, none⟩)] w fun e w' => e = .returned (.agg #[.int .i64 1, .string (numS x), .string (denS x), .string { data := #[] }, .bool false, .int .i64 0, .int .i64 0, .int .i64 0, .slice none 0 0]) ∧ Below w.heap.size w w' := by
  unfold FnAt at hfn
  obtain ⟨hR, hB, hb⟩ := two_new w (.cells #[.int .i64 0, .string { data := #[] }, .string { data := #[] }, .string { data := #[] }, .bool false, .int .i64 0, .int .i64 0, .int .i64 0, .slice none 0 0] 30) (.cells #[.slice (some ⟨g, 0, none⟩) vs.length cap0, .int .i64 0] 118)
  have HR := Lib.hid hR
  have HL := Lib.hid hb
  have HX := Lib.hid (cell_below hfn ((Below.refl w.heap.size w).alloc (Nat.le_refl _) (.cells #[.int .i64 0, .string { data := #[] }, .string { data := #[] }, .string { data := #[] }, .bool false, .int .i64 0, .int .i64 0, .int .i64 0, .slice none 0 0] 30)))
  have hgl : g < w.heap.size := cell_lt (hv.at 0 hv0).1
  have TF := Lib.hid (hF _ (w.heap.size + 1) hb (hE.below hb) (hE.past (Nat.le_succ _)) (by simp) (Nat.le_succ _) hB (hv.below hb) (by omega))
  clear hR hB hb hF hE hv hgl hfn
  obtain x0 := HX.out
  go_enter Tryz.func274, Tryz.ntmps274
  go_wp2_with fail
  refine TF.out.mono ?_
  rintro e W1 ⟨rfl, hg⟩
  replace HR := Lib.hid (kept_block HR.out hg (by omega))
  have HG := Lib.hid (below_map HL.out (Nat.le_succ _) hg)
  clear hg x0 HX
  obtain ⟨⟨r0, r1, r2, r3, r4, r5, r6, r7, r8⟩, g0, g1, g2, g3, g4, g5, g6, g7, g8⟩ := nine_at HR.out
  obtain ⟨nb, z0, z1, z2, z3, z4, z5, z6, z7, z8⟩ := nine_end (x0 := (.int .i64 1)) (x1 := (.string (numS x))) (x2 := (.string (denS x))) (x3 := (.string { data := #[] })) (x4 := (.bool false)) (x5 := (.int .i64 0)) (x6 := (.int .i64 0)) (x7 := (.int .i64 0)) (x8 := (.slice none 0 0)) HR.out HG.out (Nat.le_refl _)
  have NB := Lib.hid nb
  clear nb
  go_wp2
  refine bodyPost_ret (v := .agg #[.int .i64 1, .string (numS x), .string (denS x), .string { data := #[] }, .bool false, .int .i64 0, .int .i64 0, .int .i64 0, .slice none 0 0]) (by simp [results, Tryz.results274, go_sem, z0, z1, z2, z3, z4, z5, z6, z7, z8]) rfl ⟨rfl, NB.out⟩
theorem colL_fits {qs : List Rat} {r s c : Nat} (hc : c < s) (hq : qs.length = r * s) (hfit : ∀ q ∈ qs, fits q = true) : ∀ q ∈ colL qs r s c, fits q = true := by
  intro q h
  unfold colL at h
  obtain ⟨i, hi, rfl⟩ := List.mem_map.1 h
  rw [List.mem_range] at hi
  have hl : i * s + c < qs.length := by
    have : (i + 1) * s ≤ r * s := Nat.mul_le_mul hi (Nat.le_refl _)
    rw [Nat.add_mul, Nat.one_mul] at this
    omega
  rw [List.getD, List.getElem?_eq_getElem hl]
  exact hfit _ (List.getElem_mem hl)
set_option maxHeartbeats 1000000 in
theorem look_INDEX (r s c gi Ci ab ao C : Nat) (qs : List Rat) (w : World) (hr : 2 ≤ r) (h2 : 1 ≤ s) (hs9 : s ≤ 100) (hc : c < s) (hq : qs.length = r * s) (h9 : r * s ≤ 1000) (hfit : ∀ q ∈ qs, fits q = true) (hv : ValsAt w ab ao [arrVal' (r : Int) (s : Int) gi (r * s) Ci, numVal' ((0 : Int) : Rat), numVal' (((c : Int) + 1 : Int) : Rat)]) (hav : ValsAt w gi 0 (numVals qs)) (hE : Env w) :
    Calls Tryz.prog 15 #[.string { data := #[73, 78, 68, 69, 88] }, .slice (some ⟨ab, ao, none⟩) 3 C] w fun e w' => ∃ lg cap, e = .returned (.agg #[.int .i64 5, .string { data := #[] }, .string { data := #[] }, .string { data := #[] }, .bool false, .int .i64 0, .int .i64 (r : Int), .int .i64 ((1 : Nat) : Int), .slice (some ⟨lg, 0, none⟩) r cap]) ∧ ValsAt w' lg 0 (numVals (colL qs r s c)) ∧ w.heap.size ≤ lg ∧ Below w.heap.size w w' := by
  have hr9 : r ≤ 1000 := by
    have : r ≤ r * s := Nat.le_mul_of_pos_right r h2
    omega
  have hgl : gi < w.heap.size := cell_lt (hav.at 0 (by rw [numVals_len, hq]; exact Nat.mul_pos (by omega) h2)).1
  exact math_tab { data := #[73, 78, 68, 69, 88] } (.slice (some ⟨ab, ao, none⟩) 3 C) r 1 r _ w ⟨_, _, _, rfl⟩ (fun W b hb hT =>
    run_ass_tab 6 ⟨{ data := #[73, 78, 68, 69, 88] }, 2, 3, { data := #[97, 115, 115] }, true, 148⟩
    (by decide) rfl rfl rfl (fr_of 6 (by decide) (by kernel_rfl)) [arrVal' (r : Int) (s : Int) gi (r * s) Ci, numVal' ((0 : Int) : Rat), numVal' (((c : Int) + 1 : Int) : Rat)] b ab ao C r 1 r (c * r * 9) (colL qs r s c) (by omega) (by decide) hr9 (Nat.mul_one r) (colL_len qs r s c) (colL_fits hc hq hfit) W (show 0 < 3 by decide) (show 3 ≤ 300 by decide) (show (2 : Int) ≤ 3 by decide) (show (3 : Int) ≤ 3 by decide)
      (fun _ => rfl)
      (fun i hi h2 => by
        have hi3 : i < 3 := hi
        obtain rfl : i = 2 := by omega
        rfl)
      (hv.below hb) (hE.below hb) hT 
      (fun u hu W' h2' => by
        simp only [List.mem_cons, List.not_mem_nil, or_false] at hu
        have hE2 := (hE.below hb).below h2'
        rcases hu with rfl | rfl | rfl
        · have h := check_arr qs (r : Int) (s : Int) gi Ci W' (by omega) (by omega) (by omega) (by omega) (by rw [hq, Int.natCast_mul]) hfit (by omega) ((hav.below hb).below h2') hE2
          rw [hq] at h
          exact h
        · exact check_num _ W' (fits_int _ (by decide)) hE2
        · exact check_num _ W' (fits_int _ (by omega)) hE2)
      (fun W' e g cap hb' hE' hfn hva => entry_tab ⟨{ data := #[73, 78, 68, 69, 88] }, 2, 3, { data := #[97, 115, 115] }, true, 148⟩ g cap e [arrVal' (r : Int) (s : Int) gi (r * s) Ci, numVal' ((0 : Int) : Rat), numVal' (((c : Int) + 1 : Int) : Rat)] r 1 r (c * r * 9) (colL qs r s c) W' hfn (enters_of Tryz.func148 (by kernel_rfl) rfl) hE' hva (fun W'' b' hb'' hE'' hP hlt hge ha hva' hne =>
        index_arr r s c b' g cap gi (r * s) Ci qs W'' hr h2 hs9 hc rfl hq h9 ha hva' (((hav.below hb).below hb').below hb'') hne (by
          have h1 := hb'.size
          have h2 := hb.size
          omega) hE'' hP) (show 0 < 3 by decide)))
set_option maxHeartbeats 1000000 in
theorem look_INDEX1 (r s c gi Ci ab ao C : Nat) (qs : List Rat) (w : World) (hr : r = 1) (x : Rat) (hx : colL qs r s c = [x]) (h2 : 1 ≤ s) (hs9 : s ≤ 100) (hc : c < s) (hq : qs.length = r * s) (h9 : r * s ≤ 1000) (hfit : ∀ q ∈ qs, fits q = true) (hv : ValsAt w ab ao [arrVal' (r : Int) (s : Int) gi (r * s) Ci, numVal' ((0 : Int) : Rat), numVal' (((c : Int) + 1 : Int) : Rat)]) (hav : ValsAt w gi 0 (numVals qs)) (hE : Env w) :
    Calls Tryz.prog 15 #[.string { data := #[73, 78, 68, 69, 88] }, .slice (some ⟨ab, ao, none⟩) 3 C] w fun e w' => e = .returned (numVal' x).agg ∧ Below w.heap.size w w' := by
  have hr9 : r ≤ 1000 := by
    have : r ≤ r * s := Nat.le_mul_of_pos_right r h2
    omega
  have hgl : gi < w.heap.size := cell_lt (hav.at 0 (by rw [numVals_len, hq]; exact Nat.mul_pos (by omega) h2)).1
  have hxf : fits x = true := colL_fits hc hq hfit x (by rw [hx]; simp)
  exact math_of { data := #[73, 78, 68, 69, 88] } (.slice (some ⟨ab, ao, none⟩) 3 C) (numVal' x) w ⟨_, _, _, rfl⟩ (fun W b hb hT =>
    run_ass_val 6 ⟨{ data := #[73, 78, 68, 69, 88] }, 2, 3, { data := #[97, 115, 115] }, true, 148⟩
    (by decide) rfl rfl rfl (fr_of 6 (by decide) (by kernel_rfl)) [arrVal' (r : Int) (s : Int) gi (r * s) Ci, numVal' ((0 : Int) : Rat), numVal' (((c : Int) + 1 : Int) : Rat)] b ab ao C (numVal' x) W (show 0 < 3 by decide) (show 3 ≤ 300 by decide) (show (2 : Int) ≤ 3 by decide) (show (3 : Int) ≤ 3 by decide)
      (fun _ => rfl)
      (fun i hi h2 => by
        have hi3 : i < 3 := hi
        obtain rfl : i = 2 := by omega
        rfl)
      (hv.below hb) (hE.below hb) hT ⟨rfl, rfl, rfl, rfl, rfl⟩ (fun W g => check_num x W hxf g)
      (fun u hu W' h2' => by
        simp only [List.mem_cons, List.not_mem_nil, or_false] at hu
        have hE2 := (hE.below hb).below h2'
        rcases hu with rfl | rfl | rfl
        · have h := check_arr qs (r : Int) (s : Int) gi Ci W' (by omega) (by omega) (by omega) (by omega) (by rw [hq, Int.natCast_mul]) hfit (by omega) ((hav.below hb).below h2') hE2
          rw [hq] at h
          exact h
        · exact check_num _ W' (fits_int _ (by decide)) hE2
        · exact check_num _ W' (fits_int _ (by omega)) hE2)
      (fun W' e g cap hb' hE' hfn hva => entry_one ⟨{ data := #[73, 78, 68, 69, 88] }, 2, 3, { data := #[97, 115, 115] }, true, 148⟩ g cap e [arrVal' (r : Int) (s : Int) gi (r * s) Ci, numVal' ((0 : Int) : Rat), numVal' (((c : Int) + 1 : Int) : Rat)] x W' hfn (enters_of Tryz.func148 (by kernel_rfl) rfl) hE' hva (fun W'' b' hb'' hE'' hP hlt hge ha hva' hne =>
        index_one r s c b' g cap gi (r * s) Ci qs W'' hr x hx h2 hs9 hc rfl hq h9 ha hva' (((hav.below hb).below hb').below hb'') hne (by
          have h1 := hb'.size
          have h2 := hb.size
          omega) hE'' hP) (show 0 < 3 by decide)))
end Go.Proofs.YtkbhlkinlcmgoaaGreatDoor.Num.Fl
