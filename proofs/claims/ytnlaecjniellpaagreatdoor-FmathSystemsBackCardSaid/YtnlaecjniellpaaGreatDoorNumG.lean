/- Numbers as texts of digits, fractions, values and the functions of fmath: contracts of the program's functions, joined from smaller texts. Conditions stand at each theorem. -/
import Derived.Test.YtnlaecjniellpaaGreatDoorNumF
import Derived.Deep.RegionWith

/- package value: Run at a row of fmath's table. Conditions: the tables lie as they are laid. -/
namespace Go.Proofs.YtnlaecjniellpaaGreatDoor.Num
open Go.RowKit Go.Lib

/-- cell e holds the row's function, wrapped or bare -/
def FnAt (W : World) (e : Nat) (r : Row) : Prop :=
  if r.num then ∃ f, W.cell? ⟨e, 0, none⟩ = some (.func (.func 137) #[] #[.pointer (some ⟨f, 0, none⟩)]) ∧ W.cell? ⟨f, 0, none⟩ = some (.func (.func r.fn) #[] #[])
  else W.cell? ⟨e, 0, none⟩ = some (.func (.func r.fn) #[] #[])
theorem rowFn_at {w : World} {v : Value} {r : Row} (h : RowFn w v r) : ∃ e, v = .func (.func 150) #[] #[.pointer (some ⟨e, 0, none⟩)] ∧ FnAt w e r := by
  unfold RowFn at h
  unfold FnAt
  split at h
  · rename_i hn
    obtain ⟨e, f, h1, h2, h3⟩ := h
    exact ⟨e, h1, by rw [if_pos hn]; exact ⟨f, h2, h3⟩⟩
  · rename_i hn
    obtain ⟨e, h1, h2⟩ := h
    exact ⟨e, h1, by rw [if_neg hn]; exact h2⟩
theorem FnAt.below {w w' : World} {e : Nat} {r : Row} (h : FnAt w e r) (hb : Below w.heap.size w w') : FnAt w' e r := by
  unfold FnAt at h ⊢
  split at h
  · rename_i hn
    obtain ⟨f, h1, h2⟩ := h
    rw [if_pos hn]
    exact ⟨f, cell_below h1 hb, cell_below h2 hb⟩
  · rename_i hn
    rw [if_neg hn]
    exact cell_below h hb
attribute [local go_sem] run_store_func

set_option maxHeartbeats 8000000 in
set_option maxRecDepth 100000 in
theorem run_a_val (i : Nat) (r : Row) (hi : i < allRows.length) (hr : allRows[i] = r) (hkd : r.kinds = { data := #[97] }) (hfr : ∀ j (hj : j < i), (allRows[i].name == (allRows[j]'(by omega)).name) = false) (vs : List Val) (b ab ao C : Nat) (q : Val) (w : World) (h0 : 0 < vs.length) (h9 : vs.length ≤ 300) (hc1 : r.least ≤ vs.length) (hc2 : (vs.length : Int) ≤ r.most) (hv : ValsAt w ab ao vs) (hE : Env w) (hT : TableAt w b allRows) (hq : q.A = none ∧ q.L = 0 ∧ q.C = 0 ∧ q.r = 0 ∧ q.s = 0)
    (hO : ∀ W, Env W → Calls Tryz.prog 97 #[q.agg] W fun e w' => e = .returned (.int .i64 0) ∧ Below W.heap.size W w') 
    (hC : ∀ v ∈ vs, ∀ W, Below w.heap.size w W → Calls Tryz.prog 97 #[v.agg] W fun e w' => e = .returned (.int .i64 0) ∧ Below W.heap.size W w')
    (hK : ∀ W e g cap, Below w.heap.size w W → Env W → FnAt W e r → ValsAt W g 0 vs → Calls Tryz.prog 150 #[.slice (some ⟨g, 0, none⟩) vs.length cap, .pointer (some ⟨e, 0, none⟩)] W fun e w' => e = .returned q.agg ∧ Below W.heap.size W w') :
    Calls Tryz.prog 11 #[.map (some b), .string r.name, .slice (some ⟨ab, ao, none⟩) vs.length C] w fun e w' => e = .returned (.tuple #[(q).agg, .int .i64 0]) ∧ Below w.heap.size w w' := by
  have hb : Below w.heap.size w (w.alloc (.cells #[.int .i64 0, .string { data := #[] }, .string { data := #[] }, .string { data := #[] }, .bool false, .int .i64 0, .int .i64 0, .int .i64 0, .slice none 0 0] 27)) := (Below.refl _ _).alloc (Nat.le_refl _) _
  have HR := Lib.hid (heap_alloc_new w (.cells #[.int .i64 0, .string { data := #[] }, .string { data := #[] }, .string { data := #[] }, .bool false, .int .i64 0, .int .i64 0, .int .i64 0, .slice none 0 0] 27))
  obtain ⟨v, hrf, hrun⟩ := (hT.below hb).look i hi hfr Tryz.underlying36 Tryz.underlying9
  rw [hr] at hrf hrun
  obtain ⟨e0, rfl, hfn⟩ := rowFn_at hrf
  obtain ⟨name, least, most, kinds, num, F⟩ := r
  simp only at hkd hc1 hc2
  subst hkd
  simp only at hrun ⊢
  have HV := Lib.hid (hv.below hb)
  have HE := Lib.hid (hE.below hb)
  have HL := Lib.hid hb
  have HFN := Lib.hid hfn
  have d1 : decide ((vs.length : Int) < least) = false := decide_eq_false (by omega)
  have d2 : decide (most < (vs.length : Int)) = false := decide_eq_false (by omega)
  have hmf : ∀ (fn : Fn) (first cap : Array Value) (w : World), (Instr.makeFunc fn first cap).run Tryz.prog w = .ok (.func fn first cap) w := fun _ _ _ _ => rfl
  have hb : Below (w.alloc (.cells #[.int .i64 0, .string { data := #[] }, .string { data := #[] }, .string { data := #[] }, .bool false, .int .i64 0, .int .i64 0, .int .i64 0, .slice none 0 0] 27)).heap.size (w.alloc (.cells #[.int .i64 0, .string { data := #[] }, .string { data := #[] }, .string { data := #[] }, .bool false, .int .i64 0, .int .i64 0, .int .i64 0, .slice none 0 0] 27)) ((w.alloc (.cells #[.int .i64 0, .string { data := #[] }, .string { data := #[] }, .string { data := #[] }, .bool false, .int .i64 0, .int .i64 0, .int .i64 0, .slice none 0 0] 27)).alloc (.cells #[.int .i64 least, .int .i64 most, .string { data := #[97] }, .func (.func 150) #[] #[.pointer (some ⟨e0, 0, none⟩)]] 44)) := (Below.refl _ _).alloc (Nat.le_refl _) _
  have HX := Lib.hid (Lib.cell_of_heap (heap_alloc_new (w.alloc (.cells #[.int .i64 0, .string { data := #[] }, .string { data := #[] }, .string { data := #[] }, .bool false, .int .i64 0, .int .i64 0, .int .i64 0, .slice none 0 0] 27)) (.cells #[.int .i64 least, .int .i64 most, .string { data := #[97] }, .func (.func 150) #[] #[.pointer (some ⟨e0, 0, none⟩)]] 44)) 3)
  replace HR := Lib.hid (keep_block HR.out hb)
  replace HV := Lib.hid (HV.out.below hb)
  replace HE := Lib.hid (HE.out.below hb)
  replace HL := Lib.hid (HL.out.trans (hb.mono HL.out.size))
  replace HFN := Lib.hid (HFN.out.below hb)
  have hpos : (w.alloc (.cells #[.int .i64 0, .string { data := #[] }, .string { data := #[] }, .string { data := #[] }, .bool false, .int .i64 0, .int .i64 0, .int .i64 0, .slice none 0 0] 27)).heap.size = w.heap.size + 1 := by simp
  rw [hpos] at HX
  have TL := Lib.hid (lift_a vs ab ao C (w.heap.size + 1) (q) ((w.alloc (.cells #[.int .i64 0, .string { data := #[] }, .string { data := #[] }, .string { data := #[] }, .bool false, .int .i64 0, .int .i64 0, .int .i64 0, .slice none 0 0] 27)).alloc (.cells #[.int .i64 least, .int .i64 most, .string { data := #[97] }, .func (.func 150) #[] #[.pointer (some ⟨e0, 0, none⟩)]] 44)) h0 h9 HV.out HE.out ⟨hq.1, hq.2.1, hq.2.2.1⟩
    (fun v hv W h => hC v hv W (HL.out.trans (h.mono HL.out.size))) (hO)
    (fun W g cap hbw hva => by
      have h := run1_value (w.heap.size + 1) 0 e0 (.slice (some ⟨g, 0, none⟩) vs.length cap) q.k q.n q.d q.t q.on q.c q.A q.L q.C W ⟨_, _, _, rfl⟩ (cell_below HX.out hbw) (HE.out.below hbw) (fun W' hb' => by
        have h2 := hK W' e0 g cap (HL.out.trans ((hbw.trans (hb'.mono hbw.size)).mono HL.out.size)) (HE.out.below (hbw.trans (hb'.mono hbw.size))) (HFN.out.below (hbw.trans (hb'.mono hbw.size))) (hva.below hb')
        unfold Val.agg at h2
        rw [hq.2.2.2.1, hq.2.2.2.2] at h2
        exact h2)
      unfold Val.agg
      rw [hq.2.2.2.1, hq.2.2.2.2]
      exact h))
  obtain ⟨qq, hqq⟩ : ∃ z, (q) = z := ⟨_, rfl⟩
  rw [hqq] at TL ⊢
  clear hqq hb hv hE hT hC hK hrf hfn hpos hfr hr hi h0 h9 hc1 hc2
  go_enter Tryz.func11, Tryz.ntmps11
  unfold Val.agg at TL ⊢
  go_wp2_with fail
  refine TL.out.mono ?_
  rintro e w2 ⟨rfl, hb2⟩
  replace HR := Lib.hid (keep_block HR.out hb2)
  replace HL := Lib.hid (HL.out.trans (hb2.mono HL.out.size))
  clear hb2
  obtain ⟨⟨r0, r1, r2, r3, r4, r5, r6, r7, r8⟩, g0, g1, g2, g3, g4, g5, g6, g7, g8⟩ := nine_at HR.out
  obtain ⟨nb, z0, z1, z2, z3, z4, z5, z6, z7, z8⟩ := nine_end (x0 := (.int .i64 qq.k)) (x1 := (.string qq.n)) (x2 := (.string qq.d)) (x3 := (.string qq.t)) (x4 := (.bool qq.on)) (x5 := (.int .i64 qq.c)) (x6 := (.int .i64 qq.r)) (x7 := (.int .i64 qq.s)) (x8 := (.slice qq.A qq.L qq.C)) HR.out HL.out (Nat.le_refl _)
  go_wp2
  refine bodyPost_ret (v := .tuple #[.agg #[.int .i64 qq.k, .string qq.n, .string qq.d, .string qq.t, .bool qq.on, .int .i64 qq.c, .int .i64 qq.r, .int .i64 qq.s, .slice qq.A qq.L qq.C], .int .i64 0]) (by simp [results, Tryz.results11, go_sem, z0, z1, z2, z3, z4, z5, z6, z7, z8]) rfl ⟨rfl, nb⟩

set_option maxHeartbeats 8000000 in
set_option maxRecDepth 100000 in
theorem run_a_stop (i : Nat) (r : Row) (hi : i < allRows.length) (hr : allRows[i] = r) (hkd : r.kinds = { data := #[97] }) (hfr : ∀ j (hj : j < i), (allRows[i].name == (allRows[j]'(by omega)).name) = false) (vs : List Val) (b ab ao C : Nat) (c : Int) (w : World) (h0 : 0 < vs.length) (h9 : vs.length ≤ 300) (hc1 : r.least ≤ vs.length) (hc2 : (vs.length : Int) ≤ r.most) (hv : ValsAt w ab ao vs) (hE : Env w) (hT : TableAt w b allRows) (h1 : 1 ≤ c) (h2 : c ≤ 8) 
    (hC : ∀ v ∈ vs, ∀ W, Below w.heap.size w W → Calls Tryz.prog 97 #[v.agg] W fun e w' => e = .returned (.int .i64 0) ∧ Below W.heap.size W w')
    (hK : ∀ W e g cap, Below w.heap.size w W → Env W → FnAt W e r → ValsAt W g 0 vs → Calls Tryz.prog 150 #[.slice (some ⟨g, 0, none⟩) vs.length cap, .pointer (some ⟨e, 0, none⟩)] W fun e w' => e = stopped c ∧ Below W.heap.size W w') :
    Calls Tryz.prog 11 #[.map (some b), .string r.name, .slice (some ⟨ab, ao, none⟩) vs.length C] w fun e w' => e = .returned (.tuple #[(faultVal' c).agg, .int .i64 0]) ∧ Below w.heap.size w w' := by
  have hb : Below w.heap.size w (w.alloc (.cells #[.int .i64 0, .string { data := #[] }, .string { data := #[] }, .string { data := #[] }, .bool false, .int .i64 0, .int .i64 0, .int .i64 0, .slice none 0 0] 27)) := (Below.refl _ _).alloc (Nat.le_refl _) _
  have HR := Lib.hid (heap_alloc_new w (.cells #[.int .i64 0, .string { data := #[] }, .string { data := #[] }, .string { data := #[] }, .bool false, .int .i64 0, .int .i64 0, .int .i64 0, .slice none 0 0] 27))
  obtain ⟨v, hrf, hrun⟩ := (hT.below hb).look i hi hfr Tryz.underlying36 Tryz.underlying9
  rw [hr] at hrf hrun
  obtain ⟨e0, rfl, hfn⟩ := rowFn_at hrf
  obtain ⟨name, least, most, kinds, num, F⟩ := r
  simp only at hkd hc1 hc2
  subst hkd
  simp only at hrun ⊢
  have HV := Lib.hid (hv.below hb)
  have HE := Lib.hid (hE.below hb)
  have HL := Lib.hid hb
  have HFN := Lib.hid hfn
  have d1 : decide ((vs.length : Int) < least) = false := decide_eq_false (by omega)
  have d2 : decide (most < (vs.length : Int)) = false := decide_eq_false (by omega)
  have hmf : ∀ (fn : Fn) (first cap : Array Value) (w : World), (Instr.makeFunc fn first cap).run Tryz.prog w = .ok (.func fn first cap) w := fun _ _ _ _ => rfl
  have hb : Below (w.alloc (.cells #[.int .i64 0, .string { data := #[] }, .string { data := #[] }, .string { data := #[] }, .bool false, .int .i64 0, .int .i64 0, .int .i64 0, .slice none 0 0] 27)).heap.size (w.alloc (.cells #[.int .i64 0, .string { data := #[] }, .string { data := #[] }, .string { data := #[] }, .bool false, .int .i64 0, .int .i64 0, .int .i64 0, .slice none 0 0] 27)) ((w.alloc (.cells #[.int .i64 0, .string { data := #[] }, .string { data := #[] }, .string { data := #[] }, .bool false, .int .i64 0, .int .i64 0, .int .i64 0, .slice none 0 0] 27)).alloc (.cells #[.int .i64 least, .int .i64 most, .string { data := #[97] }, .func (.func 150) #[] #[.pointer (some ⟨e0, 0, none⟩)]] 44)) := (Below.refl _ _).alloc (Nat.le_refl _) _
  have HX := Lib.hid (Lib.cell_of_heap (heap_alloc_new (w.alloc (.cells #[.int .i64 0, .string { data := #[] }, .string { data := #[] }, .string { data := #[] }, .bool false, .int .i64 0, .int .i64 0, .int .i64 0, .slice none 0 0] 27)) (.cells #[.int .i64 least, .int .i64 most, .string { data := #[97] }, .func (.func 150) #[] #[.pointer (some ⟨e0, 0, none⟩)]] 44)) 3)
  replace HR := Lib.hid (keep_block HR.out hb)
  replace HV := Lib.hid (HV.out.below hb)
  replace HE := Lib.hid (HE.out.below hb)
  replace HL := Lib.hid (HL.out.trans (hb.mono HL.out.size))
  replace HFN := Lib.hid (HFN.out.below hb)
  have hpos : (w.alloc (.cells #[.int .i64 0, .string { data := #[] }, .string { data := #[] }, .string { data := #[] }, .bool false, .int .i64 0, .int .i64 0, .int .i64 0, .slice none 0 0] 27)).heap.size = w.heap.size + 1 := by simp
  rw [hpos] at HX
  have TL := Lib.hid (lift_a vs ab ao C (w.heap.size + 1) (faultVal' c) ((w.alloc (.cells #[.int .i64 0, .string { data := #[] }, .string { data := #[] }, .string { data := #[] }, .bool false, .int .i64 0, .int .i64 0, .int .i64 0, .slice none 0 0] 27)).alloc (.cells #[.int .i64 least, .int .i64 most, .string { data := #[97] }, .func (.func 150) #[] #[.pointer (some ⟨e0, 0, none⟩)]] 44)) h0 h9 HV.out HE.out ⟨rfl, rfl, rfl⟩
    (fun v hv W h => hC v hv W (HL.out.trans (h.mono HL.out.size))) (fun W g => check_fault c W h1 h2 g)
    (fun W g cap hbw hva => run1_stop (w.heap.size + 1) e0 (.slice (some ⟨g, 0, none⟩) vs.length cap) c W ⟨_, _, _, rfl⟩ h1 h2 (cell_below HX.out hbw) (HE.out.below hbw) (fun W' hb' => hK W' e0 g cap (HL.out.trans ((hbw.trans (hb'.mono hbw.size)).mono HL.out.size)) (HE.out.below (hbw.trans (hb'.mono hbw.size))) (HFN.out.below (hbw.trans (hb'.mono hbw.size))) (hva.below hb'))))
  obtain ⟨qq, hqq⟩ : ∃ z, (faultVal' c) = z := ⟨_, rfl⟩
  rw [hqq] at TL ⊢
  clear hqq hb hv hE hT hC hK hrf hfn hpos hfr hr hi h0 h9 hc1 hc2
  go_enter Tryz.func11, Tryz.ntmps11
  unfold Val.agg at TL ⊢
  go_wp2_with fail
  refine TL.out.mono ?_
  rintro e w2 ⟨rfl, hb2⟩
  replace HR := Lib.hid (keep_block HR.out hb2)
  replace HL := Lib.hid (HL.out.trans (hb2.mono HL.out.size))
  clear hb2
  obtain ⟨⟨r0, r1, r2, r3, r4, r5, r6, r7, r8⟩, g0, g1, g2, g3, g4, g5, g6, g7, g8⟩ := nine_at HR.out
  obtain ⟨nb, z0, z1, z2, z3, z4, z5, z6, z7, z8⟩ := nine_end (x0 := (.int .i64 qq.k)) (x1 := (.string qq.n)) (x2 := (.string qq.d)) (x3 := (.string qq.t)) (x4 := (.bool qq.on)) (x5 := (.int .i64 qq.c)) (x6 := (.int .i64 qq.r)) (x7 := (.int .i64 qq.s)) (x8 := (.slice qq.A qq.L qq.C)) HR.out HL.out (Nat.le_refl _)
  go_wp2
  refine bodyPost_ret (v := .tuple #[.agg #[.int .i64 qq.k, .string qq.n, .string qq.d, .string qq.t, .bool qq.on, .int .i64 qq.c, .int .i64 qq.r, .int .i64 qq.s, .slice qq.A qq.L qq.C], .int .i64 0]) (by simp [results, Tryz.results11, go_sem, z0, z1, z2, z3, z4, z5, z6, z7, z8]) rfl ⟨rfl, nb⟩

set_option maxHeartbeats 8000000 in
set_option maxRecDepth 100000 in
theorem run_s_val (i : Nat) (r : Row) (hi : i < allRows.length) (hr : allRows[i] = r) (hkd : r.kinds = { data := #[115] }) (hfr : ∀ j (hj : j < i), (allRows[i].name == (allRows[j]'(by omega)).name) = false) (vs : List Val) (b ab ao C : Nat) (q : Val) (w : World) (h0 : 0 < vs.length) (h9 : vs.length ≤ 300) (hc1 : r.least ≤ vs.length) (hc2 : (vs.length : Int) ≤ r.most) (hno : ∀ v ∈ vs, (v.k == 5) = false) (hv : ValsAt w ab ao vs) (hE : Env w) (hT : TableAt w b allRows) (hq : q.A = none ∧ q.L = 0 ∧ q.C = 0 ∧ q.r = 0 ∧ q.s = 0)
    (hO : ∀ W, Env W → Calls Tryz.prog 97 #[q.agg] W fun e w' => e = .returned (.int .i64 0) ∧ Below W.heap.size W w') 
    (hC : ∀ v ∈ vs, ∀ W, Below w.heap.size w W → Calls Tryz.prog 97 #[v.agg] W fun e w' => e = .returned (.int .i64 0) ∧ Below W.heap.size W w')
    (hK : ∀ W e g cap, Below w.heap.size w W → Env W → FnAt W e r → ValsAt W g 0 vs → Calls Tryz.prog 150 #[.slice (some ⟨g, 0, none⟩) vs.length cap, .pointer (some ⟨e, 0, none⟩)] W fun e w' => e = .returned q.agg ∧ Below W.heap.size W w') :
    Calls Tryz.prog 11 #[.map (some b), .string r.name, .slice (some ⟨ab, ao, none⟩) vs.length C] w fun e w' => e = .returned (.tuple #[(q).agg, .int .i64 0]) ∧ Below w.heap.size w w' := by
  have hb : Below w.heap.size w (w.alloc (.cells #[.int .i64 0, .string { data := #[] }, .string { data := #[] }, .string { data := #[] }, .bool false, .int .i64 0, .int .i64 0, .int .i64 0, .slice none 0 0] 27)) := (Below.refl _ _).alloc (Nat.le_refl _) _
  have HR := Lib.hid (heap_alloc_new w (.cells #[.int .i64 0, .string { data := #[] }, .string { data := #[] }, .string { data := #[] }, .bool false, .int .i64 0, .int .i64 0, .int .i64 0, .slice none 0 0] 27))
  obtain ⟨v, hrf, hrun⟩ := (hT.below hb).look i hi hfr Tryz.underlying36 Tryz.underlying9
  rw [hr] at hrf hrun
  obtain ⟨e0, rfl, hfn⟩ := rowFn_at hrf
  obtain ⟨name, least, most, kinds, num, F⟩ := r
  simp only at hkd hc1 hc2
  subst hkd
  simp only at hrun ⊢
  have HV := Lib.hid (hv.below hb)
  have HE := Lib.hid (hE.below hb)
  have HL := Lib.hid hb
  have HFN := Lib.hid hfn
  have d1 : decide ((vs.length : Int) < least) = false := decide_eq_false (by omega)
  have d2 : decide (most < (vs.length : Int)) = false := decide_eq_false (by omega)
  have hmf : ∀ (fn : Fn) (first cap : Array Value) (w : World), (Instr.makeFunc fn first cap).run Tryz.prog w = .ok (.func fn first cap) w := fun _ _ _ _ => rfl
  have hb : Below (w.alloc (.cells #[.int .i64 0, .string { data := #[] }, .string { data := #[] }, .string { data := #[] }, .bool false, .int .i64 0, .int .i64 0, .int .i64 0, .slice none 0 0] 27)).heap.size (w.alloc (.cells #[.int .i64 0, .string { data := #[] }, .string { data := #[] }, .string { data := #[] }, .bool false, .int .i64 0, .int .i64 0, .int .i64 0, .slice none 0 0] 27)) ((w.alloc (.cells #[.int .i64 0, .string { data := #[] }, .string { data := #[] }, .string { data := #[] }, .bool false, .int .i64 0, .int .i64 0, .int .i64 0, .slice none 0 0] 27)).alloc (.cells #[.int .i64 least, .int .i64 most, .string { data := #[115] }, .func (.func 150) #[] #[.pointer (some ⟨e0, 0, none⟩)]] 44)) := (Below.refl _ _).alloc (Nat.le_refl _) _
  have HX := Lib.hid (Lib.cell_of_heap (heap_alloc_new (w.alloc (.cells #[.int .i64 0, .string { data := #[] }, .string { data := #[] }, .string { data := #[] }, .bool false, .int .i64 0, .int .i64 0, .int .i64 0, .slice none 0 0] 27)) (.cells #[.int .i64 least, .int .i64 most, .string { data := #[115] }, .func (.func 150) #[] #[.pointer (some ⟨e0, 0, none⟩)]] 44)) 3)
  replace HR := Lib.hid (keep_block HR.out hb)
  replace HV := Lib.hid (HV.out.below hb)
  replace HE := Lib.hid (HE.out.below hb)
  replace HL := Lib.hid (HL.out.trans (hb.mono HL.out.size))
  replace HFN := Lib.hid (HFN.out.below hb)
  have hpos : (w.alloc (.cells #[.int .i64 0, .string { data := #[] }, .string { data := #[] }, .string { data := #[] }, .bool false, .int .i64 0, .int .i64 0, .int .i64 0, .slice none 0 0] 27)).heap.size = w.heap.size + 1 := by simp
  rw [hpos] at HX
  have TL := Lib.hid (lift_s vs ab ao C (w.heap.size + 1) (q) ((w.alloc (.cells #[.int .i64 0, .string { data := #[] }, .string { data := #[] }, .string { data := #[] }, .bool false, .int .i64 0, .int .i64 0, .int .i64 0, .slice none 0 0] 27)).alloc (.cells #[.int .i64 least, .int .i64 most, .string { data := #[115] }, .func (.func 150) #[] #[.pointer (some ⟨e0, 0, none⟩)]] 44)) h0 h9 hno HV.out HE.out ⟨hq.1, hq.2.1, hq.2.2.1⟩
    (fun v hv W h => hC v hv W (HL.out.trans (h.mono HL.out.size))) (hO)
    (fun W g cap hbw hva => by
      have h := run1_value (w.heap.size + 1) 0 e0 (.slice (some ⟨g, 0, none⟩) vs.length cap) q.k q.n q.d q.t q.on q.c q.A q.L q.C W ⟨_, _, _, rfl⟩ (cell_below HX.out hbw) (HE.out.below hbw) (fun W' hb' => by
        have h2 := hK W' e0 g cap (HL.out.trans ((hbw.trans (hb'.mono hbw.size)).mono HL.out.size)) (HE.out.below (hbw.trans (hb'.mono hbw.size))) (HFN.out.below (hbw.trans (hb'.mono hbw.size))) (hva.below hb')
        unfold Val.agg at h2
        rw [hq.2.2.2.1, hq.2.2.2.2] at h2
        exact h2)
      unfold Val.agg
      rw [hq.2.2.2.1, hq.2.2.2.2]
      exact h))
  obtain ⟨qq, hqq⟩ : ∃ z, (q) = z := ⟨_, rfl⟩
  rw [hqq] at TL ⊢
  clear hqq hb hv hE hT hC hK hrf hfn hpos hfr hr hi h0 h9 hc1 hc2
  go_enter Tryz.func11, Tryz.ntmps11
  unfold Val.agg at TL ⊢
  go_wp2_with fail
  refine TL.out.mono ?_
  rintro e w2 ⟨rfl, hb2⟩
  replace HR := Lib.hid (keep_block HR.out hb2)
  replace HL := Lib.hid (HL.out.trans (hb2.mono HL.out.size))
  clear hb2
  obtain ⟨⟨r0, r1, r2, r3, r4, r5, r6, r7, r8⟩, g0, g1, g2, g3, g4, g5, g6, g7, g8⟩ := nine_at HR.out
  obtain ⟨nb, z0, z1, z2, z3, z4, z5, z6, z7, z8⟩ := nine_end (x0 := (.int .i64 qq.k)) (x1 := (.string qq.n)) (x2 := (.string qq.d)) (x3 := (.string qq.t)) (x4 := (.bool qq.on)) (x5 := (.int .i64 qq.c)) (x6 := (.int .i64 qq.r)) (x7 := (.int .i64 qq.s)) (x8 := (.slice qq.A qq.L qq.C)) HR.out HL.out (Nat.le_refl _)
  go_wp2
  refine bodyPost_ret (v := .tuple #[.agg #[.int .i64 qq.k, .string qq.n, .string qq.d, .string qq.t, .bool qq.on, .int .i64 qq.c, .int .i64 qq.r, .int .i64 qq.s, .slice qq.A qq.L qq.C], .int .i64 0]) (by simp [results, Tryz.results11, go_sem, z0, z1, z2, z3, z4, z5, z6, z7, z8]) rfl ⟨rfl, nb⟩

set_option maxHeartbeats 8000000 in
set_option maxRecDepth 100000 in
theorem run_s_stop (i : Nat) (r : Row) (hi : i < allRows.length) (hr : allRows[i] = r) (hkd : r.kinds = { data := #[115] }) (hfr : ∀ j (hj : j < i), (allRows[i].name == (allRows[j]'(by omega)).name) = false) (vs : List Val) (b ab ao C : Nat) (c : Int) (w : World) (h0 : 0 < vs.length) (h9 : vs.length ≤ 300) (hc1 : r.least ≤ vs.length) (hc2 : (vs.length : Int) ≤ r.most) (hno : ∀ v ∈ vs, (v.k == 5) = false) (hv : ValsAt w ab ao vs) (hE : Env w) (hT : TableAt w b allRows) (h1 : 1 ≤ c) (h2 : c ≤ 8) 
    (hC : ∀ v ∈ vs, ∀ W, Below w.heap.size w W → Calls Tryz.prog 97 #[v.agg] W fun e w' => e = .returned (.int .i64 0) ∧ Below W.heap.size W w')
    (hK : ∀ W e g cap, Below w.heap.size w W → Env W → FnAt W e r → ValsAt W g 0 vs → Calls Tryz.prog 150 #[.slice (some ⟨g, 0, none⟩) vs.length cap, .pointer (some ⟨e, 0, none⟩)] W fun e w' => e = stopped c ∧ Below W.heap.size W w') :
    Calls Tryz.prog 11 #[.map (some b), .string r.name, .slice (some ⟨ab, ao, none⟩) vs.length C] w fun e w' => e = .returned (.tuple #[(faultVal' c).agg, .int .i64 0]) ∧ Below w.heap.size w w' := by
  have hb : Below w.heap.size w (w.alloc (.cells #[.int .i64 0, .string { data := #[] }, .string { data := #[] }, .string { data := #[] }, .bool false, .int .i64 0, .int .i64 0, .int .i64 0, .slice none 0 0] 27)) := (Below.refl _ _).alloc (Nat.le_refl _) _
  have HR := Lib.hid (heap_alloc_new w (.cells #[.int .i64 0, .string { data := #[] }, .string { data := #[] }, .string { data := #[] }, .bool false, .int .i64 0, .int .i64 0, .int .i64 0, .slice none 0 0] 27))
  obtain ⟨v, hrf, hrun⟩ := (hT.below hb).look i hi hfr Tryz.underlying36 Tryz.underlying9
  rw [hr] at hrf hrun
  obtain ⟨e0, rfl, hfn⟩ := rowFn_at hrf
  obtain ⟨name, least, most, kinds, num, F⟩ := r
  simp only at hkd hc1 hc2
  subst hkd
  simp only at hrun ⊢
  have HV := Lib.hid (hv.below hb)
  have HE := Lib.hid (hE.below hb)
  have HL := Lib.hid hb
  have HFN := Lib.hid hfn
  have d1 : decide ((vs.length : Int) < least) = false := decide_eq_false (by omega)
  have d2 : decide (most < (vs.length : Int)) = false := decide_eq_false (by omega)
  have hmf : ∀ (fn : Fn) (first cap : Array Value) (w : World), (Instr.makeFunc fn first cap).run Tryz.prog w = .ok (.func fn first cap) w := fun _ _ _ _ => rfl
  have hb : Below (w.alloc (.cells #[.int .i64 0, .string { data := #[] }, .string { data := #[] }, .string { data := #[] }, .bool false, .int .i64 0, .int .i64 0, .int .i64 0, .slice none 0 0] 27)).heap.size (w.alloc (.cells #[.int .i64 0, .string { data := #[] }, .string { data := #[] }, .string { data := #[] }, .bool false, .int .i64 0, .int .i64 0, .int .i64 0, .slice none 0 0] 27)) ((w.alloc (.cells #[.int .i64 0, .string { data := #[] }, .string { data := #[] }, .string { data := #[] }, .bool false, .int .i64 0, .int .i64 0, .int .i64 0, .slice none 0 0] 27)).alloc (.cells #[.int .i64 least, .int .i64 most, .string { data := #[115] }, .func (.func 150) #[] #[.pointer (some ⟨e0, 0, none⟩)]] 44)) := (Below.refl _ _).alloc (Nat.le_refl _) _
  have HX := Lib.hid (Lib.cell_of_heap (heap_alloc_new (w.alloc (.cells #[.int .i64 0, .string { data := #[] }, .string { data := #[] }, .string { data := #[] }, .bool false, .int .i64 0, .int .i64 0, .int .i64 0, .slice none 0 0] 27)) (.cells #[.int .i64 least, .int .i64 most, .string { data := #[115] }, .func (.func 150) #[] #[.pointer (some ⟨e0, 0, none⟩)]] 44)) 3)
  replace HR := Lib.hid (keep_block HR.out hb)
  replace HV := Lib.hid (HV.out.below hb)
  replace HE := Lib.hid (HE.out.below hb)
  replace HL := Lib.hid (HL.out.trans (hb.mono HL.out.size))
  replace HFN := Lib.hid (HFN.out.below hb)
  have hpos : (w.alloc (.cells #[.int .i64 0, .string { data := #[] }, .string { data := #[] }, .string { data := #[] }, .bool false, .int .i64 0, .int .i64 0, .int .i64 0, .slice none 0 0] 27)).heap.size = w.heap.size + 1 := by simp
  rw [hpos] at HX
  have TL := Lib.hid (lift_s vs ab ao C (w.heap.size + 1) (faultVal' c) ((w.alloc (.cells #[.int .i64 0, .string { data := #[] }, .string { data := #[] }, .string { data := #[] }, .bool false, .int .i64 0, .int .i64 0, .int .i64 0, .slice none 0 0] 27)).alloc (.cells #[.int .i64 least, .int .i64 most, .string { data := #[115] }, .func (.func 150) #[] #[.pointer (some ⟨e0, 0, none⟩)]] 44)) h0 h9 hno HV.out HE.out ⟨rfl, rfl, rfl⟩
    (fun v hv W h => hC v hv W (HL.out.trans (h.mono HL.out.size))) (fun W g => check_fault c W h1 h2 g)
    (fun W g cap hbw hva => run1_stop (w.heap.size + 1) e0 (.slice (some ⟨g, 0, none⟩) vs.length cap) c W ⟨_, _, _, rfl⟩ h1 h2 (cell_below HX.out hbw) (HE.out.below hbw) (fun W' hb' => hK W' e0 g cap (HL.out.trans ((hbw.trans (hb'.mono hbw.size)).mono HL.out.size)) (HE.out.below (hbw.trans (hb'.mono hbw.size))) (HFN.out.below (hbw.trans (hb'.mono hbw.size))) (hva.below hb'))))
  obtain ⟨qq, hqq⟩ : ∃ z, (faultVal' c) = z := ⟨_, rfl⟩
  rw [hqq] at TL ⊢
  clear hqq hb hv hE hT hC hK hrf hfn hpos hfr hr hi h0 h9 hc1 hc2
  go_enter Tryz.func11, Tryz.ntmps11
  unfold Val.agg at TL ⊢
  go_wp2_with fail
  refine TL.out.mono ?_
  rintro e w2 ⟨rfl, hb2⟩
  replace HR := Lib.hid (keep_block HR.out hb2)
  replace HL := Lib.hid (HL.out.trans (hb2.mono HL.out.size))
  clear hb2
  obtain ⟨⟨r0, r1, r2, r3, r4, r5, r6, r7, r8⟩, g0, g1, g2, g3, g4, g5, g6, g7, g8⟩ := nine_at HR.out
  obtain ⟨nb, z0, z1, z2, z3, z4, z5, z6, z7, z8⟩ := nine_end (x0 := (.int .i64 qq.k)) (x1 := (.string qq.n)) (x2 := (.string qq.d)) (x3 := (.string qq.t)) (x4 := (.bool qq.on)) (x5 := (.int .i64 qq.c)) (x6 := (.int .i64 qq.r)) (x7 := (.int .i64 qq.s)) (x8 := (.slice qq.A qq.L qq.C)) HR.out HL.out (Nat.le_refl _)
  go_wp2
  refine bodyPost_ret (v := .tuple #[.agg #[.int .i64 qq.k, .string qq.n, .string qq.d, .string qq.t, .bool qq.on, .int .i64 qq.c, .int .i64 qq.r, .int .i64 qq.s, .slice qq.A qq.L qq.C], .int .i64 0]) (by simp [results, Tryz.results11, go_sem, z0, z1, z2, z3, z4, z5, z6, z7, z8]) rfl ⟨rfl, nb⟩
end Go.Proofs.YtnlaecjniellpaaGreatDoor.Num

/- package fmath's Call, the law's math, and the closures that wrap a function of the table. Conditions: the tables lie as they are laid. -/
namespace Go.Proofs.YtnlaecjniellpaaGreatDoor.Num
open Go.RowKit Go.Lib

set_option maxHeartbeats 4000000 in
set_option maxRecDepth 100000 in
theorem call_of (name : ByteArray) (sl : Value) (q : Val) (w : World) (hs : ∃ a l c, sl = .slice a l c)
    (hRun : ∀ W b, Below w.heap.size w W → TableAt W b allRows → Calls Tryz.prog 11 #[.map (some b), .string name, sl] W fun e w' => e = .returned (.tuple #[q.agg, .int .i64 0]) ∧ Below W.heap.size W w') :
    Calls Tryz.prog 9 #[.string name, sl] w fun e w' => e = .returned (.tuple #[q.agg, .int .i64 0]) ∧ Below w.heap.size w w' := by
  obtain ⟨sa, slen, sc, rfl⟩ := hs
  have hb : Below w.heap.size w (w.alloc (.cells #[.int .i64 0, .string { data := #[] }, .string { data := #[] }, .string { data := #[] }, .bool false, .int .i64 0, .int .i64 0, .int .i64 0, .slice none 0 0] 27)) := (Below.refl _ _).alloc (Nat.le_refl _) _
  have HR := Lib.hid (heap_alloc_new w (.cells #[.int .i64 0, .string { data := #[] }, .string { data := #[] }, .string { data := #[] }, .bool false, .int .i64 0, .int .i64 0, .int .i64 0, .slice none 0 0] 27))
  have HL := Lib.hid hb
  have TR := Lib.hid hRun
  unfold Val.agg at TR ⊢
  clear hRun hb
  go_enter Tryz.func9, Tryz.ntmps9
  go_wp2_with fail
  refine (table_any _).mono ?_
  rintro e W1 ⟨b, rfl, ht, hb⟩
  have HT := Lib.hid ht
  clear ht
  replace HR := Lib.hid (keep_block HR.out hb)
  replace HL := Lib.hid (HL.out.trans (hb.mono HL.out.size))
  clear hb
  go_wp2_with fail
  refine (TR.out _ _ HL.out HT.out).mono ?_
  rintro e W2 ⟨rfl, hb⟩
  replace HR := Lib.hid (keep_block HR.out hb)
  replace HL := Lib.hid (HL.out.trans (hb.mono HL.out.size))
  clear hb
  obtain ⟨⟨r0, r1, r2, r3, r4, r5, r6, r7, r8⟩, g0, g1, g2, g3, g4, g5, g6, g7, g8⟩ := nine_at HR.out
  obtain ⟨nb, z0, z1, z2, z3, z4, z5, z6, z7, z8⟩ := nine_end (x0 := (.int .i64 q.k)) (x1 := (.string q.n)) (x2 := (.string q.d)) (x3 := (.string q.t)) (x4 := (.bool q.on)) (x5 := (.int .i64 q.c)) (x6 := (.int .i64 q.r)) (x7 := (.int .i64 q.s)) (x8 := (.slice q.A q.L q.C)) HR.out HL.out (Nat.le_refl _)
  go_wp2
  refine bodyPost_ret (v := .tuple #[.agg #[.int .i64 q.k, .string q.n, .string q.d, .string q.t, .bool q.on, .int .i64 q.c, .int .i64 q.r, .int .i64 q.s, .slice q.A q.L q.C], .int .i64 0]) (by simp [results, Tryz.results9, go_sem, z0, z1, z2, z3, z4, z5, z6, z7, z8]) rfl ⟨rfl, nb⟩

set_option maxHeartbeats 4000000 in
set_option maxRecDepth 100000 in
theorem math_of (name : ByteArray) (sl : Value) (q : Val) (w : World) (hs : ∃ a l c, sl = .slice a l c)
    (hRun : ∀ W b, Below w.heap.size w W → TableAt W b allRows → Calls Tryz.prog 11 #[.map (some b), .string name, sl] W fun e w' => e = .returned (.tuple #[q.agg, .int .i64 0]) ∧ Below W.heap.size W w') :
    Calls Tryz.prog 5 #[.string name, sl] w fun e w' => e = .returned q.agg ∧ Below w.heap.size w w' := by
  have hb : Below w.heap.size w (w.alloc (.cells #[.int .i64 0, .string { data := #[] }, .string { data := #[] }, .string { data := #[] }, .bool false, .int .i64 0, .int .i64 0, .int .i64 0, .slice none 0 0] 27)) := (Below.refl _ _).alloc (Nat.le_refl _) _
  have HR := Lib.hid (heap_alloc_new w (.cells #[.int .i64 0, .string { data := #[] }, .string { data := #[] }, .string { data := #[] }, .bool false, .int .i64 0, .int .i64 0, .int .i64 0, .slice none 0 0] 27))
  have HL := Lib.hid hb
  have TC := Lib.hid (call_of name sl q (w.alloc (.cells #[.int .i64 0, .string { data := #[] }, .string { data := #[] }, .string { data := #[] }, .bool false, .int .i64 0, .int .i64 0, .int .i64 0, .slice none 0 0] 27)) hs (fun W b h => hRun W b (hb.trans (h.mono hb.size))))
  obtain ⟨sa, slen, sc, rfl⟩ := hs
  unfold Val.agg at TC ⊢
  clear hRun hb
  go_enter Tryz.func5, Tryz.ntmps5
  go_wp2_with fail
  refine TC.out.mono ?_
  rintro e W1 ⟨rfl, hb⟩
  replace HR := Lib.hid (keep_block HR.out hb)
  replace HL := Lib.hid (HL.out.trans (hb.mono HL.out.size))
  clear hb
  have hlt := heap_lt HR.out
  obtain ⟨⟨r0, r1, r2, r3, r4, r5, r6, r7, r8⟩, g0, g1, g2, g3, g4, g5, g6, g7, g8⟩ := nine_at HR.out
  have HF1 := Lib.hid (set9_at HR.out (.int .i64 q.k) (.string q.n) (.string q.d) (.string q.t) (.bool q.on) (.int .i64 q.c) (.int .i64 q.r) (.int .i64 q.s) (.slice q.A q.L q.C))
  have HF2 := Lib.hid ((Below.heap_alloc _ (.cells #[.int .i64 q.k, .string q.n, .string q.d, .string q.t, .bool q.on, .int .i64 q.c, .int .i64 q.r, .int .i64 q.s, .slice q.A q.L q.C] 27) _ (heap_lt HF1.out)).trans HF1.out)
  have HB2 := Lib.hid (nine_end (x0 := (.int .i64 q.k)) (x1 := (.string q.n)) (x2 := (.string q.d)) (x3 := (.string q.t)) (x4 := (.bool q.on)) (x5 := (.int .i64 q.c)) (x6 := (.int .i64 q.r)) (x7 := (.int .i64 q.s)) (x8 := (.slice q.A q.L q.C)) HR.out HL.out (Nat.le_refl _)).1
  have HZ2 := Lib.hid (HB2.out.alloc HB2.out.size (.cells #[.int .i64 q.k, .string q.n, .string q.d, .string q.t, .bool q.on, .int .i64 q.c, .int .i64 q.r, .int .i64 q.s, .slice q.A q.L q.C] 27))
  have HA := Lib.hid ((Below.heap_alloc W1 (.cells #[.int .i64 q.k, .string q.n, .string q.d, .string q.t, .bool q.on, .int .i64 q.c, .int .i64 q.r, .int .i64 q.s, .slice q.A q.L q.C] 27) _ hlt).trans HR.out)
  obtain ⟨⟨a0, a1, a2, a3, a4, a5, a6, a7, a8⟩, b0, b1, b2, b3, b4, b5, b6, b7, b8⟩ := nine_at HA.out
  obtain ⟨⟨z0, z1, z2, z3, z4, z5, z6, z7, z8⟩, _⟩ := nine_at HF2.out
  go_wp2
  refine bodyPost_ret (v := .agg #[.int .i64 q.k, .string q.n, .string q.d, .string q.t, .bool q.on, .int .i64 q.c, .int .i64 q.r, .int .i64 q.s, .slice q.A q.L q.C]) (by simp [results, Tryz.results5, go_sem, z0, z1, z2, z3, z4, z5, z6, z7, z8]) rfl ⟨rfl, HZ2.out⟩

set_option maxHeartbeats 4000000 in
set_option maxRecDepth 100000 in
theorem num1_val (b f : Nat) (F : FuncId) (q : Rat) (w : World) (hf : w.cell? ⟨f, 0, none⟩ = some (.func (.func F) #[] #[])) (eF : ∀ args w, (callFunc F args).run Tryz.prog w = .ok (.enter F args) w) (hE : Env w) (hP : Past b) (hq : fits q = true) (hne : b < w.heap.size)
    (hF : ∀ W, Below w.heap.size w W → Calls Tryz.prog F #[.pointer (some ⟨b, 0, none⟩)] W fun e w' => e = .returned (fracV q) ∧ W.grownBy w' (some b)) :
    Calls Tryz.prog 137 #[.pointer (some ⟨b, 0, none⟩), .pointer (some ⟨f, 0, none⟩)] w fun e w' => e = .returned (numVal q) ∧ w.grownBy w' (some b) := by
  have hb : Below w.heap.size w (w.alloc (.cells #[.int .i64 0, .string { data := #[] }, .string { data := #[] }, .string { data := #[] }, .bool false, .int .i64 0, .int .i64 0, .int .i64 0, .slice none 0 0] 27)) := (Below.refl _ _).alloc (Nat.le_refl _) _
  have HR := Lib.hid (heap_alloc_new w (.cells #[.int .i64 0, .string { data := #[] }, .string { data := #[] }, .string { data := #[] }, .bool false, .int .i64 0, .int .i64 0, .int .i64 0, .slice none 0 0] 27))
  have HL := Lib.hid hb
  have HX := Lib.hid (cell_below hf hb)
  obtain x0 := HX.out
  have TF := Lib.hid (hF _ hb)
  have TN := Lib.hid (fun W g => number_any q W hq g)
  rw [numVal_is q] at TN ⊢
  rw [fracV_is q] at TN TF
  have NE := Lib.hid (show w.heap.size ≠ b from Nat.ne_of_gt hne)
  have HE := Lib.hid (hE.below hb)
  have HP := Lib.hid hP
  clear hf hF hb hE hP hne hq
  go_enter Tryz.func137, Tryz.ntmps137
  go_wp2_with fail
  refine TF.out.mono ?_
  rintro e W1 ⟨rfl, hg⟩
  have HG := Lib.hid (kept_trans (kept_below (b := b) HL.out) hg)
  replace HR := Lib.hid (kept_block HR.out hg NE.out)
  replace HE := Lib.hid (HE.out.kept hg HP.out)
  clear hg x0 HX
  go_wp2_with fail
  refine (TN.out _ HE.out).mono ?_
  rintro e W2 ⟨rfl, hb⟩
  replace HG := Lib.hid (kept_trans HG.out (kept_below hb))
  replace HR := Lib.hid (keep_block HR.out hb)
  clear hb
  obtain ⟨⟨r0, r1, r2, r3, r4, r5, r6, r7, r8⟩, g0, g1, g2, g3, g4, g5, g6, g7, g8⟩ := nine_at HR.out
  have HF := Lib.hid (set9_at HR.out (.int .i64 1) (.string (numS q)) (.string (denS q)) (.string { data := #[] }) (.bool false) (.int .i64 0) (.int .i64 0) (.int .i64 0) (.slice none 0 0))
  have HG2 := Lib.hid (kept_set9 HG.out (Nat.le_refl _) (.int .i64 1) (.string (numS q)) (.string (denS q)) (.string { data := #[] }) (.bool false) (.int .i64 0) (.int .i64 0) (.int .i64 0) (.slice none 0 0))
  obtain ⟨⟨z0, z1, z2, z3, z4, z5, z6, z7, z8⟩, _⟩ := nine_at HF.out
  go_wp2
  refine bodyPost_ret (v := .agg #[.int .i64 1, .string (numS q), .string (denS q), .string { data := #[] }, .bool false, .int .i64 0, .int .i64 0, .int .i64 0, .slice none 0 0]) (by simp [results, Tryz.results137, go_sem, z0, z1, z2, z3, z4, z5, z6, z7, z8]) rfl ⟨rfl, HG2.out⟩

set_option maxHeartbeats 4000000 in
set_option maxRecDepth 100000 in
theorem num1_stop (b f : Nat) (F : FuncId) (c : Int) (w : World) (hf : w.cell? ⟨f, 0, none⟩ = some (.func (.func F) #[] #[])) (eF : ∀ args w, (callFunc F args).run Tryz.prog w = .ok (.enter F args) w) (_ : Env w) (_ : Past b)
    (hF : ∀ W, Below w.heap.size w W → Calls Tryz.prog F #[.pointer (some ⟨b, 0, none⟩)] W fun e w' => e = stopped c ∧ W.grownBy w' (some b)) :
    Calls Tryz.prog 137 #[.pointer (some ⟨b, 0, none⟩), .pointer (some ⟨f, 0, none⟩)] w fun e w' => e = stopped c ∧ w.grownBy w' (some b) := by
  have hb : Below w.heap.size w (w.alloc (.cells #[.int .i64 0, .string { data := #[] }, .string { data := #[] }, .string { data := #[] }, .bool false, .int .i64 0, .int .i64 0, .int .i64 0, .slice none 0 0] 27)) := (Below.refl _ _).alloc (Nat.le_refl _) _
  have HR := Lib.hid (heap_alloc_new w (.cells #[.int .i64 0, .string { data := #[] }, .string { data := #[] }, .string { data := #[] }, .bool false, .int .i64 0, .int .i64 0, .int .i64 0, .slice none 0 0] 27))
  have HL := Lib.hid hb
  have HX := Lib.hid (cell_below hf hb)
  obtain x0 := HX.out
  have TF := Lib.hid (hF _ hb)
  clear hf hF hb
  go_enter Tryz.func137, Tryz.ntmps137
  go_wp2_with fail
  refine TF.out.mono ?_
  rintro e W1 ⟨rfl, hg⟩
  have HG := Lib.hid (kept_trans (kept_below (b := b) HL.out) hg)
  clear hg
  unfold stopped
  go_wp2
  exact ⟨rfl, rfl, HG.out⟩

end Go.Proofs.YtnlaecjniellpaaGreatDoor.Num

/- package fmath: the closure that makes the arguments of a function of numbers. Conditions: the tables lie as they are laid. -/
namespace Go.Proofs.YtnlaecjniellpaaGreatDoor.Num
open Go.RowKit Go.Lib

theorem Env.past {w : World} (h : Env w) {b : Nat} (hb : w.heap.size ≤ b) : Past b := ⟨Nat.lt_of_lt_of_le h.room.1 hb, Nat.lt_of_lt_of_le h.room.2 hb⟩
set_option maxHeartbeats 4000000 in
set_option maxRecDepth 100000 in
theorem entry1_val (r : Row) (g cap e : Nat) (vs : List Val) (q : Rat) (w : World) (hr : r.num = true) (hfn : FnAt w e r) (eF : ∀ args w, (callFunc r.fn args).run Tryz.prog w = .ok (.enter r.fn args) w) (hE : Env w) (hv : ValsAt w g 0 vs) (hq : fits q = true)
    (hF : ∀ W b, Below w.heap.size w W → Env W → Past b → b < W.heap.size → ArgsAt W b (some ⟨g, 0, none⟩) vs.length cap 0 → ValsAt W g 0 vs → g ≠ b → Calls Tryz.prog r.fn #[.pointer (some ⟨b, 0, none⟩)] W fun e w' => e = .returned (fracV q) ∧ W.grownBy w' (some b)) (hv0 : 0 < vs.length) :
    Calls Tryz.prog 150 #[.slice (some ⟨g, 0, none⟩) vs.length cap, .pointer (some ⟨e, 0, none⟩)] w fun e w' => e = .returned (numVal q) ∧ Below w.heap.size w w' := by
  unfold FnAt at hfn
  rw [if_pos hr] at hfn
  obtain ⟨f, he, hf⟩ := hfn
  obtain ⟨hR, hB, hb⟩ := two_new w (.cells #[.int .i64 0, .string { data := #[] }, .string { data := #[] }, .string { data := #[] }, .bool false, .int .i64 0, .int .i64 0, .int .i64 0, .slice none 0 0] 27) (.cells #[.slice (some ⟨g, 0, none⟩) vs.length cap, .int .i64 0] 82)
  have HR := Lib.hid hR
  have HL := Lib.hid hb
  have HX := Lib.hid (cell_below he ((Below.refl w.heap.size w).alloc (Nat.le_refl _) (.cells #[.int .i64 0, .string { data := #[] }, .string { data := #[] }, .string { data := #[] }, .bool false, .int .i64 0, .int .i64 0, .int .i64 0, .slice none 0 0] 27)))
  have hgl : g < w.heap.size := cell_lt (hv.at 0 hv0).1
  have TN := Lib.hid (num1_val (w.heap.size + 1) f r.fn q ((w.alloc (.cells #[.int .i64 0, .string { data := #[] }, .string { data := #[] }, .string { data := #[] }, .bool false, .int .i64 0, .int .i64 0, .int .i64 0, .slice none 0 0] 27)).alloc (.cells #[.slice (some ⟨g, 0, none⟩) vs.length cap, .int .i64 0] 82)) (cell_below hf hb) eF (hE.below hb) (hE.past (Nat.le_succ _)) hq (by simp)
    (fun W h => hF W (w.heap.size + 1) (hb.trans (h.mono hb.size)) ((hE.below hb).below h) (hE.past (Nat.le_succ _)) (by have := h.size; simp at this; omega) (keep_block hB h) ((hv.below hb).below h) (by omega)))
  rw [numVal_is q] at TN ⊢
  clear hR hB hb he hf hF hE hv hgl eF
  obtain x0 := HX.out
  go_enter Tryz.func150, Tryz.ntmps150
  go_wp2_with fail
  refine TN.out.mono ?_
  rintro e W1 ⟨rfl, hg⟩
  replace HR := Lib.hid (kept_block HR.out hg (by omega))
  have HG := Lib.hid (below_map HL.out (Nat.le_succ _) hg)
  clear hg
  obtain ⟨⟨r0, r1, r2, r3, r4, r5, r6, r7, r8⟩, g0, g1, g2, g3, g4, g5, g6, g7, g8⟩ := nine_at HR.out
  obtain ⟨nb, z0, z1, z2, z3, z4, z5, z6, z7, z8⟩ := nine_end (x0 := (.int .i64 1)) (x1 := (.string (numS q))) (x2 := (.string (denS q))) (x3 := (.string { data := #[] })) (x4 := (.bool false)) (x5 := (.int .i64 0)) (x6 := (.int .i64 0)) (x7 := (.int .i64 0)) (x8 := (.slice none 0 0)) HR.out HG.out (Nat.le_refl _)
  go_wp2
  refine bodyPost_ret (v := .agg #[.int .i64 1, .string (numS q), .string (denS q), .string { data := #[] }, .bool false, .int .i64 0, .int .i64 0, .int .i64 0, .slice none 0 0]) (by simp [results, Tryz.results150, go_sem, z0, z1, z2, z3, z4, z5, z6, z7, z8]) rfl ⟨rfl, nb⟩

set_option maxHeartbeats 4000000 in
set_option maxRecDepth 100000 in
theorem entry1_stop (r : Row) (g cap e : Nat) (vs : List Val) (c : Int) (w : World) (hr : r.num = true) (hfn : FnAt w e r) (eF : ∀ args w, (callFunc r.fn args).run Tryz.prog w = .ok (.enter r.fn args) w) (hE : Env w) (hv : ValsAt w g 0 vs)
    (hF : ∀ W b, Below w.heap.size w W → Env W → Past b → b < W.heap.size → ArgsAt W b (some ⟨g, 0, none⟩) vs.length cap 0 → ValsAt W g 0 vs → g ≠ b → Calls Tryz.prog r.fn #[.pointer (some ⟨b, 0, none⟩)] W fun e w' => e = stopped c ∧ W.grownBy w' (some b)) (hv0 : 0 < vs.length) :
    Calls Tryz.prog 150 #[.slice (some ⟨g, 0, none⟩) vs.length cap, .pointer (some ⟨e, 0, none⟩)] w fun e w' => e = stopped c ∧ Below w.heap.size w w' := by
  unfold FnAt at hfn
  rw [if_pos hr] at hfn
  obtain ⟨f, he, hf⟩ := hfn
  obtain ⟨hR, hB, hb⟩ := two_new w (.cells #[.int .i64 0, .string { data := #[] }, .string { data := #[] }, .string { data := #[] }, .bool false, .int .i64 0, .int .i64 0, .int .i64 0, .slice none 0 0] 27) (.cells #[.slice (some ⟨g, 0, none⟩) vs.length cap, .int .i64 0] 82)
  have HR := Lib.hid hR
  have HL := Lib.hid hb
  have HX := Lib.hid (cell_below he ((Below.refl w.heap.size w).alloc (Nat.le_refl _) (.cells #[.int .i64 0, .string { data := #[] }, .string { data := #[] }, .string { data := #[] }, .bool false, .int .i64 0, .int .i64 0, .int .i64 0, .slice none 0 0] 27)))
  have hgl : g < w.heap.size := cell_lt (hv.at 0 hv0).1
  have TN := Lib.hid (num1_stop (w.heap.size + 1) f r.fn c ((w.alloc (.cells #[.int .i64 0, .string { data := #[] }, .string { data := #[] }, .string { data := #[] }, .bool false, .int .i64 0, .int .i64 0, .int .i64 0, .slice none 0 0] 27)).alloc (.cells #[.slice (some ⟨g, 0, none⟩) vs.length cap, .int .i64 0] 82)) (cell_below hf hb) eF (hE.below hb) (hE.past (Nat.le_succ _))
    (fun W h => hF W (w.heap.size + 1) (hb.trans (h.mono hb.size)) ((hE.below hb).below h) (hE.past (Nat.le_succ _)) (by have := h.size; simp at this; omega) (keep_block hB h) ((hv.below hb).below h) (by omega)))
  clear hR hB hb he hf hF hE hv hgl eF
  obtain x0 := HX.out
  go_enter Tryz.func150, Tryz.ntmps150
  go_wp2_with fail
  refine TN.out.mono ?_
  rintro e W1 ⟨rfl, hg⟩
  have HG := Lib.hid (below_map HL.out (Nat.le_succ _) hg)
  clear hg
  unfold stopped
  go_wp2
  exact ⟨rfl, rfl, HG.out⟩

end Go.Proofs.YtnlaecjniellpaaGreatDoor.Num

/- package fmath: arithmetic of fractions whose results are not too long. Conditions: the tables lie as they are laid. -/
namespace Go.Proofs.YtnlaecjniellpaaGreatDoor.Num
open Go.RowKit Go.Lib

theorem cells2 {W : World} {p : Nat} {x y : Value} {T : TypeId} (h : W.heap[p]? = some (.cells #[x, y] T (0, 0))) : W.cell? ⟨p, 0, none⟩ = some x ∧ W.cell? ⟨p, 1, none⟩ = some y := ⟨Lib.cell_of_heap h 0, Lib.cell_of_heap h 1⟩
theorem cells4 {W : World} {p q : Nat} {x y z u : Value} {T U : TypeId} (h : W.heap[p]? = some (.cells #[x, y] T (0, 0))) (k : W.heap[q]? = some (.cells #[z, u] U (0, 0))) : W.cell? ⟨p, 0, none⟩ = some x ∧ W.cell? ⟨p, 1, none⟩ = some y ∧ W.cell? ⟨q, 0, none⟩ = some z ∧ W.cell? ⟨q, 1, none⟩ = some u :=
  ⟨Lib.cell_of_heap h 0, Lib.cell_of_heap h 1, Lib.cell_of_heap k 0, Lib.cell_of_heap k 1⟩
theorem set2_other (W : World) (b : Nat) (x y : Value) {k : Nat} (hk : k ≠ b) : ((W.setCell ⟨b, 0, none⟩ x).setCell ⟨b, 1, none⟩ y).heap[k]? = W.heap[k]? :=
  (Below.heap_setCell _ ⟨b, 1, none⟩ y k hk).trans (Below.heap_setCell W ⟨b, 0, none⟩ x k hk)
theorem fits_abs (q : Rat) : fits (if q < 0 then -q else q) = fits q := by split <;> simp [fits_neg]
set_option maxHeartbeats 4000000 in
set_option maxRecDepth 100000 in
theorem fm_add (p q : Rat) (w : World) (hp : fits p = true) (hq : fits q = true) (hr : fits (p + q) = true) (hE : Env w) : Calls Tryz.prog 144 #[fracV p, fracV q] w fun e w' => e = .returned (fracV (p + q)) ∧ Below w.heap.size w w' := by
  have T1 := Lib.hid (fun W g => add_any p q W hp hq g)
  have T2 := Lib.hid (fun W => must_ok (p + q) W)
  rw [wroteV_ok hr] at T1
  rw [fracV_is (p + q)] at T1 T2 ⊢
  rw [fracV_is p, fracV_is q] at T1 ⊢
  obtain ⟨_, _, hr', hb⟩ := three_new w (.cells #[.string (numS p), .string (denS p)] 24) (.cells #[.string (numS q), .string (denS q)] 24) (.cells #[.string { data := #[] }, .string { data := #[] }] 24)
  have HR := Lib.hid hr'
  have HL := Lib.hid hb
  have HE := Lib.hid (hE.below hb)
  clear hr' hb hE hp hq hr
  go_enter Tryz.func144, Tryz.ntmps144
  go_wp2_with fail
  refine (T1.out _ HE.out.tab).mono ?_
  rintro e W1 ⟨rfl, hb⟩
  replace HR := Lib.hid (keep_block HR.out hb)
  replace HL := Lib.hid (HL.out.trans (hb.mono HL.out.size))
  clear hb
  go_wp2_with fail
  refine (T2.out _).mono ?_
  rintro e W2 ⟨rfl, hb⟩
  replace HR := Lib.hid (keep_block HR.out hb)
  replace HL := Lib.hid (HL.out.trans (hb.mono HL.out.size))
  clear hb
  obtain ⟨⟨r0, r1⟩, rf0, rf1⟩ := two_at HR.out
  obtain ⟨nb, e0, e1⟩ := frac_end (x := .string (numS (p + q))) (y := .string (denS (p + q))) HR.out HL.out (by omega)
  go_wp2
  refine bodyPost_ret (v := .agg #[.string (numS (p + q)), .string (denS (p + q))]) (by simp [results, Tryz.results144, go_sem, e0, e1]) rfl ⟨rfl, nb⟩

set_option maxHeartbeats 4000000 in
set_option maxRecDepth 100000 in
theorem fm_sub (p q : Rat) (w : World) (hp : fits p = true) (hq : fits q = true) (hr : fits (p - q) = true) (hE : Env w) : Calls Tryz.prog 146 #[fracV p, fracV q] w fun e w' => e = .returned (fracV (p - q)) ∧ Below w.heap.size w w' := by
  have T1 := Lib.hid (fun W g => sub_any p q W hp hq g)
  have T2 := Lib.hid (fun W => must_ok (p - q) W)
  rw [wroteV_ok hr] at T1
  rw [fracV_is (p - q)] at T1 T2 ⊢
  rw [fracV_is p, fracV_is q] at T1 ⊢
  obtain ⟨_, _, hr', hb⟩ := three_new w (.cells #[.string (numS p), .string (denS p)] 24) (.cells #[.string (numS q), .string (denS q)] 24) (.cells #[.string { data := #[] }, .string { data := #[] }] 24)
  have HR := Lib.hid hr'
  have HL := Lib.hid hb
  have HE := Lib.hid (hE.below hb)
  clear hr' hb hE hp hq hr
  go_enter Tryz.func146, Tryz.ntmps146
  go_wp2_with fail
  refine (T1.out _ HE.out.tab).mono ?_
  rintro e W1 ⟨rfl, hb⟩
  replace HR := Lib.hid (keep_block HR.out hb)
  replace HL := Lib.hid (HL.out.trans (hb.mono HL.out.size))
  clear hb
  go_wp2_with fail
  refine (T2.out _).mono ?_
  rintro e W2 ⟨rfl, hb⟩
  replace HR := Lib.hid (keep_block HR.out hb)
  replace HL := Lib.hid (HL.out.trans (hb.mono HL.out.size))
  clear hb
  obtain ⟨⟨r0, r1⟩, rf0, rf1⟩ := two_at HR.out
  obtain ⟨nb, e0, e1⟩ := frac_end (x := .string (numS (p - q))) (y := .string (denS (p - q))) HR.out HL.out (by omega)
  go_wp2
  refine bodyPost_ret (v := .agg #[.string (numS (p - q)), .string (denS (p - q))]) (by simp [results, Tryz.results146, go_sem, e0, e1]) rfl ⟨rfl, nb⟩

set_option maxHeartbeats 4000000 in
set_option maxRecDepth 100000 in
theorem fm_mul (p q : Rat) (w : World) (hp : fits p = true) (hq : fits q = true) (hr : fits (p * q) = true) (hE : Env w) : Calls Tryz.prog 143 #[fracV p, fracV q] w fun e w' => e = .returned (fracV (p * q)) ∧ Below w.heap.size w w' := by
  have T1 := Lib.hid (fun W g => mul_any p q W hp hq g)
  have T2 := Lib.hid (fun W => must_ok (p * q) W)
  rw [wroteV_ok hr] at T1
  rw [fracV_is (p * q)] at T1 T2 ⊢
  rw [fracV_is p, fracV_is q] at T1 ⊢
  obtain ⟨_, _, hr', hb⟩ := three_new w (.cells #[.string (numS p), .string (denS p)] 24) (.cells #[.string (numS q), .string (denS q)] 24) (.cells #[.string { data := #[] }, .string { data := #[] }] 24)
  have HR := Lib.hid hr'
  have HL := Lib.hid hb
  have HE := Lib.hid (hE.below hb)
  clear hr' hb hE hp hq hr
  go_enter Tryz.func143, Tryz.ntmps143
  go_wp2_with fail
  refine (T1.out _ HE.out.tab).mono ?_
  rintro e W1 ⟨rfl, hb⟩
  replace HR := Lib.hid (keep_block HR.out hb)
  replace HL := Lib.hid (HL.out.trans (hb.mono HL.out.size))
  clear hb
  go_wp2_with fail
  refine (T2.out _).mono ?_
  rintro e W2 ⟨rfl, hb⟩
  replace HR := Lib.hid (keep_block HR.out hb)
  replace HL := Lib.hid (HL.out.trans (hb.mono HL.out.size))
  clear hb
  obtain ⟨⟨r0, r1⟩, rf0, rf1⟩ := two_at HR.out
  obtain ⟨nb, e0, e1⟩ := frac_end (x := .string (numS (p * q))) (y := .string (denS (p * q))) HR.out HL.out (by omega)
  go_wp2
  refine bodyPost_ret (v := .agg #[.string (numS (p * q)), .string (denS (p * q))]) (by simp [results, Tryz.results143, go_sem, e0, e1]) rfl ⟨rfl, nb⟩

set_option maxHeartbeats 4000000 in
set_option maxRecDepth 100000 in
theorem fm_div (p q : Rat) (w : World) (hp : fits p = true) (hq : fits q = true) (h0 : q ≠ 0) (hr : fits (p / q) = true) (hE : Env w) : Calls Tryz.prog 85 #[fracV p, fracV q] w fun e w' => e = .returned (fracV (p / q)) ∧ Below w.heap.size w w' := by
  have T1 := Lib.hid (fun W g => div_any p q W hp hq h0 g)
  have T2 := Lib.hid (fun W => must_ok (p / q) W)
  rw [wroteV_ok hr] at T1
  rw [fracV_is (p / q)] at T1 T2 ⊢
  rw [fracV_is p, fracV_is q] at T1 ⊢
  obtain ⟨_, _, hr', hb⟩ := three_new w (.cells #[.string (numS p), .string (denS p)] 24) (.cells #[.string (numS q), .string (denS q)] 24) (.cells #[.string { data := #[] }, .string { data := #[] }] 24)
  have HR := Lib.hid hr'
  have HL := Lib.hid hb
  have HE := Lib.hid (hE.below hb)
  clear hr' hb hE hp hq hr
  go_enter Tryz.func85, Tryz.ntmps85
  go_wp2_with fail
  refine (T1.out _ HE.out.tab).mono ?_
  rintro e W1 ⟨rfl, hb⟩
  replace HR := Lib.hid (keep_block HR.out hb)
  replace HL := Lib.hid (HL.out.trans (hb.mono HL.out.size))
  clear hb
  go_wp2_with fail
  refine (T2.out _).mono ?_
  rintro e W2 ⟨rfl, hb⟩
  replace HR := Lib.hid (keep_block HR.out hb)
  replace HL := Lib.hid (HL.out.trans (hb.mono HL.out.size))
  clear hb
  obtain ⟨⟨r0, r1⟩, rf0, rf1⟩ := two_at HR.out
  obtain ⟨nb, e0, e1⟩ := frac_end (x := .string (numS (p / q))) (y := .string (denS (p / q))) HR.out HL.out (by omega)
  go_wp2
  refine bodyPost_ret (v := .agg #[.string (numS (p / q)), .string (denS (p / q))]) (by simp [results, Tryz.results85, go_sem, e0, e1]) rfl ⟨rfl, nb⟩

set_option maxHeartbeats 4000000 in
set_option maxRecDepth 100000 in
theorem fm_div_zero (p : Rat) (w : World) (hp : fits p = true) (_ : Env w) : Calls Tryz.prog 85 #[fracV p, fracV 0] w fun e w' => e = stopped 1 ∧ Below w.heap.size w w' := by
  have T1 := Lib.hid (fun W => div_zero p W hp)
  have T2 := Lib.hid (fun W => must_div W)
  rw [noFrac_is] at T1 T2
  rw [fracV_is p, fracV_is 0] at T1 ⊢
  obtain ⟨_, _, hr', hb⟩ := three_new w (.cells #[.string (numS p), .string (denS p)] 24) (.cells #[.string (numS 0), .string (denS 0)] 24) (.cells #[.string { data := #[] }, .string { data := #[] }] 24)
  have HL := Lib.hid hb
  clear hr' hb hp
  go_enter Tryz.func85, Tryz.ntmps85
  go_wp2_with fail
  refine (T1.out _).mono ?_
  rintro e W1 ⟨rfl, hb⟩
  replace HL := Lib.hid (HL.out.trans (hb.mono HL.out.size))
  clear hb
  go_wp2_with fail
  refine (T2.out _).mono ?_
  rintro e W2 ⟨rfl, hb⟩
  replace HL := Lib.hid (HL.out.trans (hb.mono HL.out.size))
  clear hb
  unfold stopped
  go_wp2
  exact ⟨rfl, rfl, HL.out⟩

set_option maxHeartbeats 4000000 in
set_option maxRecDepth 100000 in
theorem fm_floor (q : Rat) (w : World) (hq : fits q = true) (hr : fits ((q.floor : Int) : Rat) = true) (hE : Env w) : Calls Tryz.prog 67 #[fracV q] w fun e w' => e = .returned (fracV (((q.floor : Int) : Rat))) ∧ Below w.heap.size w w' := by
  have T1 := Lib.hid (fun W g => floor_any q W hq g)
  rw [wroteV_ok hr] at T1
  have T2 := Lib.hid (fun W => must_ok (((q.floor : Int) : Rat)) W)
  rw [fracV_is (((q.floor : Int) : Rat))] at T1 T2 ⊢
  rw [fracV_is q] at T1 ⊢
  obtain ⟨_, hr', hb⟩ := two_new w (.cells #[.string (numS q), .string (denS q)] 24) (.cells #[.string { data := #[] }, .string { data := #[] }] 24)
  have HR := Lib.hid hr'
  have HL := Lib.hid hb
  have HE := Lib.hid (hE.below hb)
  clear hr' hb hE
  go_enter Tryz.func67, Tryz.ntmps67
  go_wp2_with fail
  refine (T1.out _ HE.out.tab).mono ?_
  rintro e W1 ⟨rfl, hb⟩
  replace HR := Lib.hid (keep_block HR.out hb)
  replace HL := Lib.hid (HL.out.trans (hb.mono HL.out.size))
  clear hb
  go_wp2_with fail
  refine (T2.out _).mono ?_
  rintro e W2 ⟨rfl, hb⟩
  replace HR := Lib.hid (keep_block HR.out hb)
  replace HL := Lib.hid (HL.out.trans (hb.mono HL.out.size))
  clear hb
  obtain ⟨⟨r0, r1⟩, rf0, rf1⟩ := two_at HR.out
  obtain ⟨nb, e0, e1⟩ := frac_end (x := .string (numS (((q.floor : Int) : Rat)))) (y := .string (denS (((q.floor : Int) : Rat)))) HR.out HL.out (by omega)
  go_wp2
  refine bodyPost_ret (v := .agg #[.string (numS (((q.floor : Int) : Rat))), .string (denS (((q.floor : Int) : Rat)))]) (by simp [results, Tryz.results67, go_sem, e0, e1]) rfl ⟨rfl, nb⟩

set_option maxHeartbeats 4000000 in
set_option maxRecDepth 100000 in
theorem fm_neg (q : Rat) (w : World) (hq : fits q = true) (hE : Env w) : Calls Tryz.prog 138 #[fracV q] w fun e w' => e = .returned (fracV (-q)) ∧ Below w.heap.size w w' := by
  have T1 := Lib.hid (fun W g => neg_any q W hq g)
  have T2 := Lib.hid (fun W => must_ok (-q) W)
  rw [fracV_is (-q)] at T1 T2 ⊢
  rw [fracV_is q] at T1 ⊢
  obtain ⟨_, hr', hb⟩ := two_new w (.cells #[.string (numS q), .string (denS q)] 24) (.cells #[.string { data := #[] }, .string { data := #[] }] 24)
  have HR := Lib.hid hr'
  have HL := Lib.hid hb
  have HE := Lib.hid (hE.below hb)
  clear hr' hb hE
  go_enter Tryz.func138, Tryz.ntmps138
  go_wp2_with fail
  refine (T1.out _ HE.out.tab).mono ?_
  rintro e W1 ⟨rfl, hb⟩
  replace HR := Lib.hid (keep_block HR.out hb)
  replace HL := Lib.hid (HL.out.trans (hb.mono HL.out.size))
  clear hb
  go_wp2_with fail
  refine (T2.out _).mono ?_
  rintro e W2 ⟨rfl, hb⟩
  replace HR := Lib.hid (keep_block HR.out hb)
  replace HL := Lib.hid (HL.out.trans (hb.mono HL.out.size))
  clear hb
  obtain ⟨⟨r0, r1⟩, rf0, rf1⟩ := two_at HR.out
  obtain ⟨nb, e0, e1⟩ := frac_end (x := .string (numS (-q))) (y := .string (denS (-q))) HR.out HL.out (by omega)
  go_wp2
  refine bodyPost_ret (v := .agg #[.string (numS (-q)), .string (denS (-q))]) (by simp [results, Tryz.results138, go_sem, e0, e1]) rfl ⟨rfl, nb⟩

set_option maxHeartbeats 4000000 in
set_option maxRecDepth 100000 in
theorem fm_sign (q : Rat) (w : World) (hq : fits q = true) (hE : Env w) : Calls Tryz.prog 65 #[fracV q] w fun e w' => e = .returned (.int .i64 (cmpR q 0)) ∧ Below w.heap.size w w' := by
  have T1 := Lib.hid (fun W g => of_any 0 W (by decide) (by decide) g)
  have T2 := Lib.hid (fun W => compare_q q 0 W hq fits_zero)
  rw [show ((0 : Int) : Rat) = 0 from rfl, fracV_is 0] at T1
  rw [fracV_is q, fracV_is 0] at T2
  rw [fracV_is q]
  obtain ⟨cc, hcc⟩ : ∃ c, cmpR q 0 = c := ⟨_, rfl⟩
  rw [hcc] at T2 ⊢
  have hb : Below w.heap.size w (w.alloc (.cells #[.string (numS q), .string (denS q)] 24)) := (Below.refl _ _).alloc (Nat.le_refl _) _
  have HX := Lib.hid (drew_block (heap_alloc_new w (.cells #[.string (numS q), .string (denS q)] 24)))
  have HL := Lib.hid hb.drew
  have HE := Lib.hid (hE.below hb.drew)
  obtain ⟨W0, hW0⟩ : ∃ W0, w.alloc (.cells #[.string (numS q), .string (denS q)] 24) = W0 := ⟨_, rfl⟩
  rw [hW0] at HX HL HE
  have HW := Lib.hid hW0
  clear hb hE hq hcc hW0
  go_enter Tryz.func65, Tryz.ntmps65
  go_wp2_with fail
  rw [HW.out]
  go_region_held3 (fun W => W.cell? ⟨w.heap.size, 0, none⟩ = some (.string (numS q)) ∧ W.cell? ⟨w.heap.size, 1, none⟩ = some (.string (denS q)))
    (first | (with_reducible exact cells2 HX.out) | fail)
    ((first | (go_at_call 15; (with_reducible refine (T1.out _ HE.out.tab).mono ?_); rintro e W1 ⟨rfl, hb⟩; replace HX := Lib.hid (keep_block HX.out hb); replace HL := Lib.hid (HL.out.trans (hb.mono HL.out.size)); clear hb) | (go_at_call 139; (with_reducible refine (T2.out _).mono ?_); rintro e W2 ⟨rfl, hb⟩; replace HX := Lib.hid (keep_block HX.out hb); replace HL := Lib.hid (HL.out.trans (hb.mono HL.out.size)); clear hb)))
  all_goals
    go_wp2
    go_ret
    exact ⟨rfl, HL.out⟩

end Go.Proofs.YtnlaecjniellpaaGreatDoor.Num

/- package fmath: abs, signed, toward, MOD, QUOTIENT where nothing is too long. Conditions: the tables lie as they are laid. -/
namespace Go.Proofs.YtnlaecjniellpaaGreatDoor.Num
open Go.RowKit Go.Lib

theorem cmp_neg {q : Rat} (h : q < 0) : cmpR q 0 = -1 := by
  unfold cmpR
  rw [if_neg (fun e => by rw [e] at h; exact absurd h (by decide)), if_pos h]
theorem cmp_nonneg {q : Rat} (h : ¬ q < 0) : 0 ≤ cmpR q 0 := by
  unfold cmpR
  split <;> first | decide | (rw [if_neg h]; decide)
/-- the absolute value; a number with another one's sign -/
def absR (q : Rat) : Rat := if q < 0 then -q else q
def signedR (p q : Rat) : Rat := if q < 0 then -p else p
def towardR (q : Rat) : Rat := signedR (((absR q).floor : Int) : Rat) q
theorem fits_absR (q : Rat) : fits (absR q) = fits q := fits_abs q
theorem fits_signedR (p q : Rat) : fits (signedR p q) = fits p := by unfold signedR; split <;> simp [fits_neg]

set_option maxHeartbeats 4000000 in
set_option maxRecDepth 100000 in
theorem fm_abs (q : Rat) (w : World) (hq : fits q = true) (hE : Env w) : Calls Tryz.prog 63 #[fracV q] w fun e w' => e = .returned (fracV (absR q)) ∧ Below w.heap.size w w' := by
  have TS := Lib.hid (fun W g => fm_sign q W hq g)
  have TN := Lib.hid (fun W g => fm_neg q W hq g)
  by_cases hlt : q < 0
  · rw [cmp_neg hlt] at TS
    rw [show absR q = -q from if_pos hlt]
    rw [fracV_is (-q), fracV_is q] at TN
    rw [fracV_is q] at TS
    rw [fracV_is (-q), fracV_is q]
    obtain ⟨hx, hr', hb⟩ := two_new w (.cells #[.string (numS q), .string (denS q)] 24) (.cells #[.string { data := #[] }, .string { data := #[] }] 24)
    have HX := Lib.hid hx
    have HR := Lib.hid hr'
    have HL := Lib.hid hb
    have HE := Lib.hid (hE.below hb)
    clear hx hr' hb hE hlt
    go_enter Tryz.func63, Tryz.ntmps63
    go_wp2_with fail
    refine (TS.out _ HE.out).mono ?_
    rintro e W1 ⟨rfl, hb⟩
    replace HX := Lib.hid (keep_block HX.out hb)
    replace HR := Lib.hid (keep_block HR.out hb)
    replace HE := Lib.hid (HE.out.below hb)
    replace HL := Lib.hid (HL.out.trans (hb.mono HL.out.size))
    clear hb
    obtain ⟨⟨x0, x1⟩, xf0, xf1⟩ := two_at HX.out
    go_wp2_with fail
    refine (TN.out _ HE.out).mono ?_
    rintro e W2 ⟨rfl, hb⟩
    replace HR := Lib.hid (keep_block HR.out hb)
    replace HL := Lib.hid (HL.out.trans (hb.mono HL.out.size))
    clear hb
    clear x0 x1 xf0 xf1
    obtain ⟨⟨r0, r1⟩, rf0, rf1⟩ := two_at HR.out
    obtain ⟨nb, e0, e1⟩ := frac_end (x := .string (numS (-q))) (y := .string (denS (-q))) HR.out HL.out (by omega)
    go_wp2
    refine bodyPost_ret (v := .agg #[.string (numS (-q)), .string (denS (-q))]) (by simp [results, Tryz.results63, go_sem, e0, e1]) rfl ⟨rfl, nb⟩

  · have hge := cmp_nonneg hlt
    obtain ⟨cc, hcc⟩ : ∃ c, cmpR q 0 = c := ⟨_, rfl⟩
    rw [hcc] at TS hge
    have hd : decide (cc < 0) = false := decide_eq_false (by omega)
    rw [show absR q = q from if_neg hlt]
    rw [fracV_is q] at TS
    rw [fracV_is q]
    obtain ⟨hx, hr', hb⟩ := two_new w (.cells #[.string (numS q), .string (denS q)] 24) (.cells #[.string { data := #[] }, .string { data := #[] }] 24)
    have HX := Lib.hid hx
    have HR := Lib.hid hr'
    have HL := Lib.hid hb
    have HE := Lib.hid (hE.below hb)
    clear hx hr' hb hE hlt hge hcc TN
    go_enter Tryz.func63, Tryz.ntmps63
    go_wp2_with fail
    refine (TS.out _ HE.out).mono ?_
    rintro e W1 ⟨rfl, hb⟩
    replace HX := Lib.hid (keep_block HX.out hb)
    replace HR := Lib.hid (keep_block HR.out hb)
    replace HE := Lib.hid (HE.out.below hb)
    replace HL := Lib.hid (HL.out.trans (hb.mono HL.out.size))
    clear hb
    obtain ⟨⟨x0, x1⟩, xf0, xf1⟩ := two_at HX.out
    obtain ⟨⟨r0, r1⟩, rf0, rf1⟩ := two_at HR.out
    obtain ⟨nb, e0, e1⟩ := frac_end (x := .string (numS (q))) (y := .string (denS (q))) HR.out HL.out (by omega)
    go_wp2
    refine bodyPost_ret (v := .agg #[.string (numS (q)), .string (denS (q))]) (by simp [results, Tryz.results63, go_sem, e0, e1]) rfl ⟨rfl, nb⟩

set_option maxHeartbeats 4000000 in
set_option maxRecDepth 100000 in
theorem fm_signed (p q : Rat) (w : World) (hp : fits p = true) (hq : fits q = true) (hE : Env w) : Calls Tryz.prog 145 #[fracV p, fracV q] w fun e w' => e = .returned (fracV (signedR p q)) ∧ Below w.heap.size w w' := by
  have TS := Lib.hid (fun W g => fm_sign q W hq g)
  have TN := Lib.hid (fun W g => fm_neg p W hp g)
  by_cases hlt : q < 0
  · rw [cmp_neg hlt] at TS
    rw [show signedR p q = -p from if_pos hlt]
    rw [fracV_is (-p), fracV_is p] at TN
    rw [fracV_is q] at TS
    rw [fracV_is (-p), fracV_is p, fracV_is q]
    obtain ⟨hx, hy, hr', hb⟩ := three_new w (.cells #[.string (numS p), .string (denS p)] 24) (.cells #[.string (numS q), .string (denS q)] 24) (.cells #[.string { data := #[] }, .string { data := #[] }] 24)
    have HX := Lib.hid hx
    have HR := Lib.hid hr'
    have HL := Lib.hid hb
    have HE := Lib.hid (hE.below hb)
    clear hx hr' hb hE hlt
    go_enter Tryz.func145, Tryz.ntmps145
    go_wp2_with fail
    refine (TS.out _ HE.out).mono ?_
    rintro e W1 ⟨rfl, hb⟩
    replace HX := Lib.hid (keep_block HX.out hb)
    replace HR := Lib.hid (keep_block HR.out hb)
    replace HE := Lib.hid (HE.out.below hb)
    replace HL := Lib.hid (HL.out.trans (hb.mono HL.out.size))
    clear hb
    obtain ⟨⟨x0, x1⟩, xf0, xf1⟩ := two_at HX.out
    go_wp2_with fail
    refine (TN.out _ HE.out).mono ?_
    rintro e W2 ⟨rfl, hb⟩
    replace HR := Lib.hid (keep_block HR.out hb)
    replace HL := Lib.hid (HL.out.trans (hb.mono HL.out.size))
    clear hb
    clear x0 x1 xf0 xf1
    obtain ⟨⟨r0, r1⟩, rf0, rf1⟩ := two_at HR.out
    obtain ⟨nb, e0, e1⟩ := frac_end (x := .string (numS (-p))) (y := .string (denS (-p))) HR.out HL.out (by omega)
    go_wp2
    refine bodyPost_ret (v := .agg #[.string (numS (-p)), .string (denS (-p))]) (by simp [results, Tryz.results145, go_sem, e0, e1]) rfl ⟨rfl, nb⟩

  · have hge := cmp_nonneg hlt
    obtain ⟨cc, hcc⟩ : ∃ c, cmpR q 0 = c := ⟨_, rfl⟩
    rw [hcc] at TS hge
    have hd : decide (cc < 0) = false := decide_eq_false (by omega)
    rw [show signedR p q = p from if_neg hlt]
    rw [fracV_is q] at TS
    rw [fracV_is q, fracV_is p]
    obtain ⟨hx, hy, hr', hb⟩ := three_new w (.cells #[.string (numS p), .string (denS p)] 24) (.cells #[.string (numS q), .string (denS q)] 24) (.cells #[.string { data := #[] }, .string { data := #[] }] 24)
    have HX := Lib.hid hx
    have HR := Lib.hid hr'
    have HL := Lib.hid hb
    have HE := Lib.hid (hE.below hb)
    clear hx hr' hb hE hlt hge hcc TN
    go_enter Tryz.func145, Tryz.ntmps145
    go_wp2_with fail
    refine (TS.out _ HE.out).mono ?_
    rintro e W1 ⟨rfl, hb⟩
    replace HX := Lib.hid (keep_block HX.out hb)
    replace HR := Lib.hid (keep_block HR.out hb)
    replace HE := Lib.hid (HE.out.below hb)
    replace HL := Lib.hid (HL.out.trans (hb.mono HL.out.size))
    clear hb
    obtain ⟨⟨x0, x1⟩, xf0, xf1⟩ := two_at HX.out
    obtain ⟨⟨r0, r1⟩, rf0, rf1⟩ := two_at HR.out
    obtain ⟨nb, e0, e1⟩ := frac_end (x := .string (numS (p))) (y := .string (denS (p))) HR.out HL.out (by omega)
    go_wp2
    refine bodyPost_ret (v := .agg #[.string (numS (p)), .string (denS (p))]) (by simp [results, Tryz.results145, go_sem, e0, e1]) rfl ⟨rfl, nb⟩

set_option maxHeartbeats 4000000 in
set_option maxRecDepth 100000 in
theorem fm_toward (q : Rat) (w : World) (hq : fits q = true) (hr : fits (((absR q).floor : Int) : Rat) = true) (hE : Env w) : Calls Tryz.prog 84 #[fracV q] w fun e w' => e = .returned (fracV (towardR q)) ∧ Below w.heap.size w w' := by
  have TA := Lib.hid (fun W g => fm_abs q W hq g)
  have TF := Lib.hid (fun W g => fm_floor (absR q) W (by rw [fits_absR]; exact hq) hr g)
  have TS := Lib.hid (fun W g => fm_signed (((absR q).floor : Int) : Rat) q W hr hq g)
  rw [show signedR (((absR q).floor : Int) : Rat) q = towardR q from rfl] at TS
  rw [fracV_is (absR q)] at TA TF
  rw [fracV_is (((absR q).floor : Int) : Rat)] at TF TS
  rw [fracV_is (towardR q)] at TS ⊢
  rw [fracV_is q] at TA TS ⊢
  obtain ⟨hx, hr', hb⟩ := two_new w (.cells #[.string (numS q), .string (denS q)] 24) (.cells #[.string { data := #[] }, .string { data := #[] }] 24)
  have HX := Lib.hid (drew_block hx)
  have HR := Lib.hid (drew_block hr')
  have HL := Lib.hid hb.drew
  have HE := Lib.hid (hE.below hb.drew)
  obtain ⟨W0, hW0⟩ : ∃ W0, (w.alloc (.cells #[.string (numS q), .string (denS q)] 24)).alloc (.cells #[.string { data := #[] }, .string { data := #[] }] 24) = W0 := ⟨_, rfl⟩
  rw [hW0] at HX HL HE HR
  have HW := Lib.hid hW0
  clear hx hr' hb hE hq hW0 hr
  go_enter Tryz.func84, Tryz.ntmps84
  go_wp2_with fail
  rw [HW.out]
  go_region_held3 (fun W => W.cell? ⟨w.heap.size, 0, none⟩ = some (.string (numS q)) ∧ W.cell? ⟨w.heap.size, 1, none⟩ = some (.string (denS q)))
    (first | (with_reducible exact cells2 HX.out) | (with_reducible exact cells2 ((set2_other _ _ _ _ (by omega)).trans HX.out)) | fail)
    ((first | (go_at_call 63; (with_reducible refine (TA.out _ HE.out).mono ?_); rintro e W1 ⟨rfl, hb⟩; replace HX := Lib.hid (keep_block HX.out hb); replace HR := Lib.hid (keep_block HR.out hb); replace HE := Lib.hid (HE.out.below hb); replace HL := Lib.hid (HL.out.trans (hb.mono HL.out.size)); clear hb) | (go_at_call 67; (with_reducible refine (TF.out _ HE.out).mono ?_); rintro e W2 ⟨rfl, hb⟩; replace HX := Lib.hid (keep_block HX.out hb); replace HR := Lib.hid (keep_block HR.out hb); replace HE := Lib.hid (HE.out.below hb); replace HL := Lib.hid (HL.out.trans (hb.mono HL.out.size)); clear hb) | (go_at_call 145; (with_reducible refine (TS.out _ HE.out).mono ?_); rintro e W3 ⟨rfl, hb⟩; replace HX := Lib.hid (keep_block HX.out hb); replace HR := Lib.hid (keep_block HR.out hb); replace HE := Lib.hid (HE.out.below hb); replace HL := Lib.hid (HL.out.trans (hb.mono HL.out.size)); clear hb; obtain ⟨⟨r0, r1⟩, rf0, rf1⟩ := two_at HR.out)))
  obtain ⟨nb, e0, e1⟩ := frac_end (x := .string (numS (towardR q))) (y := .string (denS (towardR q))) HR.out HL.out (by omega)
  go_wp2
  refine bodyPost_ret (v := .agg #[.string (numS (towardR q)), .string (denS (towardR q))]) (by simp [results, Tryz.results84, go_sem, e0, e1]) rfl ⟨rfl, nb⟩

end Go.Proofs.YtnlaecjniellpaaGreatDoor.Num

/- package fmath: MOD and QUOTIENT at two numbers. Conditions: nothing is too long; the tables lie as they are laid. -/
namespace Go.Proofs.YtnlaecjniellpaaGreatDoor.Num
open Go.RowKit Go.Lib

/-- what a function of the table leaves -/
def FnRet (P : Ending → Prop) (b : Nat) (W : World) (e : Ending) (w' : World) : Prop := P e ∧ W.grownBy w' (some b)
theorem vals_num {W : World} {g : Nat} {vs : List Val} (h : ValsAt W g 0 vs) (i : Nat) (hi : i < vs.length) (q : Rat) (hq : vs[i] = numVal' q) : NumCells W g (0 + i * 9) q := by
  have := h.at i hi
  rw [hq] at this
  exact this
theorem kept2 {w W : World} {b R : Nat} (h : w.grownBy W (some b)) (hge : w.heap.size ≤ R) (x y : Value) : w.grownBy ((W.setCell ⟨R, 0, none⟩ x).setCell ⟨R, 1, none⟩ y) (some b) :=
  only_setCell (p := ⟨R, 1, none⟩) (only_setCell (p := ⟨R, 0, none⟩) h (.inr hge) x) (.inr hge) y
theorem NumCells.below {w w' : World} {ab ao : Nat} {q : Rat} (h : NumCells w ab ao q) (hb : Below w.heap.size w w') : NumCells w' ab ao q := CellsAt.below h hb
theorem NumCells.kept {w w' : World} {ab ao b : Nat} {q : Rat} (h : NumCells w ab ao q) (hg : w.grownBy w' (some b)) (hne : ab ≠ b) : NumCells w' ab ao q := CellsAt.kept h hg hne
set_option maxHeartbeats 4000000 in
set_option maxRecDepth 100000 in
theorem fn_quot (p q : Rat) (b g L C : Nat) (W : World) (hp : fits p = true) (hq : fits q = true) (h0 : q ≠ 0) (h1 : fits (p / q) = true) (h2 : fits (((absR (p / q)).floor : Int) : Rat) = true) (ha : ArgsAt W b (some ⟨g, 0, none⟩) L C 0) (hL : 2 ≤ L) (hL2 : L ≤ 1000000000) (hne : g ≠ b) (hc1 : NumCells W g (0 + 0 * 9) p) (hc2 : NumCells W g (0 + 1 * 9) q) (hE : Env W) (hP : Past b) :
    Calls Tryz.prog 83 #[.pointer (some ⟨b, 0, none⟩)] W fun e w' => e = .returned (fracV (towardR (p / q))) ∧ W.grownBy w' (some b) := by
  have TD := Lib.hid (fun W g => fm_div p q W hp hq h0 h1 g)
  have TT := Lib.hid (fun W g => fm_toward (p / q) W h1 h2 g)
  rw [fracV_is p, fracV_is q, fracV_is (p / q)] at TD
  rw [fracV_is (p / q), fracV_is (towardR (p / q))] at TT
  rw [fracV_is (towardR (p / q))]
  have hb : Below W.heap.size W (W.alloc (.cells #[.string { data := #[] }, .string { data := #[] }] 24)) := (Below.refl _ _).alloc (Nat.le_refl _) _
  have HR := Lib.hid (heap_alloc_new W (.cells #[.string { data := #[] }, .string { data := #[] }] 24))
  have HA := Lib.hid (show ArgsAt (W.alloc (.cells #[.string { data := #[] }, .string { data := #[] }] 24)) b (some ⟨g, 0, none⟩) L C 0 from keep_block ha hb)
  have HC1 := Lib.hid (NumCells.below hc1 hb)
  have HC2 := Lib.hid (NumCells.below hc2 hb)
  have HE := Lib.hid (hE.below hb)
  have HG := Lib.hid (kept_below (b := b) hb)
  have NE := Lib.hid (show W.heap.size ≠ b from Nat.ne_of_gt (heap_lt ha))
  have HP := Lib.hid hP
  have TN1 := Lib.hid (fun W' ga gc ge => argNum_any b g 0 L C 0 p W' ga (by omega) hL2 hne gc hp ge hP)
  have TN2 := Lib.hid (fun W' ga gc ge => argNum_any b g 0 L C 1 q W' ga (by omega) hL2 hne gc hq ge hP)
  have NG := Lib.hid hne
  rw [fracV_is p] at TN1
  rw [fracV_is q] at TN2
  clear hb hE ha hc1 hc2 hP hne hL hL2 hp hq h0 h1 h2
  go_enter Tryz.func83, Tryz.ntmps83
  go_wp2_with fail
  refine (TN1.out _ HA.out HC1.out HE.out).mono ?_
  rintro e W1 ⟨rfl, ha, hg⟩
  replace HA := Lib.hid ha
  replace HR := Lib.hid (kept_block HR.out hg NE.out)
  replace HC2 := Lib.hid (HC2.out.kept hg NG.out)
  replace HE := Lib.hid (HE.out.kept hg HP.out)
  replace HG := Lib.hid (kept_trans HG.out hg)
  clear ha hg
  go_wp2_with fail
  refine (TN2.out _ HA.out HC2.out HE.out).mono ?_
  rintro e W2 ⟨rfl, ha, hg⟩
  replace HR := Lib.hid (kept_block HR.out hg NE.out)
  replace HE := Lib.hid (HE.out.kept hg HP.out)
  replace HG := Lib.hid (kept_trans HG.out hg)
  clear ha hg
  go_wp2_with fail
  refine (TD.out _ HE.out).mono ?_
  rintro e W3 ⟨rfl, hb⟩
  replace HR := Lib.hid (keep_block HR.out hb)
  replace HE := Lib.hid (HE.out.below hb)
  replace HG := Lib.hid (kept_trans HG.out (kept_below hb))
  clear hb
  go_wp2_with fail
  refine (TT.out _ HE.out).mono ?_
  rintro e W4 ⟨rfl, hb⟩
  replace HR := Lib.hid (keep_block HR.out hb)
  replace HG := Lib.hid (kept_trans HG.out (kept_below hb))
  clear hb
  obtain ⟨⟨r0, r1⟩, rf0, rf1⟩ := two_at HR.out
  have hF := set2_at HR.out (.string (numS (towardR (p / q)))) (.string (denS (towardR (p / q))))
  obtain ⟨⟨e0, e1⟩, _⟩ := two_at hF
  have HG2 := Lib.hid (kept2 HG.out (Nat.le_refl _) (.string (numS (towardR (p / q)))) (.string (denS (towardR (p / q)))))
  clear hF
  go_wp2
  refine bodyPost_ret (v := .agg #[.string (numS (towardR (p / q))), .string (denS (towardR (p / q)))]) (by simp [results, Tryz.results83, go_sem, e0, e1]) rfl ⟨rfl, HG2.out⟩

set_option maxHeartbeats 4000000 in
set_option maxRecDepth 100000 in
theorem fn_quot_zero (p : Rat) (b g L C : Nat) (W : World) (hp : fits p = true) (ha : ArgsAt W b (some ⟨g, 0, none⟩) L C 0) (hL : 2 ≤ L) (hL2 : L ≤ 1000000000) (hne : g ≠ b) (hc1 : NumCells W g (0 + 0 * 9) p) (hc2 : NumCells W g (0 + 1 * 9) 0) (hE : Env W) (hP : Past b) :
    Calls Tryz.prog 83 #[.pointer (some ⟨b, 0, none⟩)] W fun e w' => e = stopped 1 ∧ W.grownBy w' (some b) := by
  obtain ⟨q, hq0⟩ : ∃ q : Rat, q = 0 := ⟨_, rfl⟩
  rw [← hq0] at hc2
  have hq : fits q = true := by rw [hq0]; exact fits_zero
  have TD := Lib.hid (fun W g => fm_div_zero p W hp g)
  rw [← hq0] at TD
  rw [fracV_is p, fracV_is q] at TD
  have hb : Below W.heap.size W (W.alloc (.cells #[.string { data := #[] }, .string { data := #[] }] 24)) := (Below.refl _ _).alloc (Nat.le_refl _) _
  have HR := Lib.hid (heap_alloc_new W (.cells #[.string { data := #[] }, .string { data := #[] }] 24))
  have HA := Lib.hid (show ArgsAt (W.alloc (.cells #[.string { data := #[] }, .string { data := #[] }] 24)) b (some ⟨g, 0, none⟩) L C 0 from keep_block ha hb)
  have HC1 := Lib.hid (NumCells.below hc1 hb)
  have HC2 := Lib.hid (NumCells.below hc2 hb)
  have HE := Lib.hid (hE.below hb)
  have HG := Lib.hid (kept_below (b := b) hb)
  have NE := Lib.hid (show W.heap.size ≠ b from Nat.ne_of_gt (heap_lt ha))
  have HP := Lib.hid hP
  have TN1 := Lib.hid (fun W' ga gc ge => argNum_any b g 0 L C 0 p W' ga (by omega) hL2 hne gc hp ge hP)
  have TN2 := Lib.hid (fun W' ga gc ge => argNum_any b g 0 L C 1 q W' ga (by omega) hL2 hne gc hq ge hP)
  have NG := Lib.hid hne
  rw [fracV_is p] at TN1
  rw [fracV_is q] at TN2
  clear hb hE ha hc1 hc2 hP hne hL hL2 hp hq hq0
  go_enter Tryz.func83, Tryz.ntmps83
  go_wp2_with fail
  refine (TN1.out _ HA.out HC1.out HE.out).mono ?_
  rintro e W1 ⟨rfl, ha, hg⟩
  replace HA := Lib.hid ha
  replace HR := Lib.hid (kept_block HR.out hg NE.out)
  replace HC2 := Lib.hid (HC2.out.kept hg NG.out)
  replace HE := Lib.hid (HE.out.kept hg HP.out)
  replace HG := Lib.hid (kept_trans HG.out hg)
  clear ha hg
  go_wp2_with fail
  refine (TN2.out _ HA.out HC2.out HE.out).mono ?_
  rintro e W2 ⟨rfl, ha, hg⟩
  replace HR := Lib.hid (kept_block HR.out hg NE.out)
  replace HE := Lib.hid (HE.out.kept hg HP.out)
  replace HG := Lib.hid (kept_trans HG.out hg)
  clear ha hg
  go_wp2_with fail
  refine (TD.out _ HE.out).mono ?_
  rintro e W3 ⟨rfl, hb⟩
  replace HG := Lib.hid (kept_trans HG.out (kept_below hb))
  clear hb
  unfold stopped
  go_wp2
  exact ⟨rfl, rfl, HG.out⟩

set_option maxHeartbeats 4000000 in
set_option maxRecDepth 100000 in
theorem fn_mod (p q : Rat) (b g L C : Nat) (W : World) (hp : fits p = true) (hq : fits q = true) (h0 : q ≠ 0) (h1 : fits (p / q) = true) (h2 : fits (((p / q).floor : Int) : Rat) = true) (h3 : fits (q * (((p / q).floor : Int) : Rat)) = true) (h4 : fits (p - q * (((p / q).floor : Int) : Rat)) = true) (ha : ArgsAt W b (some ⟨g, 0, none⟩) L C 0) (hL : 2 ≤ L) (hL2 : L ≤ 1000000000) (hne : g ≠ b) (hc1 : NumCells W g (0 + 0 * 9) p) (hc2 : NumCells W g (0 + 1 * 9) q) (hE : Env W) (hP : Past b) :
    Calls Tryz.prog 82 #[.pointer (some ⟨b, 0, none⟩)] W fun e w' => e = .returned (fracV (p - q * (((p / q).floor : Int) : Rat))) ∧ W.grownBy w' (some b) := by
  have TD := Lib.hid (fun W g => fm_div p q W hp hq h0 h1 g)
  have TF := Lib.hid (fun W g => fm_floor (p / q) W h1 h2 g)
  have TM := Lib.hid (fun W g => fm_mul q (((p / q).floor : Int) : Rat) W hq h2 h3 g)
  have TS := Lib.hid (fun W g => fm_sub p (q * (((p / q).floor : Int) : Rat)) W hp h3 h4 g)
  obtain ⟨rr, hrr⟩ : ∃ z, p - q * (((p / q).floor : Int) : Rat) = z := ⟨_, rfl⟩
  rw [hrr] at TS ⊢
  obtain ⟨mm, hmm⟩ : ∃ z, q * (((p / q).floor : Int) : Rat) = z := ⟨_, rfl⟩
  rw [hmm] at TM TS
  obtain ⟨ff, hff⟩ : ∃ z, (((p / q).floor : Int) : Rat) = z := ⟨_, rfl⟩
  rw [hff] at TF TM
  obtain ⟨dd, hdd⟩ : ∃ z, p / q = z := ⟨_, rfl⟩
  rw [hdd] at TD TF
  rw [fracV_is p, fracV_is q, fracV_is dd] at TD
  rw [fracV_is dd, fracV_is ff] at TF
  rw [fracV_is q, fracV_is ff, fracV_is mm] at TM
  rw [fracV_is p, fracV_is mm, fracV_is rr] at TS
  rw [fracV_is rr]
  have hb : Below W.heap.size W (W.alloc (.cells #[.string { data := #[] }, .string { data := #[] }] 24)) := (Below.refl _ _).alloc (Nat.le_refl _) _
  have HR := Lib.hid (heap_alloc_new W (.cells #[.string { data := #[] }, .string { data := #[] }] 24))
  have HA := Lib.hid (show ArgsAt (W.alloc (.cells #[.string { data := #[] }, .string { data := #[] }] 24)) b (some ⟨g, 0, none⟩) L C 0 from keep_block ha hb)
  have HC1 := Lib.hid (NumCells.below hc1 hb)
  have HC2 := Lib.hid (NumCells.below hc2 hb)
  have HE := Lib.hid (hE.below hb)
  have HG := Lib.hid (kept_below (b := b) hb)
  have NE := Lib.hid (show W.heap.size ≠ b from Nat.ne_of_gt (heap_lt ha))
  have HP := Lib.hid hP
  have TN1 := Lib.hid (fun W' ga gc ge => argNum_any b g 0 L C 0 p W' ga (by omega) hL2 hne gc hp ge hP)
  have TN2 := Lib.hid (fun W' ga gc ge => argNum_any b g 0 L C 1 q W' ga (by omega) hL2 hne gc hq ge hP)
  have NG := Lib.hid hne
  rw [fracV_is p] at TN1
  rw [fracV_is q] at TN2
  clear hb hE ha hc1 hc2 hP hne hL hL2 hp hq h0 h1 h2 h3 h4 hrr hmm hff hdd
  go_enter Tryz.func82, Tryz.ntmps82
  go_wp2_with fail
  refine (TN1.out _ HA.out HC1.out HE.out).mono ?_
  rintro e W1 ⟨rfl, ha, hg⟩
  replace HA := Lib.hid ha
  replace HR := Lib.hid (kept_block HR.out hg NE.out)
  replace HC2 := Lib.hid (HC2.out.kept hg NG.out)
  replace HE := Lib.hid (HE.out.kept hg HP.out)
  replace HG := Lib.hid (kept_trans HG.out hg)
  clear ha hg
  go_wp2_with fail
  refine (TN2.out _ HA.out HC2.out HE.out).mono ?_
  rintro e W2 ⟨rfl, ha, hg⟩
  replace HR := Lib.hid (kept_block HR.out hg NE.out)
  replace HE := Lib.hid (HE.out.kept hg HP.out)
  replace HG := Lib.hid (kept_trans HG.out hg)
  clear ha hg
  have hb : Below W2.heap.size W2 ((W2.alloc (.cells #[.string (numS p), .string (denS p)] 24)).alloc (.cells #[.string (numS q), .string (denS q)] 24)) := ((Below.refl _ _).alloc (Nat.le_refl _) _).alloc (by simp) _
  obtain ⟨hx, hy, _⟩ := two_new W2 (.cells #[.string (numS p), .string (denS p)] 24) (.cells #[.string (numS q), .string (denS q)] 24)
  obtain ⟨W3, hW3⟩ : ∃ W3, (W2.alloc (.cells #[.string (numS p), .string (denS p)] 24)).alloc (.cells #[.string (numS q), .string (denS q)] 24) = W3 := ⟨_, rfl⟩
  rw [hW3] at hb hx hy
  have NX := Lib.hid (heap_lt HR.out)
  have HX := Lib.hid (drew_block hx)
  have HY := Lib.hid (drew_block hy)
  replace HR := Lib.hid (drew_block (keep_block HR.out hb))
  replace HE := Lib.hid (HE.out.below hb.drew)
  replace HG := Lib.hid (kept_drew (kept_trans HG.out (kept_below hb)))
  have HW := Lib.hid hW3
  clear hb hx hy hW3
  go_wp2_with fail
  rw [HW.out]
  go_region_held3 (fun Z => Z.cell? ⟨W2.heap.size, 0, none⟩ = some (.string (numS p)) ∧ Z.cell? ⟨W2.heap.size, 1, none⟩ = some (.string (denS p)) ∧ Z.cell? ⟨W2.heap.size + 1, 0, none⟩ = some (.string (numS q)) ∧ Z.cell? ⟨W2.heap.size + 1, 1, none⟩ = some (.string (denS q)))
    (first | (with_reducible exact cells4 HX.out HY.out) | (with_reducible exact cells4 ((set2_other _ _ _ _ (by have := NX.out; omega)).trans HX.out) ((set2_other _ _ _ _ (by have := NX.out; omega)).trans HY.out)) | fail)
    ((first | (go_at_call 85; (with_reducible refine (TD.out _ HE.out).mono ?_); rintro e V1 ⟨rfl, hb⟩; replace HX := Lib.hid (keep_block HX.out hb); replace HY := Lib.hid (keep_block HY.out hb); replace HR := Lib.hid (keep_block HR.out hb); replace HE := Lib.hid (HE.out.below hb); replace HG := Lib.hid (kept_trans HG.out (kept_below hb)); clear hb) | (go_at_call 67; (with_reducible refine (TF.out _ HE.out).mono ?_); rintro e V2 ⟨rfl, hb⟩; replace HX := Lib.hid (keep_block HX.out hb); replace HY := Lib.hid (keep_block HY.out hb); replace HR := Lib.hid (keep_block HR.out hb); replace HE := Lib.hid (HE.out.below hb); replace HG := Lib.hid (kept_trans HG.out (kept_below hb)); clear hb) | (go_at_call 143; (with_reducible refine (TM.out _ HE.out).mono ?_); rintro e V3 ⟨rfl, hb⟩; replace HX := Lib.hid (keep_block HX.out hb); replace HY := Lib.hid (keep_block HY.out hb); replace HR := Lib.hid (keep_block HR.out hb); replace HE := Lib.hid (HE.out.below hb); replace HG := Lib.hid (kept_trans HG.out (kept_below hb)); clear hb) | (go_at_call 146; (with_reducible refine (TS.out _ HE.out).mono ?_); rintro e V4 ⟨rfl, hb⟩; replace HX := Lib.hid (keep_block HX.out hb); replace HY := Lib.hid (keep_block HY.out hb); replace HR := Lib.hid (keep_block HR.out hb); replace HE := Lib.hid (HE.out.below hb); replace HG := Lib.hid (kept_trans HG.out (kept_below hb)); clear hb; obtain ⟨⟨r0, r1⟩, rf0, rf1⟩ := two_at HR.out)))
  obtain ⟨⟨r0, r1⟩, rf0, rf1⟩ := two_at HR.out
  have hF := set2_at HR.out (.string (numS (rr))) (.string (denS (rr)))
  obtain ⟨⟨e0, e1⟩, _⟩ := two_at hF
  have HG2 := Lib.hid (kept2 HG.out (Nat.le_refl _) (.string (numS (rr))) (.string (denS (rr))))
  clear hF
  go_wp2
  refine bodyPost_ret (v := .agg #[.string (numS (rr)), .string (denS (rr))]) (by simp [results, Tryz.results82, go_sem, e0, e1]) rfl ⟨rfl, HG2.out⟩

end Go.Proofs.YtnlaecjniellpaaGreatDoor.Num
