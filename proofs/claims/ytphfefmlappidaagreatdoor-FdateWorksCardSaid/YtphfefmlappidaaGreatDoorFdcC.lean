/- Numbers as texts of digits, fractions, values and the functions of fmath: contracts of the program's functions, joined from smaller texts. Conditions stand at each theorem. -/
import Derived.Test.YtphfefmlappidaaGreatDoorFdcB
import Derived.Test.YtphfefmlappidaaGreatDoorNumH
import Derived.Test.YtphfefmlappidaaGreatDoorNumG
import Derived.Test.YtphfefmlappidaaGreatDoorFdcA

/- package value: Run at a row of fdate's table. Conditions: the tables lie as they are laid. -/
namespace Go.Proofs.YtphfefmlappidaaGreatDoor.Num.Fd
open Go.RowKit Go.Lib Go.MapKept Num

/-- cell e holds the row's function, wrapped or bare -/
def FnAt (W : World) (e : Nat) (r : Row) : Prop :=
  if r.num then ∃ f, W.cell? ⟨e, 0, none⟩ = some (.func (.func 274) #[] #[.pointer (some ⟨f, 0, none⟩)]) ∧ W.cell? ⟨f, 0, none⟩ = some (.func (.func r.fn) #[] #[])
  else W.cell? ⟨e, 0, none⟩ = some (.func (.func r.fn) #[] #[])
theorem rowFn_at {w : World} {v : Value} {r : Row} (h : RowFn w v r) : ∃ e, v = .func (.func 278) #[] #[.pointer (some ⟨e, 0, none⟩)] ∧ FnAt w e r := by
  unfold RowFn at h
  unfold FnAt
  split at h
  · rename_i hn
    obtain ⟨e, f, h1, h2, h3⟩ := h
    exact ⟨e, h1, by rw [if_pos hn]; exact ⟨f, h2, h3⟩⟩
  · rename_i hn
    obtain ⟨e, h1, h2⟩ := h
    exact ⟨e, h1, by rw [if_neg hn]; exact h2⟩
theorem FnAt.below {w w' : World} {e : Nat} {r : Row} (h : FnAt w e r) (hb : Below w.heap.size w w') : FnAt w' e r := by
  unfold FnAt at h ⊢
  split at h
  · rename_i hn
    obtain ⟨f, h1, h2⟩ := h
    rw [if_pos hn]
    exact ⟨f, cell_below h1 hb, cell_below h2 hb⟩
  · rename_i hn
    rw [if_neg hn]
    exact cell_below h hb
attribute [local go_sem] run_store_func

set_option maxHeartbeats 8000000 in
set_option maxRecDepth 100000 in
theorem run_a_val (i : Nat) (r : Row) (hi : i < allRows.length) (hr : allRows[i] = r) (hkd : r.kinds = { data := #[97] }) (hfr : ∀ j (hj : j < i), (allRows[i].name == (allRows[j]'(by omega)).name) = false) (vs : List Val) (b ab ao C : Nat) (q : Val) (w : World) (h0 : 0 < vs.length) (h9 : vs.length ≤ 300) (hc1 : r.least ≤ vs.length) (hc2 : (vs.length : Int) ≤ r.most) (hv : ValsAt w ab ao vs) (hE : Env w) (hT : TableAt w b allRows) (hq : q.A = none ∧ q.L = 0 ∧ q.C = 0 ∧ q.r = 0 ∧ q.s = 0)
    (hO : ∀ W, Env W → Calls Tryz.prog 48 #[q.agg] W fun e w' => e = .returned (.int .i64 0) ∧ Below W.heap.size W w') 
    (hC : ∀ v ∈ vs, ∀ W, Below w.heap.size w W → Calls Tryz.prog 48 #[v.agg] W fun e w' => e = .returned (.int .i64 0) ∧ Below W.heap.size W w')
    (hK : ∀ W e g cap, Below w.heap.size w W → Env W → FnAt W e r → ValsAt W g 0 vs → Calls Tryz.prog 278 #[.slice (some ⟨g, 0, none⟩) vs.length cap, .pointer (some ⟨e, 0, none⟩)] W fun e w' => e = .returned q.agg ∧ Below W.heap.size W w') :
    Calls Tryz.prog 50 #[.map (some b), .string r.name, .slice (some ⟨ab, ao, none⟩) vs.length C] w fun e w' => e = .returned (.tuple #[(q).agg, .int .i64 0]) ∧ Below w.heap.size w w' := by
  have hb : Below w.heap.size w (w.alloc (.cells #[.int .i64 0, .string { data := #[] }, .string { data := #[] }, .string { data := #[] }, .bool false, .int .i64 0, .int .i64 0, .int .i64 0, .slice none 0 0] 30)) := (Below.refl _ _).alloc (Nat.le_refl _) _
  have HR := Lib.hid (heap_alloc_new w (.cells #[.int .i64 0, .string { data := #[] }, .string { data := #[] }, .string { data := #[] }, .bool false, .int .i64 0, .int .i64 0, .int .i64 0, .slice none 0 0] 30))
  obtain ⟨v, hrf, hrun⟩ := (hT.below hb).look i hi hfr Tryz.underlying79 Tryz.underlying9
  rw [hr] at hrf hrun
  obtain ⟨e0, rfl, hfn⟩ := rowFn_at hrf
  obtain ⟨name, least, most, kinds, num, F⟩ := r
  simp only at hkd hc1 hc2
  subst hkd
  simp only at hrun ⊢
  have HV := Lib.hid (hv.below hb)
  have HE := Lib.hid (hE.below hb)
  have HL := Lib.hid hb
  have HFN := Lib.hid hfn
  have d1 : decide ((vs.length : Int) < least) = false := decide_eq_false (by omega)
  have d2 : decide (most < (vs.length : Int)) = false := decide_eq_false (by omega)
  have hmf : ∀ (fn : Fn) (first cap : Array Value) (w : World), (Instr.makeFunc fn first cap).run Tryz.prog w = .ok (.func fn first cap) w := fun _ _ _ _ => rfl
  have hb : Below (w.alloc (.cells #[.int .i64 0, .string { data := #[] }, .string { data := #[] }, .string { data := #[] }, .bool false, .int .i64 0, .int .i64 0, .int .i64 0, .slice none 0 0] 30)).heap.size (w.alloc (.cells #[.int .i64 0, .string { data := #[] }, .string { data := #[] }, .string { data := #[] }, .bool false, .int .i64 0, .int .i64 0, .int .i64 0, .slice none 0 0] 30)) ((w.alloc (.cells #[.int .i64 0, .string { data := #[] }, .string { data := #[] }, .string { data := #[] }, .bool false, .int .i64 0, .int .i64 0, .int .i64 0, .slice none 0 0] 30)).alloc (.cells #[.int .i64 least, .int .i64 most, .string { data := #[97] }, .func (.func 278) #[] #[.pointer (some ⟨e0, 0, none⟩)]] 109)) := (Below.refl _ _).alloc (Nat.le_refl _) _
  have HX := Lib.hid (Lib.cell_of_heap (heap_alloc_new (w.alloc (.cells #[.int .i64 0, .string { data := #[] }, .string { data := #[] }, .string { data := #[] }, .bool false, .int .i64 0, .int .i64 0, .int .i64 0, .slice none 0 0] 30)) (.cells #[.int .i64 least, .int .i64 most, .string { data := #[97] }, .func (.func 278) #[] #[.pointer (some ⟨e0, 0, none⟩)]] 109)) 3)
  replace HR := Lib.hid (keep_block HR.out hb)
  replace HV := Lib.hid (HV.out.below hb)
  replace HE := Lib.hid (HE.out.below hb)
  replace HL := Lib.hid (HL.out.trans (hb.mono HL.out.size))
  replace HFN := Lib.hid (HFN.out.below hb)
  have hpos : (w.alloc (.cells #[.int .i64 0, .string { data := #[] }, .string { data := #[] }, .string { data := #[] }, .bool false, .int .i64 0, .int .i64 0, .int .i64 0, .slice none 0 0] 30)).heap.size = w.heap.size + 1 := by simp
  rw [hpos] at HX
  have TL := Lib.hid (lift_a vs ab ao C (w.heap.size + 1) (q) ((w.alloc (.cells #[.int .i64 0, .string { data := #[] }, .string { data := #[] }, .string { data := #[] }, .bool false, .int .i64 0, .int .i64 0, .int .i64 0, .slice none 0 0] 30)).alloc (.cells #[.int .i64 least, .int .i64 most, .string { data := #[97] }, .func (.func 278) #[] #[.pointer (some ⟨e0, 0, none⟩)]] 109)) h0 h9 HV.out HE.out ⟨hq.1, hq.2.1, hq.2.2.1⟩
    (fun v hv W h => hC v hv W (HL.out.trans (h.mono HL.out.size))) (hO)
    (fun W g cap hbw hva => by
      have h := run1_value (w.heap.size + 1) 0 e0 (.slice (some ⟨g, 0, none⟩) vs.length cap) q.k q.n q.d q.t q.on q.c q.A q.L q.C W ⟨_, _, _, rfl⟩ (cell_below HX.out hbw) (HE.out.below hbw) (fun W' hb' => by
        have h2 := hK W' e0 g cap (HL.out.trans ((hbw.trans (hb'.mono hbw.size)).mono HL.out.size)) (HE.out.below (hbw.trans (hb'.mono hbw.size))) (HFN.out.below (hbw.trans (hb'.mono hbw.size))) (hva.below hb')
        unfold Val.agg at h2
        rw [hq.2.2.2.1, hq.2.2.2.2] at h2
        exact h2)
      unfold Val.agg
      rw [hq.2.2.2.1, hq.2.2.2.2]
      exact h))
  obtain ⟨qq, hqq⟩ : ∃ z, (q) = z := ⟨_, rfl⟩
  rw [hqq] at TL ⊢
  clear hqq hb hv hE hT hC hK hrf hfn hpos hfr hr hi h0 h9 hc1 hc2
  go_enter Tryz.func50, Tryz.ntmps50
  unfold Val.agg at TL ⊢
  go_wp2_with fail
  refine TL.out.mono ?_
  rintro e w2 ⟨rfl, hb2⟩
  replace HR := Lib.hid (keep_block HR.out hb2)
  replace HL := Lib.hid (HL.out.trans (hb2.mono HL.out.size))
  clear hb2
  obtain ⟨⟨r0, r1, r2, r3, r4, r5, r6, r7, r8⟩, g0, g1, g2, g3, g4, g5, g6, g7, g8⟩ := nine_at HR.out
  obtain ⟨nb, z0, z1, z2, z3, z4, z5, z6, z7, z8⟩ := nine_end (x0 := (.int .i64 qq.k)) (x1 := (.string qq.n)) (x2 := (.string qq.d)) (x3 := (.string qq.t)) (x4 := (.bool qq.on)) (x5 := (.int .i64 qq.c)) (x6 := (.int .i64 qq.r)) (x7 := (.int .i64 qq.s)) (x8 := (.slice qq.A qq.L qq.C)) HR.out HL.out (Nat.le_refl _)
  go_wp2
  refine bodyPost_ret (v := .tuple #[.agg #[.int .i64 qq.k, .string qq.n, .string qq.d, .string qq.t, .bool qq.on, .int .i64 qq.c, .int .i64 qq.r, .int .i64 qq.s, .slice qq.A qq.L qq.C], .int .i64 0]) (by simp [results, Tryz.results50, go_sem, z0, z1, z2, z3, z4, z5, z6, z7, z8]) rfl ⟨rfl, nb⟩

set_option maxHeartbeats 8000000 in
set_option maxRecDepth 100000 in
theorem run_a_stop (i : Nat) (r : Row) (hi : i < allRows.length) (hr : allRows[i] = r) (hkd : r.kinds = { data := #[97] }) (hfr : ∀ j (hj : j < i), (allRows[i].name == (allRows[j]'(by omega)).name) = false) (vs : List Val) (b ab ao C : Nat) (c : Int) (w : World) (h0 : 0 < vs.length) (h9 : vs.length ≤ 300) (hc1 : r.least ≤ vs.length) (hc2 : (vs.length : Int) ≤ r.most) (hv : ValsAt w ab ao vs) (hE : Env w) (hT : TableAt w b allRows) (h1 : 1 ≤ c) (h2 : c ≤ 8) 
    (hC : ∀ v ∈ vs, ∀ W, Below w.heap.size w W → Calls Tryz.prog 48 #[v.agg] W fun e w' => e = .returned (.int .i64 0) ∧ Below W.heap.size W w')
    (hK : ∀ W e g cap, Below w.heap.size w W → Env W → FnAt W e r → ValsAt W g 0 vs → Calls Tryz.prog 278 #[.slice (some ⟨g, 0, none⟩) vs.length cap, .pointer (some ⟨e, 0, none⟩)] W fun e w' => e = stopped c ∧ Below W.heap.size W w') :
    Calls Tryz.prog 50 #[.map (some b), .string r.name, .slice (some ⟨ab, ao, none⟩) vs.length C] w fun e w' => e = .returned (.tuple #[(faultVal' c).agg, .int .i64 0]) ∧ Below w.heap.size w w' := by
  have hb : Below w.heap.size w (w.alloc (.cells #[.int .i64 0, .string { data := #[] }, .string { data := #[] }, .string { data := #[] }, .bool false, .int .i64 0, .int .i64 0, .int .i64 0, .slice none 0 0] 30)) := (Below.refl _ _).alloc (Nat.le_refl _) _
  have HR := Lib.hid (heap_alloc_new w (.cells #[.int .i64 0, .string { data := #[] }, .string { data := #[] }, .string { data := #[] }, .bool false, .int .i64 0, .int .i64 0, .int .i64 0, .slice none 0 0] 30))
  obtain ⟨v, hrf, hrun⟩ := (hT.below hb).look i hi hfr Tryz.underlying79 Tryz.underlying9
  rw [hr] at hrf hrun
  obtain ⟨e0, rfl, hfn⟩ := rowFn_at hrf
  obtain ⟨name, least, most, kinds, num, F⟩ := r
  simp only at hkd hc1 hc2
  subst hkd
  simp only at hrun ⊢
  have HV := Lib.hid (hv.below hb)
  have HE := Lib.hid (hE.below hb)
  have HL := Lib.hid hb
  have HFN := Lib.hid hfn
  have d1 : decide ((vs.length : Int) < least) = false := decide_eq_false (by omega)
  have d2 : decide (most < (vs.length : Int)) = false := decide_eq_false (by omega)
  have hmf : ∀ (fn : Fn) (first cap : Array Value) (w : World), (Instr.makeFunc fn first cap).run Tryz.prog w = .ok (.func fn first cap) w := fun _ _ _ _ => rfl
  have hb : Below (w.alloc (.cells #[.int .i64 0, .string { data := #[] }, .string { data := #[] }, .string { data := #[] }, .bool false, .int .i64 0, .int .i64 0, .int .i64 0, .slice none 0 0] 30)).heap.size (w.alloc (.cells #[.int .i64 0, .string { data := #[] }, .string { data := #[] }, .string { data := #[] }, .bool false, .int .i64 0, .int .i64 0, .int .i64 0, .slice none 0 0] 30)) ((w.alloc (.cells #[.int .i64 0, .string { data := #[] }, .string { data := #[] }, .string { data := #[] }, .bool false, .int .i64 0, .int .i64 0, .int .i64 0, .slice none 0 0] 30)).alloc (.cells #[.int .i64 least, .int .i64 most, .string { data := #[97] }, .func (.func 278) #[] #[.pointer (some ⟨e0, 0, none⟩)]] 109)) := (Below.refl _ _).alloc (Nat.le_refl _) _
  have HX := Lib.hid (Lib.cell_of_heap (heap_alloc_new (w.alloc (.cells #[.int .i64 0, .string { data := #[] }, .string { data := #[] }, .string { data := #[] }, .bool false, .int .i64 0, .int .i64 0, .int .i64 0, .slice none 0 0] 30)) (.cells #[.int .i64 least, .int .i64 most, .string { data := #[97] }, .func (.func 278) #[] #[.pointer (some ⟨e0, 0, none⟩)]] 109)) 3)
  replace HR := Lib.hid (keep_block HR.out hb)
  replace HV := Lib.hid (HV.out.below hb)
  replace HE := Lib.hid (HE.out.below hb)
  replace HL := Lib.hid (HL.out.trans (hb.mono HL.out.size))
  replace HFN := Lib.hid (HFN.out.below hb)
  have hpos : (w.alloc (.cells #[.int .i64 0, .string { data := #[] }, .string { data := #[] }, .string { data := #[] }, .bool false, .int .i64 0, .int .i64 0, .int .i64 0, .slice none 0 0] 30)).heap.size = w.heap.size + 1 := by simp
  rw [hpos] at HX
  have TL := Lib.hid (lift_a vs ab ao C (w.heap.size + 1) (faultVal' c) ((w.alloc (.cells #[.int .i64 0, .string { data := #[] }, .string { data := #[] }, .string { data := #[] }, .bool false, .int .i64 0, .int .i64 0, .int .i64 0, .slice none 0 0] 30)).alloc (.cells #[.int .i64 least, .int .i64 most, .string { data := #[97] }, .func (.func 278) #[] #[.pointer (some ⟨e0, 0, none⟩)]] 109)) h0 h9 HV.out HE.out ⟨rfl, rfl, rfl⟩
    (fun v hv W h => hC v hv W (HL.out.trans (h.mono HL.out.size))) (fun W g => check_fault c W h1 h2 g)
    (fun W g cap hbw hva => run1_stop (w.heap.size + 1) e0 (.slice (some ⟨g, 0, none⟩) vs.length cap) c W ⟨_, _, _, rfl⟩ h1 h2 (cell_below HX.out hbw) (HE.out.below hbw) (fun W' hb' => hK W' e0 g cap (HL.out.trans ((hbw.trans (hb'.mono hbw.size)).mono HL.out.size)) (HE.out.below (hbw.trans (hb'.mono hbw.size))) (HFN.out.below (hbw.trans (hb'.mono hbw.size))) (hva.below hb'))))
  obtain ⟨qq, hqq⟩ : ∃ z, (faultVal' c) = z := ⟨_, rfl⟩
  rw [hqq] at TL ⊢
  clear hqq hb hv hE hT hC hK hrf hfn hpos hfr hr hi h0 h9 hc1 hc2
  go_enter Tryz.func50, Tryz.ntmps50
  unfold Val.agg at TL ⊢
  go_wp2_with fail
  refine TL.out.mono ?_
  rintro e w2 ⟨rfl, hb2⟩
  replace HR := Lib.hid (keep_block HR.out hb2)
  replace HL := Lib.hid (HL.out.trans (hb2.mono HL.out.size))
  clear hb2
  obtain ⟨⟨r0, r1, r2, r3, r4, r5, r6, r7, r8⟩, g0, g1, g2, g3, g4, g5, g6, g7, g8⟩ := nine_at HR.out
  obtain ⟨nb, z0, z1, z2, z3, z4, z5, z6, z7, z8⟩ := nine_end (x0 := (.int .i64 qq.k)) (x1 := (.string qq.n)) (x2 := (.string qq.d)) (x3 := (.string qq.t)) (x4 := (.bool qq.on)) (x5 := (.int .i64 qq.c)) (x6 := (.int .i64 qq.r)) (x7 := (.int .i64 qq.s)) (x8 := (.slice qq.A qq.L qq.C)) HR.out HL.out (Nat.le_refl _)
  go_wp2
  refine bodyPost_ret (v := .tuple #[.agg #[.int .i64 qq.k, .string qq.n, .string qq.d, .string qq.t, .bool qq.on, .int .i64 qq.c, .int .i64 qq.r, .int .i64 qq.s, .slice qq.A qq.L qq.C], .int .i64 0]) (by simp [results, Tryz.results50, go_sem, z0, z1, z2, z3, z4, z5, z6, z7, z8]) rfl ⟨rfl, nb⟩

set_option maxHeartbeats 8000000 in
set_option maxRecDepth 100000 in
theorem run_s_val (i : Nat) (r : Row) (hi : i < allRows.length) (hr : allRows[i] = r) (hkd : r.kinds = { data := #[115] }) (hfr : ∀ j (hj : j < i), (allRows[i].name == (allRows[j]'(by omega)).name) = false) (vs : List Val) (b ab ao C : Nat) (q : Val) (w : World) (h0 : 0 < vs.length) (h9 : vs.length ≤ 300) (hc1 : r.least ≤ vs.length) (hc2 : (vs.length : Int) ≤ r.most) (hno : ∀ v ∈ vs, (v.k == 5) = false) (hv : ValsAt w ab ao vs) (hE : Env w) (hT : TableAt w b allRows) (hq : q.A = none ∧ q.L = 0 ∧ q.C = 0 ∧ q.r = 0 ∧ q.s = 0)
    (hO : ∀ W, Env W → Calls Tryz.prog 48 #[q.agg] W fun e w' => e = .returned (.int .i64 0) ∧ Below W.heap.size W w') 
    (hC : ∀ v ∈ vs, ∀ W, Below w.heap.size w W → Calls Tryz.prog 48 #[v.agg] W fun e w' => e = .returned (.int .i64 0) ∧ Below W.heap.size W w')
    (hK : ∀ W e g cap, Below w.heap.size w W → Env W → FnAt W e r → ValsAt W g 0 vs → Calls Tryz.prog 278 #[.slice (some ⟨g, 0, none⟩) vs.length cap, .pointer (some ⟨e, 0, none⟩)] W fun e w' => e = .returned q.agg ∧ Below W.heap.size W w') :
    Calls Tryz.prog 50 #[.map (some b), .string r.name, .slice (some ⟨ab, ao, none⟩) vs.length C] w fun e w' => e = .returned (.tuple #[(q).agg, .int .i64 0]) ∧ Below w.heap.size w w' := by
  have hb : Below w.heap.size w (w.alloc (.cells #[.int .i64 0, .string { data := #[] }, .string { data := #[] }, .string { data := #[] }, .bool false, .int .i64 0, .int .i64 0, .int .i64 0, .slice none 0 0] 30)) := (Below.refl _ _).alloc (Nat.le_refl _) _
  have HR := Lib.hid (heap_alloc_new w (.cells #[.int .i64 0, .string { data := #[] }, .string { data := #[] }, .string { data := #[] }, .bool false, .int .i64 0, .int .i64 0, .int .i64 0, .slice none 0 0] 30))
  obtain ⟨v, hrf, hrun⟩ := (hT.below hb).look i hi hfr Tryz.underlying79 Tryz.underlying9
  rw [hr] at hrf hrun
  obtain ⟨e0, rfl, hfn⟩ := rowFn_at hrf
  obtain ⟨name, least, most, kinds, num, F⟩ := r
  simp only at hkd hc1 hc2
  subst hkd
  simp only at hrun ⊢
  have HV := Lib.hid (hv.below hb)
  have HE := Lib.hid (hE.below hb)
  have HL := Lib.hid hb
  have HFN := Lib.hid hfn
  have d1 : decide ((vs.length : Int) < least) = false := decide_eq_false (by omega)
  have d2 : decide (most < (vs.length : Int)) = false := decide_eq_false (by omega)
  have hmf : ∀ (fn : Fn) (first cap : Array Value) (w : World), (Instr.makeFunc fn first cap).run Tryz.prog w = .ok (.func fn first cap) w := fun _ _ _ _ => rfl
  have hb : Below (w.alloc (.cells #[.int .i64 0, .string { data := #[] }, .string { data := #[] }, .string { data := #[] }, .bool false, .int .i64 0, .int .i64 0, .int .i64 0, .slice none 0 0] 30)).heap.size (w.alloc (.cells #[.int .i64 0, .string { data := #[] }, .string { data := #[] }, .string { data := #[] }, .bool false, .int .i64 0, .int .i64 0, .int .i64 0, .slice none 0 0] 30)) ((w.alloc (.cells #[.int .i64 0, .string { data := #[] }, .string { data := #[] }, .string { data := #[] }, .bool false, .int .i64 0, .int .i64 0, .int .i64 0, .slice none 0 0] 30)).alloc (.cells #[.int .i64 least, .int .i64 most, .string { data := #[115] }, .func (.func 278) #[] #[.pointer (some ⟨e0, 0, none⟩)]] 109)) := (Below.refl _ _).alloc (Nat.le_refl _) _
  have HX := Lib.hid (Lib.cell_of_heap (heap_alloc_new (w.alloc (.cells #[.int .i64 0, .string { data := #[] }, .string { data := #[] }, .string { data := #[] }, .bool false, .int .i64 0, .int .i64 0, .int .i64 0, .slice none 0 0] 30)) (.cells #[.int .i64 least, .int .i64 most, .string { data := #[115] }, .func (.func 278) #[] #[.pointer (some ⟨e0, 0, none⟩)]] 109)) 3)
  replace HR := Lib.hid (keep_block HR.out hb)
  replace HV := Lib.hid (HV.out.below hb)
  replace HE := Lib.hid (HE.out.below hb)
  replace HL := Lib.hid (HL.out.trans (hb.mono HL.out.size))
  replace HFN := Lib.hid (HFN.out.below hb)
  have hpos : (w.alloc (.cells #[.int .i64 0, .string { data := #[] }, .string { data := #[] }, .string { data := #[] }, .bool false, .int .i64 0, .int .i64 0, .int .i64 0, .slice none 0 0] 30)).heap.size = w.heap.size + 1 := by simp
  rw [hpos] at HX
  have TL := Lib.hid (lift_s vs ab ao C (w.heap.size + 1) (q) ((w.alloc (.cells #[.int .i64 0, .string { data := #[] }, .string { data := #[] }, .string { data := #[] }, .bool false, .int .i64 0, .int .i64 0, .int .i64 0, .slice none 0 0] 30)).alloc (.cells #[.int .i64 least, .int .i64 most, .string { data := #[115] }, .func (.func 278) #[] #[.pointer (some ⟨e0, 0, none⟩)]] 109)) h0 h9 hno HV.out HE.out ⟨hq.1, hq.2.1, hq.2.2.1⟩
    (fun v hv W h => hC v hv W (HL.out.trans (h.mono HL.out.size))) (hO)
    (fun W g cap hbw hva => by
      have h := run1_value (w.heap.size + 1) 0 e0 (.slice (some ⟨g, 0, none⟩) vs.length cap) q.k q.n q.d q.t q.on q.c q.A q.L q.C W ⟨_, _, _, rfl⟩ (cell_below HX.out hbw) (HE.out.below hbw) (fun W' hb' => by
        have h2 := hK W' e0 g cap (HL.out.trans ((hbw.trans (hb'.mono hbw.size)).mono HL.out.size)) (HE.out.below (hbw.trans (hb'.mono hbw.size))) (HFN.out.below (hbw.trans (hb'.mono hbw.size))) (hva.below hb')
        unfold Val.agg at h2
        rw [hq.2.2.2.1, hq.2.2.2.2] at h2
        exact h2)
      unfold Val.agg
      rw [hq.2.2.2.1, hq.2.2.2.2]
      exact h))
  obtain ⟨qq, hqq⟩ : ∃ z, (q) = z := ⟨_, rfl⟩
  rw [hqq] at TL ⊢
  clear hqq hb hv hE hT hC hK hrf hfn hpos hfr hr hi h0 h9 hc1 hc2
  go_enter Tryz.func50, Tryz.ntmps50
  unfold Val.agg at TL ⊢
  go_wp2_with fail
  refine TL.out.mono ?_
  rintro e w2 ⟨rfl, hb2⟩
  replace HR := Lib.hid (keep_block HR.out hb2)
  replace HL := Lib.hid (HL.out.trans (hb2.mono HL.out.size))
  clear hb2
  obtain ⟨⟨r0, r1, r2, r3, r4, r5, r6, r7, r8⟩, g0, g1, g2, g3, g4, g5, g6, g7, g8⟩ := nine_at HR.out
  obtain ⟨nb, z0, z1, z2, z3, z4, z5, z6, z7, z8⟩ := nine_end (x0 := (.int .i64 qq.k)) (x1 := (.string qq.n)) (x2 := (.string qq.d)) (x3 := (.string qq.t)) (x4 := (.bool qq.on)) (x5 := (.int .i64 qq.c)) (x6 := (.int .i64 qq.r)) (x7 := (.int .i64 qq.s)) (x8 := (.slice qq.A qq.L qq.C)) HR.out HL.out (Nat.le_refl _)
  go_wp2
  refine bodyPost_ret (v := .tuple #[.agg #[.int .i64 qq.k, .string qq.n, .string qq.d, .string qq.t, .bool qq.on, .int .i64 qq.c, .int .i64 qq.r, .int .i64 qq.s, .slice qq.A qq.L qq.C], .int .i64 0]) (by simp [results, Tryz.results50, go_sem, z0, z1, z2, z3, z4, z5, z6, z7, z8]) rfl ⟨rfl, nb⟩

set_option maxHeartbeats 8000000 in
set_option maxRecDepth 100000 in
theorem run_s_stop (i : Nat) (r : Row) (hi : i < allRows.length) (hr : allRows[i] = r) (hkd : r.kinds = { data := #[115] }) (hfr : ∀ j (hj : j < i), (allRows[i].name == (allRows[j]'(by omega)).name) = false) (vs : List Val) (b ab ao C : Nat) (c : Int) (w : World) (h0 : 0 < vs.length) (h9 : vs.length ≤ 300) (hc1 : r.least ≤ vs.length) (hc2 : (vs.length : Int) ≤ r.most) (hno : ∀ v ∈ vs, (v.k == 5) = false) (hv : ValsAt w ab ao vs) (hE : Env w) (hT : TableAt w b allRows) (h1 : 1 ≤ c) (h2 : c ≤ 8) 
    (hC : ∀ v ∈ vs, ∀ W, Below w.heap.size w W → Calls Tryz.prog 48 #[v.agg] W fun e w' => e = .returned (.int .i64 0) ∧ Below W.heap.size W w')
    (hK : ∀ W e g cap, Below w.heap.size w W → Env W → FnAt W e r → ValsAt W g 0 vs → Calls Tryz.prog 278 #[.slice (some ⟨g, 0, none⟩) vs.length cap, .pointer (some ⟨e, 0, none⟩)] W fun e w' => e = stopped c ∧ Below W.heap.size W w') :
    Calls Tryz.prog 50 #[.map (some b), .string r.name, .slice (some ⟨ab, ao, none⟩) vs.length C] w fun e w' => e = .returned (.tuple #[(faultVal' c).agg, .int .i64 0]) ∧ Below w.heap.size w w' := by
  have hb : Below w.heap.size w (w.alloc (.cells #[.int .i64 0, .string { data := #[] }, .string { data := #[] }, .string { data := #[] }, .bool false, .int .i64 0, .int .i64 0, .int .i64 0, .slice none 0 0] 30)) := (Below.refl _ _).alloc (Nat.le_refl _) _
  have HR := Lib.hid (heap_alloc_new w (.cells #[.int .i64 0, .string { data := #[] }, .string { data := #[] }, .string { data := #[] }, .bool false, .int .i64 0, .int .i64 0, .int .i64 0, .slice none 0 0] 30))
  obtain ⟨v, hrf, hrun⟩ := (hT.below hb).look i hi hfr Tryz.underlying79 Tryz.underlying9
  rw [hr] at hrf hrun
  obtain ⟨e0, rfl, hfn⟩ := rowFn_at hrf
  obtain ⟨name, least, most, kinds, num, F⟩ := r
  simp only at hkd hc1 hc2
  subst hkd
  simp only at hrun ⊢
  have HV := Lib.hid (hv.below hb)
  have HE := Lib.hid (hE.below hb)
  have HL := Lib.hid hb
  have HFN := Lib.hid hfn
  have d1 : decide ((vs.length : Int) < least) = false := decide_eq_false (by omega)
  have d2 : decide (most < (vs.length : Int)) = false := decide_eq_false (by omega)
  have hmf : ∀ (fn : Fn) (first cap : Array Value) (w : World), (Instr.makeFunc fn first cap).run Tryz.prog w = .ok (.func fn first cap) w := fun _ _ _ _ => rfl
  have hb : Below (w.alloc (.cells #[.int .i64 0, .string { data := #[] }, .string { data := #[] }, .string { data := #[] }, .bool false, .int .i64 0, .int .i64 0, .int .i64 0, .slice none 0 0] 30)).heap.size (w.alloc (.cells #[.int .i64 0, .string { data := #[] }, .string { data := #[] }, .string { data := #[] }, .bool false, .int .i64 0, .int .i64 0, .int .i64 0, .slice none 0 0] 30)) ((w.alloc (.cells #[.int .i64 0, .string { data := #[] }, .string { data := #[] }, .string { data := #[] }, .bool false, .int .i64 0, .int .i64 0, .int .i64 0, .slice none 0 0] 30)).alloc (.cells #[.int .i64 least, .int .i64 most, .string { data := #[115] }, .func (.func 278) #[] #[.pointer (some ⟨e0, 0, none⟩)]] 109)) := (Below.refl _ _).alloc (Nat.le_refl _) _
  have HX := Lib.hid (Lib.cell_of_heap (heap_alloc_new (w.alloc (.cells #[.int .i64 0, .string { data := #[] }, .string { data := #[] }, .string { data := #[] }, .bool false, .int .i64 0, .int .i64 0, .int .i64 0, .slice none 0 0] 30)) (.cells #[.int .i64 least, .int .i64 most, .string { data := #[115] }, .func (.func 278) #[] #[.pointer (some ⟨e0, 0, none⟩)]] 109)) 3)
  replace HR := Lib.hid (keep_block HR.out hb)
  replace HV := Lib.hid (HV.out.below hb)
  replace HE := Lib.hid (HE.out.below hb)
  replace HL := Lib.hid (HL.out.trans (hb.mono HL.out.size))
  replace HFN := Lib.hid (HFN.out.below hb)
  have hpos : (w.alloc (.cells #[.int .i64 0, .string { data := #[] }, .string { data := #[] }, .string { data := #[] }, .bool false, .int .i64 0, .int .i64 0, .int .i64 0, .slice none 0 0] 30)).heap.size = w.heap.size + 1 := by simp
  rw [hpos] at HX
  have TL := Lib.hid (lift_s vs ab ao C (w.heap.size + 1) (faultVal' c) ((w.alloc (.cells #[.int .i64 0, .string { data := #[] }, .string { data := #[] }, .string { data := #[] }, .bool false, .int .i64 0, .int .i64 0, .int .i64 0, .slice none 0 0] 30)).alloc (.cells #[.int .i64 least, .int .i64 most, .string { data := #[115] }, .func (.func 278) #[] #[.pointer (some ⟨e0, 0, none⟩)]] 109)) h0 h9 hno HV.out HE.out ⟨rfl, rfl, rfl⟩
    (fun v hv W h => hC v hv W (HL.out.trans (h.mono HL.out.size))) (fun W g => check_fault c W h1 h2 g)
    (fun W g cap hbw hva => run1_stop (w.heap.size + 1) e0 (.slice (some ⟨g, 0, none⟩) vs.length cap) c W ⟨_, _, _, rfl⟩ h1 h2 (cell_below HX.out hbw) (HE.out.below hbw) (fun W' hb' => hK W' e0 g cap (HL.out.trans ((hbw.trans (hb'.mono hbw.size)).mono HL.out.size)) (HE.out.below (hbw.trans (hb'.mono hbw.size))) (HFN.out.below (hbw.trans (hb'.mono hbw.size))) (hva.below hb'))))
  obtain ⟨qq, hqq⟩ : ∃ z, (faultVal' c) = z := ⟨_, rfl⟩
  rw [hqq] at TL ⊢
  clear hqq hb hv hE hT hC hK hrf hfn hpos hfr hr hi h0 h9 hc1 hc2
  go_enter Tryz.func50, Tryz.ntmps50
  unfold Val.agg at TL ⊢
  go_wp2_with fail
  refine TL.out.mono ?_
  rintro e w2 ⟨rfl, hb2⟩
  replace HR := Lib.hid (keep_block HR.out hb2)
  replace HL := Lib.hid (HL.out.trans (hb2.mono HL.out.size))
  clear hb2
  obtain ⟨⟨r0, r1, r2, r3, r4, r5, r6, r7, r8⟩, g0, g1, g2, g3, g4, g5, g6, g7, g8⟩ := nine_at HR.out
  obtain ⟨nb, z0, z1, z2, z3, z4, z5, z6, z7, z8⟩ := nine_end (x0 := (.int .i64 qq.k)) (x1 := (.string qq.n)) (x2 := (.string qq.d)) (x3 := (.string qq.t)) (x4 := (.bool qq.on)) (x5 := (.int .i64 qq.c)) (x6 := (.int .i64 qq.r)) (x7 := (.int .i64 qq.s)) (x8 := (.slice qq.A qq.L qq.C)) HR.out HL.out (Nat.le_refl _)
  go_wp2
  refine bodyPost_ret (v := .tuple #[.agg #[.int .i64 qq.k, .string qq.n, .string qq.d, .string qq.t, .bool qq.on, .int .i64 qq.c, .int .i64 qq.r, .int .i64 qq.s, .slice qq.A qq.L qq.C], .int .i64 0]) (by simp [results, Tryz.results50, go_sem, z0, z1, z2, z3, z4, z5, z6, z7, z8]) rfl ⟨rfl, nb⟩
end Go.Proofs.YtphfefmlappidaaGreatDoor.Num.Fd

/- package fdate's Call, the law's own call, the closures that wrap a function of the table. Conditions: the tables lie as they are laid. -/
namespace Go.Proofs.YtphfefmlappidaaGreatDoor.Num.Fd
open Go.RowKit Go.Lib Go.MapKept Num

set_option maxHeartbeats 4000000 in
set_option maxRecDepth 100000 in
theorem call_of (name : ByteArray) (sl : Value) (q : Val) (w : World) (hs : ∃ a l c, sl = .slice a l c)
    (hRun : ∀ W b, Below w.heap.size w W → TableAt W b allRows → Calls Tryz.prog 50 #[.map (some b), .string name, sl] W fun e w' => e = .returned (.tuple #[q.agg, .int .i64 0]) ∧ Below W.heap.size W w') :
    Calls Tryz.prog 39 #[.string name, sl] w fun e w' => e = .returned (.tuple #[q.agg, .int .i64 0]) ∧ Below w.heap.size w w' := by
  obtain ⟨sa, slen, sc, rfl⟩ := hs
  have hb : Below w.heap.size w (w.alloc (.cells #[.int .i64 0, .string { data := #[] }, .string { data := #[] }, .string { data := #[] }, .bool false, .int .i64 0, .int .i64 0, .int .i64 0, .slice none 0 0] 30)) := (Below.refl _ _).alloc (Nat.le_refl _) _
  have HR := Lib.hid (heap_alloc_new w (.cells #[.int .i64 0, .string { data := #[] }, .string { data := #[] }, .string { data := #[] }, .bool false, .int .i64 0, .int .i64 0, .int .i64 0, .slice none 0 0] 30))
  have HL := Lib.hid hb
  have TR := Lib.hid hRun
  unfold Val.agg at TR ⊢
  clear hRun hb
  go_enter Tryz.func39, Tryz.ntmps39
  go_wp2_with fail
  refine (table_any _).mono ?_
  rintro e W1 ⟨b, rfl, ht, hb⟩
  have HT := Lib.hid ht
  clear ht
  replace HR := Lib.hid (keep_block HR.out hb)
  replace HL := Lib.hid (HL.out.trans (hb.mono HL.out.size))
  clear hb
  go_wp2_with fail
  refine (TR.out _ _ HL.out HT.out).mono ?_
  rintro e W2 ⟨rfl, hb⟩
  replace HR := Lib.hid (keep_block HR.out hb)
  replace HL := Lib.hid (HL.out.trans (hb.mono HL.out.size))
  clear hb
  obtain ⟨⟨r0, r1, r2, r3, r4, r5, r6, r7, r8⟩, g0, g1, g2, g3, g4, g5, g6, g7, g8⟩ := nine_at HR.out
  obtain ⟨nb, z0, z1, z2, z3, z4, z5, z6, z7, z8⟩ := nine_end (x0 := (.int .i64 q.k)) (x1 := (.string q.n)) (x2 := (.string q.d)) (x3 := (.string q.t)) (x4 := (.bool q.on)) (x5 := (.int .i64 q.c)) (x6 := (.int .i64 q.r)) (x7 := (.int .i64 q.s)) (x8 := (.slice q.A q.L q.C)) HR.out HL.out (Nat.le_refl _)
  go_wp2
  refine bodyPost_ret (v := .tuple #[.agg #[.int .i64 q.k, .string q.n, .string q.d, .string q.t, .bool q.on, .int .i64 q.c, .int .i64 q.r, .int .i64 q.s, .slice q.A q.L q.C], .int .i64 0]) (by simp [results, Tryz.results39, go_sem, z0, z1, z2, z3, z4, z5, z6, z7, z8]) rfl ⟨rfl, nb⟩

set_option maxHeartbeats 4000000 in
set_option maxRecDepth 100000 in
theorem math_of (name : ByteArray) (sl : Value) (q : Val) (w : World) (hs : ∃ a l c, sl = .slice a l c)
    (hRun : ∀ W b, Below w.heap.size w W → TableAt W b allRows → Calls Tryz.prog 50 #[.map (some b), .string name, sl] W fun e w' => e = .returned (.tuple #[q.agg, .int .i64 0]) ∧ Below W.heap.size W w') :
    Calls Tryz.prog 20 #[.string name, sl] w fun e w' => e = .returned q.agg ∧ Below w.heap.size w w' := by
  have hb : Below w.heap.size w (w.alloc (.cells #[.int .i64 0, .string { data := #[] }, .string { data := #[] }, .string { data := #[] }, .bool false, .int .i64 0, .int .i64 0, .int .i64 0, .slice none 0 0] 30)) := (Below.refl _ _).alloc (Nat.le_refl _) _
  have HR := Lib.hid (heap_alloc_new w (.cells #[.int .i64 0, .string { data := #[] }, .string { data := #[] }, .string { data := #[] }, .bool false, .int .i64 0, .int .i64 0, .int .i64 0, .slice none 0 0] 30))
  have HL := Lib.hid hb
  have TC := Lib.hid (call_of name sl q (w.alloc (.cells #[.int .i64 0, .string { data := #[] }, .string { data := #[] }, .string { data := #[] }, .bool false, .int .i64 0, .int .i64 0, .int .i64 0, .slice none 0 0] 30)) hs (fun W b h => hRun W b (hb.trans (h.mono hb.size))))
  obtain ⟨sa, slen, sc, rfl⟩ := hs
  unfold Val.agg at TC ⊢
  clear hRun hb
  go_enter Tryz.func20, Tryz.ntmps20
  go_wp2_with fail
  refine TC.out.mono ?_
  rintro e W1 ⟨rfl, hb⟩
  replace HR := Lib.hid (keep_block HR.out hb)
  replace HL := Lib.hid (HL.out.trans (hb.mono HL.out.size))
  clear hb
  have hlt := heap_lt HR.out
  obtain ⟨⟨r0, r1, r2, r3, r4, r5, r6, r7, r8⟩, g0, g1, g2, g3, g4, g5, g6, g7, g8⟩ := nine_at HR.out
  have HF1 := Lib.hid (set9_at HR.out (.int .i64 q.k) (.string q.n) (.string q.d) (.string q.t) (.bool q.on) (.int .i64 q.c) (.int .i64 q.r) (.int .i64 q.s) (.slice q.A q.L q.C))
  have HF2 := Lib.hid ((Below.heap_alloc _ (.cells #[.int .i64 q.k, .string q.n, .string q.d, .string q.t, .bool q.on, .int .i64 q.c, .int .i64 q.r, .int .i64 q.s, .slice q.A q.L q.C] 30) _ (heap_lt HF1.out)).trans HF1.out)
  have HB2 := Lib.hid (nine_end (x0 := (.int .i64 q.k)) (x1 := (.string q.n)) (x2 := (.string q.d)) (x3 := (.string q.t)) (x4 := (.bool q.on)) (x5 := (.int .i64 q.c)) (x6 := (.int .i64 q.r)) (x7 := (.int .i64 q.s)) (x8 := (.slice q.A q.L q.C)) HR.out HL.out (Nat.le_refl _)).1
  have HZ2 := Lib.hid (HB2.out.alloc HB2.out.size (.cells #[.int .i64 q.k, .string q.n, .string q.d, .string q.t, .bool q.on, .int .i64 q.c, .int .i64 q.r, .int .i64 q.s, .slice q.A q.L q.C] 30))
  have HA := Lib.hid ((Below.heap_alloc W1 (.cells #[.int .i64 q.k, .string q.n, .string q.d, .string q.t, .bool q.on, .int .i64 q.c, .int .i64 q.r, .int .i64 q.s, .slice q.A q.L q.C] 30) _ hlt).trans HR.out)
  obtain ⟨⟨a0, a1, a2, a3, a4, a5, a6, a7, a8⟩, b0, b1, b2, b3, b4, b5, b6, b7, b8⟩ := nine_at HA.out
  obtain ⟨⟨z0, z1, z2, z3, z4, z5, z6, z7, z8⟩, _⟩ := nine_at HF2.out
  go_wp2
  refine bodyPost_ret (v := .agg #[.int .i64 q.k, .string q.n, .string q.d, .string q.t, .bool q.on, .int .i64 q.c, .int .i64 q.r, .int .i64 q.s, .slice q.A q.L q.C]) (by simp [results, Tryz.results20, go_sem, z0, z1, z2, z3, z4, z5, z6, z7, z8]) rfl ⟨rfl, HZ2.out⟩

set_option maxHeartbeats 4000000 in
set_option maxRecDepth 100000 in
theorem whole1_val (b f : Nat) (F : FuncId) (n : Int) (w : World) (hf : w.cell? ⟨f, 0, none⟩ = some (.func (.func F) #[] #[])) (eF : ∀ args w, (callFunc F args).run Tryz.prog w = .ok (.enter F args) w) (hE : Env w) (hP : Past b) (hn0 : -9223372036854775808 ≤ n) (hn1 : n ≤ 9223372036854775807) (hne : b < w.heap.size)
    (hF : ∀ W, Below w.heap.size w W → Calls Tryz.prog F #[.pointer (some ⟨b, 0, none⟩)] W fun e w' => e = .returned (.int .i64 n) ∧ W.grownBy w' (some b)) :
    Calls Tryz.prog 274 #[.pointer (some ⟨b, 0, none⟩), .pointer (some ⟨f, 0, none⟩)] w fun e w' => e = .returned (fracV (n : Rat)) ∧ w.grownBy w' (some b) := by
  have hb : Below w.heap.size w (w.alloc (.cells #[.string { data := #[] }, .string { data := #[] }] 23)) := (Below.refl _ _).alloc (Nat.le_refl _) _
  have HR := Lib.hid (heap_alloc_new w (.cells #[.string { data := #[] }, .string { data := #[] }] 23))
  have HL := Lib.hid hb
  have HX := Lib.hid (cell_below hf hb)
  obtain x0 := HX.out
  have TF := Lib.hid (hF _ hb)
  have TO := Lib.hid (fun W g => of_any n W hn0 hn1 g)
  rw [fracV_is] at TO ⊢
  obtain ⟨q, hq⟩ : ∃ q : Rat, (n : Rat) = q := ⟨_, rfl⟩
  rw [hq] at TO ⊢
  have NE := Lib.hid (show w.heap.size ≠ b from Nat.ne_of_gt hne)
  have HE := Lib.hid (hE.below hb)
  have HP := Lib.hid hP
  clear hf hF hb hE hP hne hq hn0 hn1
  go_enter Tryz.func274, Tryz.ntmps274
  go_wp2_with fail
  refine TF.out.mono ?_
  rintro e W1 ⟨rfl, hg⟩
  have HG := Lib.hid (kept_trans (kept_below (b := b) HL.out) hg)
  replace HR := Lib.hid (kept_block HR.out hg NE.out)
  replace HE := Lib.hid (HE.out.kept hg HP.out)
  clear hg x0 HX
  go_wp2_with fail
  refine (TO.out _ HE.out.tab).mono ?_
  rintro e W2 ⟨rfl, hb⟩
  replace HG := Lib.hid (kept_trans HG.out (kept_below hb))
  replace HR := Lib.hid (keep_block HR.out hb)
  clear hb
  obtain ⟨⟨r0, r1⟩, g0, g1⟩ := two_at HR.out
  have HF := Lib.hid (set2_at HR.out (.string (numS q)) (.string (denS q)))
  have HG2 := Lib.hid (kept2 HG.out (Nat.le_refl _) (.string (numS q)) (.string (denS q)))
  obtain ⟨⟨z0, z1⟩, _⟩ := two_at HF.out
  go_wp2
  refine bodyPost_ret (v := .agg #[.string (numS q), .string (denS q)]) (by simp [results, Tryz.results274, go_sem, z0, z1]) rfl ⟨rfl, HG2.out⟩

set_option maxHeartbeats 4000000 in
set_option maxRecDepth 100000 in
theorem entryw_val (r : Row) (g cap e : Nat) (vs : List Val) (n : Int) (w : World) (hr : r.num = true) (hfn : FnAt w e r) (eF : ∀ args w, (callFunc r.fn args).run Tryz.prog w = .ok (.enter r.fn args) w) (hE : Env w) (hv : ValsAt w g 0 vs) (hn0 : n.natAbs ≤ 1000000000000000000)
    (hF : ∀ W b, Below w.heap.size w W → Env W → Past b → b < W.heap.size → ArgsAt W b (some ⟨g, 0, none⟩) vs.length cap 0 → ValsAt W g 0 vs → g ≠ b → Calls Tryz.prog r.fn #[.pointer (some ⟨b, 0, none⟩)] W fun e w' => e = .returned (.int .i64 n) ∧ W.grownBy w' (some b)) (hv0 : 0 < vs.length) :
    Calls Tryz.prog 278 #[.slice (some ⟨g, 0, none⟩) vs.length cap, .pointer (some ⟨e, 0, none⟩)] w fun e w' => e = .returned (numVal (n : Rat)) ∧ Below w.heap.size w w' := by
  unfold FnAt at hfn
  rw [if_pos hr] at hfn
  obtain ⟨f, he, hf⟩ := hfn
  obtain ⟨hR, hB, hb⟩ := two_new w (.cells #[.int .i64 0, .string { data := #[] }, .string { data := #[] }, .string { data := #[] }, .bool false, .int .i64 0, .int .i64 0, .int .i64 0, .slice none 0 0] 30) (.cells #[.slice (some ⟨g, 0, none⟩) vs.length cap, .int .i64 0] 130)
  have HR := Lib.hid hR
  have HL := Lib.hid hb
  have HX := Lib.hid (cell_below he ((Below.refl w.heap.size w).alloc (Nat.le_refl _) (.cells #[.int .i64 0, .string { data := #[] }, .string { data := #[] }, .string { data := #[] }, .bool false, .int .i64 0, .int .i64 0, .int .i64 0, .slice none 0 0] 30)))
  have HE := Lib.hid (hE.below hb)
  have hgl : g < w.heap.size := cell_lt (hv.at 0 hv0).1
  have TN := Lib.hid (whole1_val (w.heap.size + 1) f r.fn n ((w.alloc (.cells #[.int .i64 0, .string { data := #[] }, .string { data := #[] }, .string { data := #[] }, .bool false, .int .i64 0, .int .i64 0, .int .i64 0, .slice none 0 0] 30)).alloc (.cells #[.slice (some ⟨g, 0, none⟩) vs.length cap, .int .i64 0] 130)) (cell_below hf hb) eF (hE.below hb) (hE.past (Nat.le_succ _)) (by omega) (by omega) (by simp) (fun W h => hF W (w.heap.size + 1) (hb.trans (h.mono hb.size)) ((hE.below hb).below h) (hE.past (Nat.le_succ _)) (by have := h.size; simp at this; omega) (keep_block hB h) ((hv.below hb).below h) (by omega)))
  obtain ⟨q, hq⟩ : ∃ q : Rat, (n : Rat) = q := ⟨_, rfl⟩
  have hqf : fits q = true := by rw [← hq]; exact fits_int n hn0
  rw [hq] at TN ⊢
  have HP := Lib.hid (hE.past (Nat.le_succ _) (b := w.heap.size + 1))
  have TV := Lib.hid (fun W g => number_any q W hqf g)
  rw [numVal_is q] at TV ⊢
  rw [fracV_is q] at TV TN
  clear hR hB hb he hF hE hv hgl hqf hf hq hn0
  obtain x0 := HX.out
  go_enter Tryz.func278, Tryz.ntmps278
  go_wp2_with fail
  refine TN.out.mono ?_
  rintro e W1 ⟨rfl, hg⟩
  replace HR := Lib.hid (kept_block HR.out hg (by omega))
  have HG := Lib.hid (below_map HL.out (Nat.le_succ _) hg)
  replace HE := Lib.hid (HE.out.kept hg HP.out)
  clear hg x0 HX
  go_wp2_with fail
  refine (TV.out _ HE.out).mono ?_
  rintro e W2 ⟨rfl, hb⟩
  replace HR := Lib.hid (keep_block HR.out hb)
  replace HG := Lib.hid (HG.out.trans (hb.mono HG.out.size))
  clear hb
  obtain ⟨⟨r0, r1, r2, r3, r4, r5, r6, r7, r8⟩, g0, g1, g2, g3, g4, g5, g6, g7, g8⟩ := nine_at HR.out
  obtain ⟨nb, z0, z1, z2, z3, z4, z5, z6, z7, z8⟩ := nine_end (x0 := (.int .i64 1)) (x1 := (.string (numS q))) (x2 := (.string (denS q))) (x3 := (.string { data := #[] })) (x4 := (.bool false)) (x5 := (.int .i64 0)) (x6 := (.int .i64 0)) (x7 := (.int .i64 0)) (x8 := (.slice none 0 0)) HR.out HG.out (Nat.le_refl _)
  go_wp2
  refine bodyPost_ret (v := .agg #[.int .i64 1, .string (numS q), .string (denS q), .string { data := #[] }, .bool false, .int .i64 0, .int .i64 0, .int .i64 0, .slice none 0 0]) (by simp [results, Tryz.results278, go_sem, z0, z1, z2, z3, z4, z5, z6, z7, z8]) rfl ⟨rfl, nb⟩

set_option maxHeartbeats 4000000 in
set_option maxRecDepth 100000 in
theorem entryn_val (r : Row) (g cap e : Nat) (vs : List Val) (q : Rat) (w : World) (hr : r.num = false) (hfn : FnAt w e r) (eF : ∀ args w, (callFunc r.fn args).run Tryz.prog w = .ok (.enter r.fn args) w) (hE : Env w) (hv : ValsAt w g 0 vs) (hq : fits q = true)
    (hF : ∀ W b, Below w.heap.size w W → Env W → Past b → b < W.heap.size → ArgsAt W b (some ⟨g, 0, none⟩) vs.length cap 0 → ValsAt W g 0 vs → g ≠ b → Calls Tryz.prog r.fn #[.pointer (some ⟨b, 0, none⟩)] W fun e w' => e = .returned (fracV q) ∧ W.grownBy w' (some b)) (hv0 : 0 < vs.length) :
    Calls Tryz.prog 278 #[.slice (some ⟨g, 0, none⟩) vs.length cap, .pointer (some ⟨e, 0, none⟩)] w fun e w' => e = .returned (numVal q) ∧ Below w.heap.size w w' := by
  unfold FnAt at hfn
  rw [if_neg (by rw [hr]; decide)] at hfn
  have he := hfn
  obtain ⟨hR, hB, hb⟩ := two_new w (.cells #[.int .i64 0, .string { data := #[] }, .string { data := #[] }, .string { data := #[] }, .bool false, .int .i64 0, .int .i64 0, .int .i64 0, .slice none 0 0] 30) (.cells #[.slice (some ⟨g, 0, none⟩) vs.length cap, .int .i64 0] 130)
  have HR := Lib.hid hR
  have HL := Lib.hid hb
  have HX := Lib.hid (cell_below he ((Below.refl w.heap.size w).alloc (Nat.le_refl _) (.cells #[.int .i64 0, .string { data := #[] }, .string { data := #[] }, .string { data := #[] }, .bool false, .int .i64 0, .int .i64 0, .int .i64 0, .slice none 0 0] 30)))
  have HE := Lib.hid (hE.below hb)
  have hgl : g < w.heap.size := cell_lt (hv.at 0 hv0).1
  have TN := Lib.hid ((fun W h => hF W (w.heap.size + 1) (hb.trans (h.mono hb.size)) ((hE.below hb).below h) (hE.past (Nat.le_succ _)) (by have := h.size; simp at this; omega) (keep_block hB h) ((hv.below hb).below h) (by omega)) _ (Below.refl _ _))
  have hqf := hq
  have HP := Lib.hid (hE.past (Nat.le_succ _) (b := w.heap.size + 1))
  have TV := Lib.hid (fun W g => number_any q W hqf g)
  rw [numVal_is q] at TV ⊢
  rw [fracV_is q] at TV TN
  clear hR hB hb he hF hE hv hgl hqf hq
  obtain x0 := HX.out
  go_enter Tryz.func278, Tryz.ntmps278
  go_wp2_with fail
  refine TN.out.mono ?_
  rintro e W1 ⟨rfl, hg⟩
  replace HR := Lib.hid (kept_block HR.out hg (by omega))
  have HG := Lib.hid (below_map HL.out (Nat.le_succ _) hg)
  replace HE := Lib.hid (HE.out.kept hg HP.out)
  clear hg x0 HX
  go_wp2_with fail
  refine (TV.out _ HE.out).mono ?_
  rintro e W2 ⟨rfl, hb⟩
  replace HR := Lib.hid (keep_block HR.out hb)
  replace HG := Lib.hid (HG.out.trans (hb.mono HG.out.size))
  clear hb
  obtain ⟨⟨r0, r1, r2, r3, r4, r5, r6, r7, r8⟩, g0, g1, g2, g3, g4, g5, g6, g7, g8⟩ := nine_at HR.out
  obtain ⟨nb, z0, z1, z2, z3, z4, z5, z6, z7, z8⟩ := nine_end (x0 := (.int .i64 1)) (x1 := (.string (numS q))) (x2 := (.string (denS q))) (x3 := (.string { data := #[] })) (x4 := (.bool false)) (x5 := (.int .i64 0)) (x6 := (.int .i64 0)) (x7 := (.int .i64 0)) (x8 := (.slice none 0 0)) HR.out HG.out (Nat.le_refl _)
  go_wp2
  refine bodyPost_ret (v := .agg #[.int .i64 1, .string (numS q), .string (denS q), .string { data := #[] }, .bool false, .int .i64 0, .int .i64 0, .int .i64 0, .slice none 0 0]) (by simp [results, Tryz.results278, go_sem, z0, z1, z2, z3, z4, z5, z6, z7, z8]) rfl ⟨rfl, nb⟩

end Go.Proofs.YtphfefmlappidaaGreatDoor.Num.Fd

/- the law's call of fdate at a function of numbers. Conditions: the tables lie as they are laid. -/
namespace Go.Proofs.YtphfefmlappidaaGreatDoor.Num.Fd
open Go.RowKit Go.Lib Go.MapKept Num

theorem call_w (i : Nat) (r : Row) (hi : i < allRows.length) (hr : allRows[i] = r) (hkd : r.kinds = { data := #[115] }) (hfr : ∀ j (hj : j < i), (allRows[i].name == (allRows[j]'(by omega)).name) = false) (hnum : r.num = true) (eF : ∀ args w, (callFunc r.fn args).run Tryz.prog w = .ok (.enter r.fn args) w) (qs : List Rat) (ab ao C : Nat) (n : Int) (w : World) (h0 : 0 < qs.length) (h9 : qs.length ≤ 300) (hc1 : r.least ≤ qs.length) (hc2 : (qs.length : Int) ≤ r.most) (hv : ValsAt w ab ao (numVals qs)) (hE : Env w) (hqs : ∀ q ∈ qs, fits q = true) (hn : n.natAbs ≤ 1000000000000000000)
    (hF : ∀ W b g cap, Env W → Past b → b < W.heap.size → g < W.heap.size → ArgsAt W b (some ⟨g, 0, none⟩) qs.length cap 0 → AllNums W g qs → g ≠ b → Calls Tryz.prog r.fn #[.pointer (some ⟨b, 0, none⟩)] W fun e w' => e = .returned (.int .i64 n) ∧ W.grownBy w' (some b)) :
    Calls Tryz.prog 20 #[.string r.name, .slice (some ⟨ab, ao, none⟩) qs.length C] w fun e w' => e = .returned (numVal (n : Rat)) ∧ Below w.heap.size w w' := by
  have hl := numVals_len qs
  have h := math_of r.name (.slice (some ⟨ab, ao, none⟩) (numVals qs).length C) (numVal' (n : Rat)) w ⟨_, _, _, rfl⟩ (fun W b hb hT =>
    run_s_val i r hi hr hkd hfr (numVals qs) b ab ao C (numVal' (n : Rat)) W (by omega) (by omega) (by rw [hl]; exact hc1) (by rw [hl]; exact hc2) (kinds_num qs) (hv.below hb) (hE.below hb) hT ⟨rfl, rfl, rfl, rfl, rfl⟩ (fun W g => check_num (n : Rat) W (fits_int n hn) g)
      (fun v hv' W' h => check_nums hqs hE v hv' W' (hb.trans (h.mono hb.size)))
      (fun W' e g cap _ hE' hfn hva => entryw_val r g cap e (numVals qs) n W' hnum hfn eF hE' hva hn (fun W'' b' _ hE'' hP hlt ha hva' hne => hF W'' b' g cap hE'' hP hlt (cell_lt (hva'.at 0 (by omega)).1) (by rw [← hl]; exact ha) (allNums_of hva') hne) (by omega)))
  rw [hl] at h
  exact h

theorem call_n (i : Nat) (r : Row) (hi : i < allRows.length) (hr : allRows[i] = r) (hkd : r.kinds = { data := #[115] }) (hfr : ∀ j (hj : j < i), (allRows[i].name == (allRows[j]'(by omega)).name) = false) (hnum : r.num = false) (eF : ∀ args w, (callFunc r.fn args).run Tryz.prog w = .ok (.enter r.fn args) w) (qs : List Rat) (ab ao C : Nat) (q : Rat) (w : World) (h0 : 0 < qs.length) (h9 : qs.length ≤ 300) (hc1 : r.least ≤ qs.length) (hc2 : (qs.length : Int) ≤ r.most) (hv : ValsAt w ab ao (numVals qs)) (hE : Env w) (hqs : ∀ q ∈ qs, fits q = true) (hq : fits q = true)
    (hF : ∀ W b g cap, Env W → Past b → b < W.heap.size → g < W.heap.size → ArgsAt W b (some ⟨g, 0, none⟩) qs.length cap 0 → AllNums W g qs → g ≠ b → Calls Tryz.prog r.fn #[.pointer (some ⟨b, 0, none⟩)] W fun e w' => e = .returned (fracV q) ∧ W.grownBy w' (some b)) :
    Calls Tryz.prog 20 #[.string r.name, .slice (some ⟨ab, ao, none⟩) qs.length C] w fun e w' => e = .returned (numVal q) ∧ Below w.heap.size w w' := by
  have hl := numVals_len qs
  have h := math_of r.name (.slice (some ⟨ab, ao, none⟩) (numVals qs).length C) (numVal' q) w ⟨_, _, _, rfl⟩ (fun W b hb hT =>
    run_s_val i r hi hr hkd hfr (numVals qs) b ab ao C (numVal' q) W (by omega) (by omega) (by rw [hl]; exact hc1) (by rw [hl]; exact hc2) (kinds_num qs) (hv.below hb) (hE.below hb) hT ⟨rfl, rfl, rfl, rfl, rfl⟩ (fun W g => check_num q W hq g)
      (fun v hv' W' h => check_nums hqs hE v hv' W' (hb.trans (h.mono hb.size)))
      (fun W' e g cap _ hE' hfn hva => entryn_val r g cap e (numVals qs) q W' hnum hfn eF hE' hva hq (fun W'' b' _ hE'' hP hlt ha hva' hne => hF W'' b' g cap hE'' hP hlt (cell_lt (hva'.at 0 (by omega)).1) (by rw [← hl]; exact ha) (allNums_of hva') hne) (by omega)))
  rw [hl] at h
  exact h

end Go.Proofs.YtphfefmlappidaaGreatDoor.Num.Fd

/- the law's date at YEAR, MONTH, DAY, DATE, WEEKDAY, EDATE. Conditions: the tables lie as they are laid. -/
namespace Go.Proofs.YtphfefmlappidaaGreatDoor.Num.Fd
open Go.RowKit Go.Lib Go.MapKept Num

theorem fr_of (i : Nat) (hi : i < allRows.length) (h : freshB allRows[i].name (allRows.take i) = true) : ∀ j (hj : j < i), (allRows[i].name == (allRows[j]'(by omega)).name) = false := by
  intro j hj
  have := fresh_of h (allRows[j]'(by omega)) (by
    rw [List.mem_take_iff_getElem]
    exact ⟨j, by omega, rfl⟩)
  exact this

theorem d_YEAR (ab ao C : Nat) (w : World) (q0 : Rat) (n y d : Int) (k : Nat) (hd : IsDate n y k d) (hq0 : fits q0 = true) (hN0 : q0.floor = n) (hv : ValsAt w ab ao (numVals [q0])) (hE : Env w) :
    Calls Tryz.prog 20 #[.string { data := #[89, 69, 65, 82] }, .slice (some ⟨ab, ao, none⟩) 1 C] w fun e w' => e = .returned (numVal ((y : Int) : Rat)) ∧ Below w.heap.size w w' :=
  call_w 1 ⟨{ data := #[89, 69, 65, 82] }, 1, 1, { data := #[115] }, true, 156⟩ (by decide) rfl rfl (fr_of 1 (by decide) (by kernel_rfl)) rfl (enters_of Tryz.func156 (by kernel_rfl) rfl) [q0] ab ao C (y) w (show 0 < 1 from by decide) (show 1 ≤ 300 from by decide) (show (1 : Int) ≤ 1 from by decide) (show (1 : Int) ≤ 1 from by decide) hv hE (by intro x hx; simp only [List.mem_cons, List.not_mem_nil, or_false] at hx; subst hx; exact hq0) (by have := hd.y0; have := hd.y1; have := hd.k1; have := hd.d0; have := hd.d1; have := mlen_bounds y k; omega)
    (fun W b g cap hE' hP hlt hgl ha hn hne => fd_YEAR b g cap W q0 n y d k hd hq0 hN0 ha hne (hn 0 (show 0 < 1 from by decide)) hE' hP)

theorem d_MONTH (ab ao C : Nat) (w : World) (q0 : Rat) (n y d : Int) (k : Nat) (hd : IsDate n y k d) (hq0 : fits q0 = true) (hN0 : q0.floor = n) (hv : ValsAt w ab ao (numVals [q0])) (hE : Env w) :
    Calls Tryz.prog 20 #[.string { data := #[77, 79, 78, 84, 72] }, .slice (some ⟨ab, ao, none⟩) 1 C] w fun e w' => e = .returned (numVal (((k : Int) + 1 : Int) : Rat)) ∧ Below w.heap.size w w' :=
  call_w 2 ⟨{ data := #[77, 79, 78, 84, 72] }, 1, 1, { data := #[115] }, true, 159⟩ (by decide) rfl rfl (fr_of 2 (by decide) (by kernel_rfl)) rfl (enters_of Tryz.func159 (by kernel_rfl) rfl) [q0] ab ao C ((k : Int) + 1) w (show 0 < 1 from by decide) (show 1 ≤ 300 from by decide) (show (1 : Int) ≤ 1 from by decide) (show (1 : Int) ≤ 1 from by decide) hv hE (by intro x hx; simp only [List.mem_cons, List.not_mem_nil, or_false] at hx; subst hx; exact hq0) (by have := hd.y0; have := hd.y1; have := hd.k1; have := hd.d0; have := hd.d1; have := mlen_bounds y k; omega)
    (fun W b g cap hE' hP hlt hgl ha hn hne => fd_MONTH b g cap W q0 n y d k hd hq0 hN0 ha hne (hn 0 (show 0 < 1 from by decide)) hE' hP)

theorem d_DAY (ab ao C : Nat) (w : World) (q0 : Rat) (n y d : Int) (k : Nat) (hd : IsDate n y k d) (hq0 : fits q0 = true) (hN0 : q0.floor = n) (hv : ValsAt w ab ao (numVals [q0])) (hE : Env w) :
    Calls Tryz.prog 20 #[.string { data := #[68, 65, 89] }, .slice (some ⟨ab, ao, none⟩) 1 C] w fun e w' => e = .returned (numVal ((d : Int) : Rat)) ∧ Below w.heap.size w w' :=
  call_w 3 ⟨{ data := #[68, 65, 89] }, 1, 1, { data := #[115] }, true, 160⟩ (by decide) rfl rfl (fr_of 3 (by decide) (by kernel_rfl)) rfl (enters_of Tryz.func160 (by kernel_rfl) rfl) [q0] ab ao C (d) w (show 0 < 1 from by decide) (show 1 ≤ 300 from by decide) (show (1 : Int) ≤ 1 from by decide) (show (1 : Int) ≤ 1 from by decide) hv hE (by intro x hx; simp only [List.mem_cons, List.not_mem_nil, or_false] at hx; subst hx; exact hq0) (by have := hd.y0; have := hd.y1; have := hd.k1; have := hd.d0; have := hd.d1; have := mlen_bounds y k; omega)
    (fun W b g cap hE' hP hlt hgl ha hn hne => fd_DAY b g cap W q0 n y d k hd hq0 hN0 ha hne (hn 0 (show 0 < 1 from by decide)) hE' hP)

theorem d_DATE (ab ao C : Nat) (w : World) (q0 q1 q2 : Rat) (y m d K : Int) (hy0 : 0 ≤ y) (hy1 : y ≤ 9999) (hm0 : -10000 ≤ m) (hm1 : m ≤ 10000) (hd0 : -100000 ≤ d) (hd1 : d ≤ 100000) (hK : 12 * y + m - 1 = K) (hK0 : 22800 ≤ K) (hK1 : K ≤ 119999) (hr0 : 1 ≤ firstDay K + d - 1) (hr1 : firstDay K + d - 1 ≤ 2958464) (hq0 : fits q0 = true) (hN0 : q0.floor = y) (hq1 : fits q1 = true) (hN1 : q1.floor = m) (hq2 : fits q2 = true) (hN2 : q2.floor = d) (hv : ValsAt w ab ao (numVals [q0, q1, q2])) (hE : Env w) :
    Calls Tryz.prog 20 #[.string { data := #[68, 65, 84, 69] }, .slice (some ⟨ab, ao, none⟩) 3 C] w fun e w' => e = .returned (numVal ((firstDay K + d - 1 : Int) : Rat)) ∧ Below w.heap.size w w' :=
  call_w 0 ⟨{ data := #[68, 65, 84, 69] }, 3, 3, { data := #[115] }, true, 155⟩ (by decide) rfl rfl (fr_of 0 (by decide) (by kernel_rfl)) rfl (enters_of Tryz.func155 (by kernel_rfl) rfl) [q0, q1, q2] ab ao C (firstDay K + d - 1) w (show 0 < 3 from by decide) (show 3 ≤ 300 from by decide) (show (3 : Int) ≤ 3 from by decide) (show (3 : Int) ≤ 3 from by decide) hv hE (by intro x hx; simp only [List.mem_cons, List.not_mem_nil, or_false] at hx; rcases hx with rfl | rfl | rfl; exact hq0; exact hq1; exact hq2) (by omega)
    (fun W b g cap hE' hP hlt hgl ha hn hne => fd_DATE b g cap W q0 q1 q2 y m d K hy0 hy1 hm0 hm1 hd0 hd1 hK hK0 hK1 hr0 hr1 hq0 hN0 hq1 hN1 hq2 hN2 ha hne (hn 0 (show 0 < 3 from by decide)) (hn 1 (show 1 < 3 from by decide)) (hn 2 (show 2 < 3 from by decide)) hE' hP)

theorem d_WEEKDAY2 (ab ao C : Nat) (w : World) (q0 q1 : Rat) (n : Int) (n0 : 1 ≤ n) (n1 : n ≤ 2958464) (hq0 : fits q0 = true) (hN0 : q0.floor = n) (hq1 : fits q1 = true) (hN1 : q1.floor = 2) (hv : ValsAt w ab ao (numVals [q0, q1])) (hE : Env w) :
    Calls Tryz.prog 20 #[.string { data := #[87, 69, 69, 75, 68, 65, 89] }, .slice (some ⟨ab, ao, none⟩) 2 C] w fun e w' => e = .returned (numVal (((n + 6) % 7 + 1 : Int) : Rat)) ∧ Below w.heap.size w w' :=
  call_w 11 ⟨{ data := #[87, 69, 69, 75, 68, 65, 89] }, 1, 2, { data := #[115] }, true, 171⟩ (by decide) rfl rfl (fr_of 11 (by decide) (by kernel_rfl)) rfl (enters_of Tryz.func171 (by kernel_rfl) rfl) [q0, q1] ab ao C ((n + 6) % 7 + 1) w (show 0 < 2 from by decide) (show 2 ≤ 300 from by decide) (show (1 : Int) ≤ 2 from by decide) (show (2 : Int) ≤ 2 from by decide) hv hE (by intro x hx; simp only [List.mem_cons, List.not_mem_nil, or_false] at hx; rcases hx with rfl | rfl; exact hq0; exact hq1) (by omega)
    (fun W b g cap hE' hP hlt hgl ha hn hne => fd_WEEKDAY2 b g cap W q0 q1 n n0 n1 hq0 hN0 hq1 hN1 ha hne (hn 0 (show 0 < 2 from by decide)) (hn 1 (show 1 < 2 from by decide)) hE' hP)

theorem d_WEEKDAY3 (ab ao C : Nat) (w : World) (q0 q1 : Rat) (n : Int) (n0 : 1 ≤ n) (n1 : n ≤ 2958464) (hq0 : fits q0 = true) (hN0 : q0.floor = n) (hq1 : fits q1 = true) (hN1 : q1.floor = 3) (hv : ValsAt w ab ao (numVals [q0, q1])) (hE : Env w) :
    Calls Tryz.prog 20 #[.string { data := #[87, 69, 69, 75, 68, 65, 89] }, .slice (some ⟨ab, ao, none⟩) 2 C] w fun e w' => e = .returned (numVal (((n + 6) % 7 : Int) : Rat)) ∧ Below w.heap.size w w' :=
  call_w 11 ⟨{ data := #[87, 69, 69, 75, 68, 65, 89] }, 1, 2, { data := #[115] }, true, 171⟩ (by decide) rfl rfl (fr_of 11 (by decide) (by kernel_rfl)) rfl (enters_of Tryz.func171 (by kernel_rfl) rfl) [q0, q1] ab ao C ((n + 6) % 7) w (show 0 < 2 from by decide) (show 2 ≤ 300 from by decide) (show (1 : Int) ≤ 2 from by decide) (show (2 : Int) ≤ 2 from by decide) hv hE (by intro x hx; simp only [List.mem_cons, List.not_mem_nil, or_false] at hx; rcases hx with rfl | rfl; exact hq0; exact hq1) (by omega)
    (fun W b g cap hE' hP hlt hgl ha hn hne => fd_WEEKDAY3 b g cap W q0 q1 n n0 n1 hq0 hN0 hq1 hN1 ha hne (hn 0 (show 0 < 2 from by decide)) (hn 1 (show 1 < 2 from by decide)) hE' hP)
end Go.Proofs.YtphfefmlappidaaGreatDoor.Num.Fd

/- package fdate: TIME over its arguments. Conditions: hours, minutes and seconds of a day; the tables lie as they are laid. -/
namespace Go.Proofs.YtphfefmlappidaaGreatDoor.Num
open Go.RowKit Go.Lib

set_option linter.unusedSimpArgs false in
set_option linter.unusedVariables false in
set_option maxHeartbeats 4000000 in
set_option maxRecDepth 100000 in
theorem fd_TIME (q0 q1 q2 : Rat) (h m z : Int) (b g C : Nat) (W : World) (hq0 : fits q0 = true) (hN0 : q0.floor = h) (hq1 : fits q1 = true) (hN1 : q1.floor = m) (hq2 : fits q2 = true) (hN2 : q2.floor = z) (h0 : 0 ≤ h) (h1 : h ≤ 23) (m0 : 0 ≤ m) (m1 : m ≤ 59) (z0 : 0 ≤ z) (z1 : z ≤ 59) (hr : fits ((((3600 * h + 60 * m + z) % 86400 : Int) : Rat) / ((86400 : Int) : Rat)) = true) (ha : ArgsAt W b (some ⟨g, 0, none⟩) 3 C 0) (hne : g ≠ b) (hc0 : NumCells W g (0 + 0 * 9) q0) (hc1 : NumCells W g (0 + 1 * 9) q1) (hc2 : NumCells W g (0 + 2 * 9) q2) (hE : Env W) (hP : Past b) :
    Calls Tryz.prog 166 #[.pointer (some ⟨b, 0, none⟩)] W fun e w' => e = .returned (fracV ((((3600 * h + 60 * m + z) % 86400 : Int) : Rat) / ((86400 : Int) : Rat))) ∧ W.grownBy w' (some b) := by
  have TW0 := Lib.hid (fun W' ga gc ge => argWhole_any b g 0 3 C 0 q0 W' ga (by decide) (by decide) hne gc hq0 (by omega) (by omega) ge hP)
  rw [hN0] at TW0
  have TW1 := Lib.hid (fun W' ga gc ge => argWhole_any b g 0 3 C 1 q1 W' ga (by decide) (by decide) hne gc hq1 (by omega) (by omega) ge hP)
  rw [hN1] at TW1
  have TW2 := Lib.hid (fun W' ga gc ge => argWhole_any b g 0 3 C 2 q2 W' ga (by decide) (by decide) hne gc hq2 (by omega) (by omega) ge hP)
  rw [hN2] at TW2
  have TR := Lib.hid (fun W g => ratio_any ((3600 * h + 60 * m + z) % 86400) 86400 W (by decide) (by omega) (by decide) g)
  rw [wroteV_ok hr] at TR
  have TM := Lib.hid (fun W => must_ok ((((3600 * h + 60 * m + z) % 86400 : Int) : Rat) / ((86400 : Int) : Rat)) W)
  obtain ⟨rr, hrr⟩ : ∃ u : Rat, ((((3600 * h + 60 * m + z) % 86400 : Int) : Rat) / ((86400 : Int) : Rat)) = u := ⟨_, rfl⟩
  rw [hrr] at TR TM ⊢
  rw [fracV_is rr] at TR TM ⊢
  have t1 : decide (3600 * h + 60 * m + z < 0) = false := decide_eq_false (by omega)
  have HP := Lib.hid hP
  have HE0 := Lib.hid hE
  have NG := Lib.hid hne
  have HBW := Lib.hid (heap_lt ha)
  have hb : Below W.heap.size W (W.alloc (.cells #[.string { data := #[] }, .string { data := #[] }] 23)) := (Below.refl _ _).alloc (Nat.le_refl _) _
  have HA := Lib.hid (show ArgsAt (W.alloc (.cells #[.string { data := #[] }, .string { data := #[] }] 23)) b (some ⟨g, 0, none⟩) 3 C 0 from keep_block ha hb)
  have HC0 := Lib.hid (NumCells.below hc0 hb)
  have HC1 := Lib.hid (NumCells.below hc1 hb)
  have HC2 := Lib.hid (NumCells.below hc2 hb)
  have HE := Lib.hid (hE.below hb)
  have HG := Lib.hid (kept_below (b := b) hb)
  have H2 := Lib.hid (heap_alloc_new W (.cells #[.string { data := #[] }, .string { data := #[] }] 23))
  have NE2 := Lib.hid (show W.heap.size ≠ b from Nat.ne_of_gt HBW.out)
  clear hb
  clear ha hE hP hne hc0 hc1 hc2 hrr hr hq0 hq1 hq2 hN0 hN1 hN2
  go_enter Tryz.func166, Tryz.ntmps166
  go_wp2_with fail
  refine (TW0.out _ HA.out HC0.out HE.out).mono ?_
  rintro e W1 ⟨rfl, ha, hg⟩
  replace HA := Lib.hid ha
  replace H2 := Lib.hid (kept_block H2.out hg NE2.out)
  replace HC0 := Lib.hid (HC0.out.kept hg NG.out)
  replace HC1 := Lib.hid (HC1.out.kept hg NG.out)
  replace HC2 := Lib.hid (HC2.out.kept hg NG.out)
  replace HE := Lib.hid (HE.out.kept hg HP.out)
  replace HG := Lib.hid (kept_trans HG.out hg)
  clear ha hg
  go_wp2_with fail
  refine (TW1.out _ HA.out HC1.out HE.out).mono ?_
  rintro e W2 ⟨rfl, ha, hg⟩
  replace HA := Lib.hid ha
  replace H2 := Lib.hid (kept_block H2.out hg NE2.out)
  replace HC0 := Lib.hid (HC0.out.kept hg NG.out)
  replace HC1 := Lib.hid (HC1.out.kept hg NG.out)
  replace HC2 := Lib.hid (HC2.out.kept hg NG.out)
  replace HE := Lib.hid (HE.out.kept hg HP.out)
  replace HG := Lib.hid (kept_trans HG.out hg)
  clear ha hg
  go_wp2_with fail
  refine (TW2.out _ HA.out HC2.out HE.out).mono ?_
  rintro e W3 ⟨rfl, ha, hg⟩
  replace HA := Lib.hid ha
  replace H2 := Lib.hid (kept_block H2.out hg NE2.out)
  replace HC0 := Lib.hid (HC0.out.kept hg NG.out)
  replace HC1 := Lib.hid (HC1.out.kept hg NG.out)
  replace HC2 := Lib.hid (HC2.out.kept hg NG.out)
  replace HE := Lib.hid (HE.out.kept hg HP.out)
  replace HG := Lib.hid (kept_trans HG.out hg)
  clear ha hg
  go_wp2_with fail
  refine (wrong_no _).mono ?_
  rintro e W4 ⟨rfl, rfl⟩
  go_wp2_with fail
  refine (TR.out _ (Env.tab HE.out)).mono ?_
  rintro e W5 ⟨rfl, hb⟩
  replace H2 := Lib.hid (keep_block H2.out hb)
  replace HC0 := Lib.hid (NumCells.below HC0.out hb)
  replace HC1 := Lib.hid (NumCells.below HC1.out hb)
  replace HC2 := Lib.hid (NumCells.below HC2.out hb)
  replace HA := Lib.hid (keep_block HA.out hb)
  replace HE := Lib.hid (HE.out.below hb)
  replace HG := Lib.hid (kept_trans HG.out (kept_below hb))
  clear hb
  go_wp2_with fail
  refine (TM.out _).mono ?_
  rintro e W6 ⟨rfl, hb⟩
  replace H2 := Lib.hid (keep_block H2.out hb)
  replace HC0 := Lib.hid (NumCells.below HC0.out hb)
  replace HC1 := Lib.hid (NumCells.below HC1.out hb)
  replace HC2 := Lib.hid (NumCells.below HC2.out hb)
  replace HA := Lib.hid (keep_block HA.out hb)
  replace HE := Lib.hid (HE.out.below hb)
  replace HG := Lib.hid (kept_trans HG.out (kept_below hb))
  clear hb
  obtain ⟨⟨x2_0, x2_1⟩, x2_f0, x2_f1⟩ := two_at H2.out
  have hF := set2_at H2.out (.string (numS rr)) (.string (denS rr))
  obtain ⟨⟨e0, e1⟩, _⟩ := two_at hF
  have HG2 := Lib.hid (kept2 HG.out (Nat.le_refl _) (.string (numS rr)) (.string (denS rr)))
  clear hF
  go_wp2
  refine bodyPost_ret (v := .agg #[.string (numS rr), .string (denS rr)]) (by simp [results, Tryz.results166, go_sem, e0, e1]) rfl ⟨rfl, HG2.out⟩

end Go.Proofs.YtphfefmlappidaaGreatDoor.Num

/- package fdate: DAYS over its arguments. Conditions: nothing is too long; the tables lie as they are laid. -/
namespace Go.Proofs.YtphfefmlappidaaGreatDoor.Num
open Go.RowKit Go.Lib

set_option linter.unusedSimpArgs false in
set_option linter.unusedVariables false in
set_option maxHeartbeats 4000000 in
set_option maxRecDepth 100000 in
theorem fd_DAYS (q0 q1 : Rat) (b g C : Nat) (W : World) (hq0 : fits q0 = true) (hq1 : fits q1 = true) (hf0 : fits ((q0.floor : Int) : Rat) = true) (hf1 : fits ((q1.floor : Int) : Rat) = true) (hr : fits (((q0.floor : Int) : Rat) - ((q1.floor : Int) : Rat)) = true) (ha : ArgsAt W b (some ⟨g, 0, none⟩) 2 C 0) (hne : g ≠ b) (hc0 : NumCells W g (0 + 0 * 9) q0) (hc1 : NumCells W g (0 + 1 * 9) q1) (hE : Env W) (hP : Past b) :
    Calls Tryz.prog 170 #[.pointer (some ⟨b, 0, none⟩)] W fun e w' => e = .returned (fracV (((q0.floor : Int) : Rat) - ((q1.floor : Int) : Rat))) ∧ W.grownBy w' (some b) := by
  have TN0 := Lib.hid (fun W' ga gc ge => argNum_any b g 0 2 C 0 q0 W' ga (by decide) (by decide) hne gc hq0 ge hP)
  have TN1 := Lib.hid (fun W' ga gc ge => argNum_any b g 0 2 C 1 q1 W' ga (by decide) (by decide) hne gc hq1 ge hP)
  have TF0 := Lib.hid (fun W g => floor_any q0 W hq0 g)
  have TF1 := Lib.hid (fun W g => floor_any q1 W hq1 g)
  have TS := Lib.hid (fun W g => sub_any ((q0.floor : Int) : Rat) ((q1.floor : Int) : Rat) W hf0 hf1 g)
  rw [wroteV_ok hr] at TS
  rw [wroteV_ok hf0] at TF0
  rw [wroteV_ok hf1] at TF1
  have TM := Lib.hid (fun W => must_ok (((q0.floor : Int) : Rat) - ((q1.floor : Int) : Rat)) W)
  obtain ⟨rr, hrr⟩ : ∃ u : Rat, (((q0.floor : Int) : Rat) - ((q1.floor : Int) : Rat)) = u := ⟨_, rfl⟩
  rw [hrr] at TS TM ⊢
  obtain ⟨f0, hf0'⟩ : ∃ u : Rat, ((q0.floor : Int) : Rat) = u := ⟨_, rfl⟩
  rw [hf0'] at TF0 TS
  obtain ⟨f1, hf1'⟩ : ∃ u : Rat, ((q1.floor : Int) : Rat) = u := ⟨_, rfl⟩
  rw [hf1'] at TF1 TS
  rw [fracV_is rr] at TS TM ⊢
  rw [fracV_is f0] at TF0 TS
  rw [fracV_is f1] at TF1 TS
  rw [fracV_is q0] at TN0 TF0
  rw [fracV_is q1] at TN1 TF1
  have HP := Lib.hid hP
  have HE0 := Lib.hid hE
  have NG := Lib.hid hne
  have HBW := Lib.hid (heap_lt ha)
  have hb : Below W.heap.size W (W.alloc (.cells #[.string { data := #[] }, .string { data := #[] }] 23)) := (Below.refl _ _).alloc (Nat.le_refl _) _
  have HA := Lib.hid (show ArgsAt (W.alloc (.cells #[.string { data := #[] }, .string { data := #[] }] 23)) b (some ⟨g, 0, none⟩) 2 C 0 from keep_block ha hb)
  have HC0 := Lib.hid (NumCells.below hc0 hb)
  have HC1 := Lib.hid (NumCells.below hc1 hb)
  have HE := Lib.hid (hE.below hb)
  have HG := Lib.hid (kept_below (b := b) hb)
  have H2 := Lib.hid (heap_alloc_new W (.cells #[.string { data := #[] }, .string { data := #[] }] 23))
  have NE2 := Lib.hid (show W.heap.size ≠ b from Nat.ne_of_gt HBW.out)
  clear hb
  clear ha hE hP hne hc0 hc1 hrr hr hq0 hq1 hf0 hf1 hf0' hf1'
  go_enter Tryz.func170, Tryz.ntmps170
  go_wp2_with fail
  refine (TN0.out _ HA.out HC0.out HE.out).mono ?_
  rintro e W1 ⟨rfl, ha, hg⟩
  replace HA := Lib.hid ha
  replace H2 := Lib.hid (kept_block H2.out hg NE2.out)
  replace HC0 := Lib.hid (HC0.out.kept hg NG.out)
  replace HC1 := Lib.hid (HC1.out.kept hg NG.out)
  replace HE := Lib.hid (HE.out.kept hg HP.out)
  replace HG := Lib.hid (kept_trans HG.out hg)
  clear ha hg
  go_wp2_with fail
  refine (TN1.out _ HA.out HC1.out HE.out).mono ?_
  rintro e W2 ⟨rfl, ha, hg⟩
  replace HA := Lib.hid ha
  replace H2 := Lib.hid (kept_block H2.out hg NE2.out)
  replace HC0 := Lib.hid (HC0.out.kept hg NG.out)
  replace HC1 := Lib.hid (HC1.out.kept hg NG.out)
  replace HE := Lib.hid (HE.out.kept hg HP.out)
  replace HG := Lib.hid (kept_trans HG.out hg)
  clear ha hg
  have L3_2 := Lib.hid (heap_lt H2.out)
  have G3 := Lib.hid (HG.out.size)
  have NE3 : Hid (W2.heap.size ≠ b) := Lib.hid (Nat.ne_of_gt (Nat.lt_of_lt_of_le HBW.out G3.out))
  have hb : Below W2.heap.size W2 (W2.alloc (.cells #[.string (numS q0), .string (denS q0)] 23)) := (Below.refl _ _).alloc (Nat.le_refl _) _
  replace H2 := Lib.hid (keep_block H2.out hb)
  replace HC0 := Lib.hid (NumCells.below HC0.out hb)
  replace HC1 := Lib.hid (NumCells.below HC1.out hb)
  replace HA := Lib.hid (keep_block HA.out hb)
  replace HE := Lib.hid (HE.out.below hb)
  replace HG := Lib.hid (kept_trans HG.out (kept_below hb))
  have H3 := Lib.hid (heap_alloc_new W2 (.cells #[.string (numS q0), .string (denS q0)] 23))
  clear hb
  have L4_2 := Lib.hid (show W.heap.size < W2.heap.size + 1 from by
    have h := heap_lt H2.out
    simp only [World.size_alloc] at h
    first | exact h | omega)
  have L4_3 := Lib.hid (show W2.heap.size < W2.heap.size + 1 from by
    have h := heap_lt H3.out
    simp only [World.size_alloc] at h
    first | exact h | omega)
  have G4 := Lib.hid (show W.heap.size ≤ W2.heap.size + 1 from by
    have h := HG.out.size
    simp only [World.size_alloc] at h
    first | exact h | omega)
  have NE4 : Hid (W2.heap.size + 1 ≠ b) := Lib.hid (Nat.ne_of_gt (Nat.lt_of_lt_of_le HBW.out G4.out))
  have hb : Below (W2.alloc (.cells #[.string (numS q0), .string (denS q0)] 23)).heap.size (W2.alloc (.cells #[.string (numS q0), .string (denS q0)] 23)) ((W2.alloc (.cells #[.string (numS q0), .string (denS q0)] 23)).alloc (.cells #[.string (numS q1), .string (denS q1)] 23)) := (Below.refl _ _).alloc (Nat.le_refl _) _
  replace H2 := Lib.hid (keep_block H2.out hb)
  replace H3 := Lib.hid (keep_block H3.out hb)
  replace HC0 := Lib.hid (NumCells.below HC0.out hb)
  replace HC1 := Lib.hid (NumCells.below HC1.out hb)
  replace HA := Lib.hid (keep_block HA.out hb)
  replace HE := Lib.hid (HE.out.below hb)
  replace HG := Lib.hid (kept_trans HG.out (kept_below hb))
  have H4 : Hid (((W2.alloc (.cells #[.string (numS q0), .string (denS q0)] 23)).alloc (.cells #[.string (numS q1), .string (denS q1)] 23)).heap[W2.heap.size + 1]? = some (.cells #[.string (numS q1), .string (denS q1)] 23 (0, 0))) := Lib.hid (by
    have h := heap_alloc_new (W2.alloc (.cells #[.string (numS q0), .string (denS q0)] 23)) (.cells #[.string (numS q1), .string (denS q1)] 23)
    simp only [World.size_alloc] at h
    exact h)
  clear hb
  clear HA HC0 HC1
  obtain ⟨⟨x3_0, x3_1⟩, x3_f0, x3_f1⟩ := two_at H3.out
  go_wp2_with fail
  refine (TF0.out _ (Env.tab HE.out)).mono ?_
  clear x3_0 x3_1 x3_f0 x3_f1
  rintro e W3 ⟨rfl, hb⟩
  replace H2 := Lib.hid (keep_block H2.out hb)
  replace H3 := Lib.hid (keep_block H3.out hb)
  replace H4 := Lib.hid (keep_block H4.out hb)
  replace HE := Lib.hid (HE.out.below hb)
  replace HG := Lib.hid (kept_trans HG.out (kept_below hb))
  clear hb
  obtain ⟨⟨x3_0, x3_1⟩, x3_f0, x3_f1⟩ := two_at H3.out
  obtain ⟨⟨z4_0, z4_1⟩, z4_2, z4_3⟩ := two_at H4.out
  have k2 : ((W3.setCell ⟨W2.heap.size, 0, none⟩ (.string (numS f0))).setCell ⟨W2.heap.size, 1, none⟩ (.string (denS f0))).heap[W.heap.size]? = some (.cells #[.string { data := #[] }, .string { data := #[] }] 23 (0, 0)) := (set2_other W3 (W2.heap.size) (.string (numS f0)) (.string (denS f0)) (by have := L3_2.out; omega)).trans H2.out
  have k4 : ((W3.setCell ⟨W2.heap.size, 0, none⟩ (.string (numS f0))).setCell ⟨W2.heap.size, 1, none⟩ (.string (denS f0))).heap[W2.heap.size + 1]? = some (.cells #[.string (numS q1), .string (denS q1)] 23 (0, 0)) := (set2_other W3 (W2.heap.size) (.string (numS f0)) (.string (denS f0)) (by have := L4_3.out; omega)).trans H4.out
  have knew := set2_at H3.out (.string (numS f0)) (.string (denS f0))
  have kgr : W.grownBy ((W3.setCell ⟨W2.heap.size, 0, none⟩ (.string (numS f0))).setCell ⟨W2.heap.size, 1, none⟩ (.string (denS f0))) (some b) := below_only HG.out (put2_below G3.out W3 (.string (numS f0)) (.string (denS f0)))
  have kenv := HE0.out.kept kgr HP.out
  obtain ⟨WS1, hW⟩ : ∃ Z, ((W3.setCell ⟨W2.heap.size, 0, none⟩ (.string (numS f0))).setCell ⟨W2.heap.size, 1, none⟩ (.string (denS f0))) = Z := ⟨_, rfl⟩
  rw [hW] at knew kgr kenv k2 k4
  have EWS1 := Lib.hid hW
  replace H3 := Lib.hid knew
  replace HG := Lib.hid kgr
  replace HE := Lib.hid kenv
  replace H2 := Lib.hid k2
  replace H4 := Lib.hid k4
  clear hW knew kgr kenv k2 k4
  obtain ⟨⟨x4_0, x4_1⟩, x4_f0, x4_f1⟩ := two_at H4.out
  go_wp2_with fail
  rw [EWS1.out]
  clear x3_0 x3_1 x3_f0 x3_f1
  refine (TF1.out _ (Env.tab HE.out)).mono ?_
  clear x4_0 x4_1 x4_f0 x4_f1
  rintro e W4 ⟨rfl, hb⟩
  replace H2 := Lib.hid (keep_block H2.out hb)
  replace H3 := Lib.hid (keep_block H3.out hb)
  replace H4 := Lib.hid (keep_block H4.out hb)
  replace HE := Lib.hid (HE.out.below hb)
  replace HG := Lib.hid (kept_trans HG.out (kept_below hb))
  clear hb
  obtain ⟨⟨x4_0, x4_1⟩, x4_f0, x4_f1⟩ := two_at H4.out
  clear z4_0 z4_1 z4_2 z4_3
  obtain ⟨⟨z3_0, z3_1⟩, z3_2, z3_3⟩ := two_at H3.out
  have k2 : ((W4.setCell ⟨W2.heap.size + 1, 0, none⟩ (.string (numS f1))).setCell ⟨W2.heap.size + 1, 1, none⟩ (.string (denS f1))).heap[W.heap.size]? = some (.cells #[.string { data := #[] }, .string { data := #[] }] 23 (0, 0)) := (set2_other W4 (W2.heap.size + 1) (.string (numS f1)) (.string (denS f1)) (by have := L4_2.out; omega)).trans H2.out
  have k3 : ((W4.setCell ⟨W2.heap.size + 1, 0, none⟩ (.string (numS f1))).setCell ⟨W2.heap.size + 1, 1, none⟩ (.string (denS f1))).heap[W2.heap.size]? = some (.cells #[.string (numS f0), .string (denS f0)] 23 (0, 0)) := (set2_other W4 (W2.heap.size + 1) (.string (numS f1)) (.string (denS f1)) (by have := L4_3.out; omega)).trans H3.out
  have knew := set2_at H4.out (.string (numS f1)) (.string (denS f1))
  have kgr : W.grownBy ((W4.setCell ⟨W2.heap.size + 1, 0, none⟩ (.string (numS f1))).setCell ⟨W2.heap.size + 1, 1, none⟩ (.string (denS f1))) (some b) := below_only HG.out (put2_below G4.out W4 (.string (numS f1)) (.string (denS f1)))
  have kenv := HE0.out.kept kgr HP.out
  obtain ⟨WS2, hW⟩ : ∃ Z, ((W4.setCell ⟨W2.heap.size + 1, 0, none⟩ (.string (numS f1))).setCell ⟨W2.heap.size + 1, 1, none⟩ (.string (denS f1))) = Z := ⟨_, rfl⟩
  rw [hW] at knew kgr kenv k2 k3
  have EWS2 := Lib.hid hW
  replace H4 := Lib.hid knew
  replace HG := Lib.hid kgr
  replace HE := Lib.hid kenv
  replace H2 := Lib.hid k2
  replace H3 := Lib.hid k3
  clear hW knew kgr kenv k2 k3
  obtain ⟨⟨x3_0, x3_1⟩, x3_f0, x3_f1⟩ := two_at H3.out
  obtain ⟨⟨x4_0, x4_1⟩, x4_f0, x4_f1⟩ := two_at H4.out
  go_wp2_with fail
  rw [EWS2.out]
  clear x4_0 x4_1 x4_f0 x4_f1
  refine (TS.out _ (Env.tab HE.out)).mono ?_
  clear x3_0 x3_1 x3_f0 x3_f1
  clear x4_0 x4_1 x4_f0 x4_f1
  rintro e W5 ⟨rfl, hb⟩
  replace H2 := Lib.hid (keep_block H2.out hb)
  replace H3 := Lib.hid (keep_block H3.out hb)
  replace H4 := Lib.hid (keep_block H4.out hb)
  replace HE := Lib.hid (HE.out.below hb)
  replace HG := Lib.hid (kept_trans HG.out (kept_below hb))
  clear hb
  go_wp2_with fail
  refine (TM.out _).mono ?_
  rintro e W6 ⟨rfl, hb⟩
  replace H2 := Lib.hid (keep_block H2.out hb)
  replace H3 := Lib.hid (keep_block H3.out hb)
  replace H4 := Lib.hid (keep_block H4.out hb)
  replace HE := Lib.hid (HE.out.below hb)
  replace HG := Lib.hid (kept_trans HG.out (kept_below hb))
  clear hb
  obtain ⟨⟨x2_0, x2_1⟩, x2_f0, x2_f1⟩ := two_at H2.out
  have hF := set2_at H2.out (.string (numS rr)) (.string (denS rr))
  obtain ⟨⟨e0, e1⟩, _⟩ := two_at hF
  have HG2 := Lib.hid (kept2 HG.out (Nat.le_refl _) (.string (numS rr)) (.string (denS rr)))
  clear hF
  go_wp2
  refine bodyPost_ret (v := .agg #[.string (numS rr), .string (denS rr)]) (by simp [results, Tryz.results170, go_sem, e0, e1]) rfl ⟨rfl, HG2.out⟩

end Go.Proofs.YtphfefmlappidaaGreatDoor.Num
