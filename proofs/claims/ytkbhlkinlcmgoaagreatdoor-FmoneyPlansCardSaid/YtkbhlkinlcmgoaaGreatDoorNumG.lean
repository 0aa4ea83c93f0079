/- Numbers as texts of digits, fractions, values and the functions of fmath: contracts of the program's functions, joined from smaller texts. Conditions stand at each theorem. -/
import Derived.Test.YtkbhlkinlcmgoaaGreatDoorNumF
import Derived.Deep.RegionWith

/- package value: Run at a row of fmath's table. Conditions: the tables lie as they are laid. -/
namespace Go.Proofs.YtkbhlkinlcmgoaaGreatDoor.Num
open Go.RowKit Go.Lib

/-- cell e holds the row's function, wrapped or bare -/
def FnAt (W : World) (e : Nat) (r : Row) : Prop :=
  if r.num then ∃ f, W.cell? ⟨e, 0, none⟩ = some (.func (.func 212) #[] #[.pointer (some ⟨f, 0, none⟩)]) ∧ W.cell? ⟨f, 0, none⟩ = some (.func (.func r.fn) #[] #[])
  else W.cell? ⟨e, 0, none⟩ = some (.func (.func r.fn) #[] #[])
theorem rowFn_at {w : World} {v : Value} {r : Row} (h : RowFn w v r) : ∃ e, v = .func (.func 223) #[] #[.pointer (some ⟨e, 0, none⟩)] ∧ FnAt w e r := by
  unfold RowFn at h
  unfold FnAt
  split at h
  · rename_i hn
    obtain ⟨e, f, h1, h2, h3⟩ := h
    exact ⟨e, h1, by rw [if_pos hn]; exact ⟨f, h2, h3⟩⟩
  · rename_i hn
    obtain ⟨e, h1, h2⟩ := h
    exact ⟨e, h1, by rw [if_neg hn]; exact h2⟩
theorem FnAt.below {w w' : World} {e : Nat} {r : Row} (h : FnAt w e r) (hb : Below w.heap.size w w') : FnAt w' e r := by
  unfold FnAt at h ⊢
  split at h
  · rename_i hn
    obtain ⟨f, h1, h2⟩ := h
    rw [if_pos hn]
    exact ⟨f, cell_below h1 hb, cell_below h2 hb⟩
  · rename_i hn
    rw [if_neg hn]
    exact cell_below h hb
attribute [local go_sem] run_store_func

set_option maxHeartbeats 8000000 in
set_option maxRecDepth 100000 in
theorem run_a_val (i : Nat) (r : Row) (hi : i < allRows.length) (hr : allRows[i] = r) (hkd : r.kinds = { data := #[97] }) (hfr : ∀ j (hj : j < i), (allRows[i].name == (allRows[j]'(by omega)).name) = false) (vs : List Val) (b ab ao C : Nat) (q : Val) (w : World) (h0 : 0 < vs.length) (h9 : vs.length ≤ 300) (hc1 : r.least ≤ vs.length) (hc2 : (vs.length : Int) ≤ r.most) (hv : ValsAt w ab ao vs) (hE : Env w) (hT : TableAt w b allRows) (hq : q.A = none ∧ q.L = 0 ∧ q.C = 0 ∧ q.r = 0 ∧ q.s = 0)
    (hO : ∀ W, Env W → Calls Tryz.prog 40 #[q.agg] W fun e w' => e = .returned (.int .i64 0) ∧ Below W.heap.size W w') 
    (hC : ∀ v ∈ vs, ∀ W, Below w.heap.size w W → Calls Tryz.prog 40 #[v.agg] W fun e w' => e = .returned (.int .i64 0) ∧ Below W.heap.size W w')
    (hK : ∀ W e g cap, Below w.heap.size w W → Env W → FnAt W e r → ValsAt W g 0 vs → Calls Tryz.prog 223 #[.slice (some ⟨g, 0, none⟩) vs.length cap, .pointer (some ⟨e, 0, none⟩)] W fun e w' => e = .returned q.agg ∧ Below W.heap.size W w') :
    Calls Tryz.prog 41 #[.map (some b), .string r.name, .slice (some ⟨ab, ao, none⟩) vs.length C] w fun e w' => e = .returned (.tuple #[(q).agg, .int .i64 0]) ∧ Below w.heap.size w w' := by
  have hb : Below w.heap.size w (w.alloc (.cells #[.int .i64 0, .string { data := #[] }, .string { data := #[] }, .string { data := #[] }, .bool false, .int .i64 0, .int .i64 0, .int .i64 0, .slice none 0 0] 30)) := (Below.refl _ _).alloc (Nat.le_refl _) _
  have HR := Lib.hid (heap_alloc_new w (.cells #[.int .i64 0, .string { data := #[] }, .string { data := #[] }, .string { data := #[] }, .bool false, .int .i64 0, .int .i64 0, .int .i64 0, .slice none 0 0] 30))
  obtain ⟨v, hrf, hrun⟩ := (hT.below hb).look i hi hfr Tryz.underlying73 Tryz.underlying9
  rw [hr] at hrf hrun
  obtain ⟨e0, rfl, hfn⟩ := rowFn_at hrf
  obtain ⟨name, least, most, kinds, num, F⟩ := r
  simp only at hkd hc1 hc2
  subst hkd
  simp only at hrun ⊢
  have HV := Lib.hid (hv.below hb)
  have HE := Lib.hid (hE.below hb)
  have HL := Lib.hid hb
  have HFN := Lib.hid hfn
  have d1 : decide ((vs.length : Int) < least) = false := decide_eq_false (by omega)
  have d2 : decide (most < (vs.length : Int)) = false := decide_eq_false (by omega)
  have hmf : ∀ (fn : Fn) (first cap : Array Value) (w : World), (Instr.makeFunc fn first cap).run Tryz.prog w = .ok (.func fn first cap) w := fun _ _ _ _ => rfl
  have hb : Below (w.alloc (.cells #[.int .i64 0, .string { data := #[] }, .string { data := #[] }, .string { data := #[] }, .bool false, .int .i64 0, .int .i64 0, .int .i64 0, .slice none 0 0] 30)).heap.size (w.alloc (.cells #[.int .i64 0, .string { data := #[] }, .string { data := #[] }, .string { data := #[] }, .bool false, .int .i64 0, .int .i64 0, .int .i64 0, .slice none 0 0] 30)) ((w.alloc (.cells #[.int .i64 0, .string { data := #[] }, .string { data := #[] }, .string { data := #[] }, .bool false, .int .i64 0, .int .i64 0, .int .i64 0, .slice none 0 0] 30)).alloc (.cells #[.int .i64 least, .int .i64 most, .string { data := #[97] }, .func (.func 223) #[] #[.pointer (some ⟨e0, 0, none⟩)]] 97)) := (Below.refl _ _).alloc (Nat.le_refl _) _
  have HX := Lib.hid (Lib.cell_of_heap (heap_alloc_new (w.alloc (.cells #[.int .i64 0, .string { data := #[] }, .string { data := #[] }, .string { data := #[] }, .bool false, .int .i64 0, .int .i64 0, .int .i64 0, .slice none 0 0] 30)) (.cells #[.int .i64 least, .int .i64 most, .string { data := #[97] }, .func (.func 223) #[] #[.pointer (some ⟨e0, 0, none⟩)]] 97)) 3)
  replace HR := Lib.hid (keep_block HR.out hb)
  replace HV := Lib.hid (HV.out.below hb)
  replace HE := Lib.hid (HE.out.below hb)
  replace HL := Lib.hid (HL.out.trans (hb.mono HL.out.size))
  replace HFN := Lib.hid (HFN.out.below hb)
  have hpos : (w.alloc (.cells #[.int .i64 0, .string { data := #[] }, .string { data := #[] }, .string { data := #[] }, .bool false, .int .i64 0, .int .i64 0, .int .i64 0, .slice none 0 0] 30)).heap.size = w.heap.size + 1 := by simp
  rw [hpos] at HX
  have TL := Lib.hid (lift_a vs ab ao C (w.heap.size + 1) (q) ((w.alloc (.cells #[.int .i64 0, .string { data := #[] }, .string { data := #[] }, .string { data := #[] }, .bool false, .int .i64 0, .int .i64 0, .int .i64 0, .slice none 0 0] 30)).alloc (.cells #[.int .i64 least, .int .i64 most, .string { data := #[97] }, .func (.func 223) #[] #[.pointer (some ⟨e0, 0, none⟩)]] 97)) h0 h9 HV.out HE.out ⟨hq.1, hq.2.1, hq.2.2.1⟩
    (fun v hv W h => hC v hv W (HL.out.trans (h.mono HL.out.size))) (hO)
    (fun W g cap hbw hva => by
      have h := run1_value (w.heap.size + 1) 0 e0 (.slice (some ⟨g, 0, none⟩) vs.length cap) q.k q.n q.d q.t q.on q.c q.A q.L q.C W ⟨_, _, _, rfl⟩ (cell_below HX.out hbw) (HE.out.below hbw) (fun W' hb' => by
        have h2 := hK W' e0 g cap (HL.out.trans ((hbw.trans (hb'.mono hbw.size)).mono HL.out.size)) (HE.out.below (hbw.trans (hb'.mono hbw.size))) (HFN.out.below (hbw.trans (hb'.mono hbw.size))) (hva.below hb')
        unfold Val.agg at h2
        rw [hq.2.2.2.1, hq.2.2.2.2] at h2
        exact h2)
      unfold Val.agg
      rw [hq.2.2.2.1, hq.2.2.2.2]
      exact h))
  obtain ⟨qq, hqq⟩ : ∃ z, (q) = z := ⟨_, rfl⟩
  rw [hqq] at TL ⊢
  clear hqq hb hv hE hT hC hK hrf hfn hpos hfr hr hi h0 h9 hc1 hc2
  go_enter Tryz.func41, Tryz.ntmps41
  unfold Val.agg at TL ⊢
  go_wp2_with fail
  refine TL.out.mono ?_
  rintro e w2 ⟨rfl, hb2⟩
  replace HR := Lib.hid (keep_block HR.out hb2)
  replace HL := Lib.hid (HL.out.trans (hb2.mono HL.out.size))
  clear hb2
  obtain ⟨⟨r0, r1, r2, r3, r4, r5, r6, r7, r8⟩, g0, g1, g2, g3, g4, g5, g6, g7, g8⟩ := nine_at HR.out
  obtain ⟨nb, z0, z1, z2, z3, z4, z5, z6, z7, z8⟩ := nine_end (x0 := (.int .i64 qq.k)) (x1 := (.string qq.n)) (x2 := (.string qq.d)) (x3 := (.string qq.t)) (x4 := (.bool qq.on)) (x5 := (.int .i64 qq.c)) (x6 := (.int .i64 qq.r)) (x7 := (.int .i64 qq.s)) (x8 := (.slice qq.A qq.L qq.C)) HR.out HL.out (Nat.le_refl _)
  go_wp2
  refine bodyPost_ret (v := .tuple #[.agg #[.int .i64 qq.k, .string qq.n, .string qq.d, .string qq.t, .bool qq.on, .int .i64 qq.c, .int .i64 qq.r, .int .i64 qq.s, .slice qq.A qq.L qq.C], .int .i64 0]) (by simp [results, Tryz.results41, go_sem, z0, z1, z2, z3, z4, z5, z6, z7, z8]) rfl ⟨rfl, nb⟩

end Go.Proofs.YtkbhlkinlcmgoaaGreatDoor.Num

/- package fmath's Call, the law's math, and the closures that wrap a function of the table. Conditions: the tables lie as they are laid. -/
namespace Go.Proofs.YtkbhlkinlcmgoaaGreatDoor.Num
open Go.RowKit Go.Lib

set_option maxHeartbeats 4000000 in
set_option maxRecDepth 100000 in
theorem call_of (name : ByteArray) (sl : Value) (q : Val) (w : World) (hs : ∃ a l c, sl = .slice a l c)
    (hRun : ∀ W b, Below w.heap.size w W → TableAt W b allRows → Calls Tryz.prog 41 #[.map (some b), .string name, sl] W fun e w' => e = .returned (.tuple #[q.agg, .int .i64 0]) ∧ Below W.heap.size W w') :
    Calls Tryz.prog 23 #[.string name, sl] w fun e w' => e = .returned (.tuple #[q.agg, .int .i64 0]) ∧ Below w.heap.size w w' := by
  obtain ⟨sa, slen, sc, rfl⟩ := hs
  have hb : Below w.heap.size w (w.alloc (.cells #[.int .i64 0, .string { data := #[] }, .string { data := #[] }, .string { data := #[] }, .bool false, .int .i64 0, .int .i64 0, .int .i64 0, .slice none 0 0] 30)) := (Below.refl _ _).alloc (Nat.le_refl _) _
  have HR := Lib.hid (heap_alloc_new w (.cells #[.int .i64 0, .string { data := #[] }, .string { data := #[] }, .string { data := #[] }, .bool false, .int .i64 0, .int .i64 0, .int .i64 0, .slice none 0 0] 30))
  have HL := Lib.hid hb
  have TR := Lib.hid hRun
  unfold Val.agg at TR ⊢
  clear hRun hb
  go_enter Tryz.func23, Tryz.ntmps23
  go_wp2_with fail
  refine (table_any _).mono ?_
  rintro e W1 ⟨b, rfl, ht, hb⟩
  have HT := Lib.hid ht
  clear ht
  replace HR := Lib.hid (keep_block HR.out hb)
  replace HL := Lib.hid (HL.out.trans (hb.mono HL.out.size))
  clear hb
  go_wp2_with fail
  refine (TR.out _ _ HL.out HT.out).mono ?_
  rintro e W2 ⟨rfl, hb⟩
  replace HR := Lib.hid (keep_block HR.out hb)
  replace HL := Lib.hid (HL.out.trans (hb.mono HL.out.size))
  clear hb
  obtain ⟨⟨r0, r1, r2, r3, r4, r5, r6, r7, r8⟩, g0, g1, g2, g3, g4, g5, g6, g7, g8⟩ := nine_at HR.out
  obtain ⟨nb, z0, z1, z2, z3, z4, z5, z6, z7, z8⟩ := nine_end (x0 := (.int .i64 q.k)) (x1 := (.string q.n)) (x2 := (.string q.d)) (x3 := (.string q.t)) (x4 := (.bool q.on)) (x5 := (.int .i64 q.c)) (x6 := (.int .i64 q.r)) (x7 := (.int .i64 q.s)) (x8 := (.slice q.A q.L q.C)) HR.out HL.out (Nat.le_refl _)
  go_wp2
  refine bodyPost_ret (v := .tuple #[.agg #[.int .i64 q.k, .string q.n, .string q.d, .string q.t, .bool q.on, .int .i64 q.c, .int .i64 q.r, .int .i64 q.s, .slice q.A q.L q.C], .int .i64 0]) (by simp [results, Tryz.results23, go_sem, z0, z1, z2, z3, z4, z5, z6, z7, z8]) rfl ⟨rfl, nb⟩

set_option maxHeartbeats 4000000 in
set_option maxRecDepth 100000 in
theorem math_of (name : ByteArray) (sl : Value) (q : Val) (w : World) (hs : ∃ a l c, sl = .slice a l c)
    (hRun : ∀ W b, Below w.heap.size w W → TableAt W b allRows → Calls Tryz.prog 41 #[.map (some b), .string name, sl] W fun e w' => e = .returned (.tuple #[q.agg, .int .i64 0]) ∧ Below W.heap.size W w') :
    Calls Tryz.prog 10 #[.string name, sl] w fun e w' => e = .returned q.agg ∧ Below w.heap.size w w' := by
  have hb : Below w.heap.size w (w.alloc (.cells #[.int .i64 0, .string { data := #[] }, .string { data := #[] }, .string { data := #[] }, .bool false, .int .i64 0, .int .i64 0, .int .i64 0, .slice none 0 0] 30)) := (Below.refl _ _).alloc (Nat.le_refl _) _
  have HR := Lib.hid (heap_alloc_new w (.cells #[.int .i64 0, .string { data := #[] }, .string { data := #[] }, .string { data := #[] }, .bool false, .int .i64 0, .int .i64 0, .int .i64 0, .slice none 0 0] 30))
  have HL := Lib.hid hb
  have TC := Lib.hid (call_of name sl q (w.alloc (.cells #[.int .i64 0, .string { data := #[] }, .string { data := #[] }, .string { data := #[] }, .bool false, .int .i64 0, .int .i64 0, .int .i64 0, .slice none 0 0] 30)) hs (fun W b h => hRun W b (hb.trans (h.mono hb.size))))
  obtain ⟨sa, slen, sc, rfl⟩ := hs
  unfold Val.agg at TC ⊢
  clear hRun hb
  go_enter Tryz.func10, Tryz.ntmps10
  go_wp2_with fail
  refine TC.out.mono ?_
  rintro e W1 ⟨rfl, hb⟩
  replace HR := Lib.hid (keep_block HR.out hb)
  replace HL := Lib.hid (HL.out.trans (hb.mono HL.out.size))
  clear hb
  have hlt := heap_lt HR.out
  obtain ⟨⟨r0, r1, r2, r3, r4, r5, r6, r7, r8⟩, g0, g1, g2, g3, g4, g5, g6, g7, g8⟩ := nine_at HR.out
  have HF1 := Lib.hid (set9_at HR.out (.int .i64 q.k) (.string q.n) (.string q.d) (.string q.t) (.bool q.on) (.int .i64 q.c) (.int .i64 q.r) (.int .i64 q.s) (.slice q.A q.L q.C))
  have HF2 := Lib.hid ((Below.heap_alloc _ (.cells #[.int .i64 q.k, .string q.n, .string q.d, .string q.t, .bool q.on, .int .i64 q.c, .int .i64 q.r, .int .i64 q.s, .slice q.A q.L q.C] 30) _ (heap_lt HF1.out)).trans HF1.out)
  have HB2 := Lib.hid (nine_end (x0 := (.int .i64 q.k)) (x1 := (.string q.n)) (x2 := (.string q.d)) (x3 := (.string q.t)) (x4 := (.bool q.on)) (x5 := (.int .i64 q.c)) (x6 := (.int .i64 q.r)) (x7 := (.int .i64 q.s)) (x8 := (.slice q.A q.L q.C)) HR.out HL.out (Nat.le_refl _)).1
  have HZ2 := Lib.hid (HB2.out.alloc HB2.out.size (.cells #[.int .i64 q.k, .string q.n, .string q.d, .string q.t, .bool q.on, .int .i64 q.c, .int .i64 q.r, .int .i64 q.s, .slice q.A q.L q.C] 30))
  have HA := Lib.hid ((Below.heap_alloc W1 (.cells #[.int .i64 q.k, .string q.n, .string q.d, .string q.t, .bool q.on, .int .i64 q.c, .int .i64 q.r, .int .i64 q.s, .slice q.A q.L q.C] 30) _ hlt).trans HR.out)
  obtain ⟨⟨a0, a1, a2, a3, a4, a5, a6, a7, a8⟩, b0, b1, b2, b3, b4, b5, b6, b7, b8⟩ := nine_at HA.out
  obtain ⟨⟨z0, z1, z2, z3, z4, z5, z6, z7, z8⟩, _⟩ := nine_at HF2.out
  go_wp2
  refine bodyPost_ret (v := .agg #[.int .i64 q.k, .string q.n, .string q.d, .string q.t, .bool q.on, .int .i64 q.c, .int .i64 q.r, .int .i64 q.s, .slice q.A q.L q.C]) (by simp [results, Tryz.results10, go_sem, z0, z1, z2, z3, z4, z5, z6, z7, z8]) rfl ⟨rfl, HZ2.out⟩

set_option maxHeartbeats 4000000 in
set_option maxRecDepth 100000 in
theorem num1_val (b f : Nat) (F : FuncId) (q : Rat) (w : World) (hf : w.cell? ⟨f, 0, none⟩ = some (.func (.func F) #[] #[])) (eF : ∀ args w, (callFunc F args).run Tryz.prog w = .ok (.enter F args) w) (hE : Env w) (hP : Past b) (hq : fits q = true) (hne : b < w.heap.size)
    (hF : ∀ W, Below w.heap.size w W → Calls Tryz.prog F #[.pointer (some ⟨b, 0, none⟩)] W fun e w' => e = .returned (fracV q) ∧ W.grownBy w' (some b)) :
    Calls Tryz.prog 212 #[.pointer (some ⟨b, 0, none⟩), .pointer (some ⟨f, 0, none⟩)] w fun e w' => e = .returned (numVal q) ∧ w.grownBy w' (some b) := by
  have hb : Below w.heap.size w (w.alloc (.cells #[.int .i64 0, .string { data := #[] }, .string { data := #[] }, .string { data := #[] }, .bool false, .int .i64 0, .int .i64 0, .int .i64 0, .slice none 0 0] 30)) := (Below.refl _ _).alloc (Nat.le_refl _) _
  have HR := Lib.hid (heap_alloc_new w (.cells #[.int .i64 0, .string { data := #[] }, .string { data := #[] }, .string { data := #[] }, .bool false, .int .i64 0, .int .i64 0, .int .i64 0, .slice none 0 0] 30))
  have HL := Lib.hid hb
  have HX := Lib.hid (cell_below hf hb)
  obtain x0 := HX.out
  have TF := Lib.hid (hF _ hb)
  have TN := Lib.hid (fun W g => number_any q W hq g)
  rw [numVal_is q] at TN ⊢
  rw [fracV_is q] at TN TF
  have NE := Lib.hid (show w.heap.size ≠ b from Nat.ne_of_gt hne)
  have HE := Lib.hid (hE.below hb)
  have HP := Lib.hid hP
  clear hf hF hb hE hP hne hq
  go_enter Tryz.func212, Tryz.ntmps212
  go_wp2_with fail
  refine TF.out.mono ?_
  rintro e W1 ⟨rfl, hg⟩
  have HG := Lib.hid (kept_trans (kept_below (b := b) HL.out) hg)
  replace HR := Lib.hid (kept_block HR.out hg NE.out)
  replace HE := Lib.hid (HE.out.kept hg HP.out)
  clear hg x0 HX
  go_wp2_with fail
  refine (TN.out _ HE.out).mono ?_
  rintro e W2 ⟨rfl, hb⟩
  replace HG := Lib.hid (kept_trans HG.out (kept_below hb))
  replace HR := Lib.hid (keep_block HR.out hb)
  clear hb
  obtain ⟨⟨r0, r1, r2, r3, r4, r5, r6, r7, r8⟩, g0, g1, g2, g3, g4, g5, g6, g7, g8⟩ := nine_at HR.out
  have HF := Lib.hid (set9_at HR.out (.int .i64 1) (.string (numS q)) (.string (denS q)) (.string { data := #[] }) (.bool false) (.int .i64 0) (.int .i64 0) (.int .i64 0) (.slice none 0 0))
  have HG2 := Lib.hid (kept_set9 HG.out (Nat.le_refl _) (.int .i64 1) (.string (numS q)) (.string (denS q)) (.string { data := #[] }) (.bool false) (.int .i64 0) (.int .i64 0) (.int .i64 0) (.slice none 0 0))
  obtain ⟨⟨z0, z1, z2, z3, z4, z5, z6, z7, z8⟩, _⟩ := nine_at HF.out
  go_wp2
  refine bodyPost_ret (v := .agg #[.int .i64 1, .string (numS q), .string (denS q), .string { data := #[] }, .bool false, .int .i64 0, .int .i64 0, .int .i64 0, .slice none 0 0]) (by simp [results, Tryz.results212, go_sem, z0, z1, z2, z3, z4, z5, z6, z7, z8]) rfl ⟨rfl, HG2.out⟩

end Go.Proofs.YtkbhlkinlcmgoaaGreatDoor.Num

/- package fmath: the closure that makes the arguments of a function of numbers. Conditions: the tables lie as they are laid. -/
namespace Go.Proofs.YtkbhlkinlcmgoaaGreatDoor.Num
open Go.RowKit Go.Lib

theorem Env.past {w : World} (h : Env w) {b : Nat} (hb : w.heap.size ≤ b) : Past b := ⟨Nat.lt_of_lt_of_le h.room.1 hb, Nat.lt_of_lt_of_le h.room.2 hb⟩
set_option maxHeartbeats 4000000 in
set_option maxRecDepth 100000 in
theorem entry1_val (r : Row) (g cap e : Nat) (vs : List Val) (q : Rat) (w : World) (hr : r.num = true) (hfn : FnAt w e r) (eF : ∀ args w, (callFunc r.fn args).run Tryz.prog w = .ok (.enter r.fn args) w) (hE : Env w) (hv : ValsAt w g 0 vs) (hq : fits q = true)
    (hF : ∀ W b, Below w.heap.size w W → Env W → Past b → b < W.heap.size → ArgsAt W b (some ⟨g, 0, none⟩) vs.length cap 0 → ValsAt W g 0 vs → g ≠ b → Calls Tryz.prog r.fn #[.pointer (some ⟨b, 0, none⟩)] W fun e w' => e = .returned (fracV q) ∧ W.grownBy w' (some b)) (hv0 : 0 < vs.length) :
    Calls Tryz.prog 223 #[.slice (some ⟨g, 0, none⟩) vs.length cap, .pointer (some ⟨e, 0, none⟩)] w fun e w' => e = .returned (numVal q) ∧ Below w.heap.size w w' := by
  unfold FnAt at hfn
  rw [if_pos hr] at hfn
  obtain ⟨f, he, hf⟩ := hfn
  obtain ⟨hR, hB, hb⟩ := two_new w (.cells #[.int .i64 0, .string { data := #[] }, .string { data := #[] }, .string { data := #[] }, .bool false, .int .i64 0, .int .i64 0, .int .i64 0, .slice none 0 0] 30) (.cells #[.slice (some ⟨g, 0, none⟩) vs.length cap, .int .i64 0] 118)
  have HR := Lib.hid hR
  have HL := Lib.hid hb
  have HX := Lib.hid (cell_below he ((Below.refl w.heap.size w).alloc (Nat.le_refl _) (.cells #[.int .i64 0, .string { data := #[] }, .string { data := #[] }, .string { data := #[] }, .bool false, .int .i64 0, .int .i64 0, .int .i64 0, .slice none 0 0] 30)))
  have hgl : g < w.heap.size := cell_lt (hv.at 0 hv0).1
  have TN := Lib.hid (num1_val (w.heap.size + 1) f r.fn q ((w.alloc (.cells #[.int .i64 0, .string { data := #[] }, .string { data := #[] }, .string { data := #[] }, .bool false, .int .i64 0, .int .i64 0, .int .i64 0, .slice none 0 0] 30)).alloc (.cells #[.slice (some ⟨g, 0, none⟩) vs.length cap, .int .i64 0] 118)) (cell_below hf hb) eF (hE.below hb) (hE.past (Nat.le_succ _)) hq (by simp)
    (fun W h => hF W (w.heap.size + 1) (hb.trans (h.mono hb.size)) ((hE.below hb).below h) (hE.past (Nat.le_succ _)) (by have := h.size; simp at this; omega) (keep_block hB h) ((hv.below hb).below h) (by omega)))
  rw [numVal_is q] at TN ⊢
  clear hR hB hb he hf hF hE hv hgl eF
  obtain x0 := HX.out
  go_enter Tryz.func223, Tryz.ntmps223
  go_wp2_with fail
  refine TN.out.mono ?_
  rintro e W1 ⟨rfl, hg⟩
  replace HR := Lib.hid (kept_block HR.out hg (by omega))
  have HG := Lib.hid (below_map HL.out (Nat.le_succ _) hg)
  clear hg
  obtain ⟨⟨r0, r1, r2, r3, r4, r5, r6, r7, r8⟩, g0, g1, g2, g3, g4, g5, g6, g7, g8⟩ := nine_at HR.out
  obtain ⟨nb, z0, z1, z2, z3, z4, z5, z6, z7, z8⟩ := nine_end (x0 := (.int .i64 1)) (x1 := (.string (numS q))) (x2 := (.string (denS q))) (x3 := (.string { data := #[] })) (x4 := (.bool false)) (x5 := (.int .i64 0)) (x6 := (.int .i64 0)) (x7 := (.int .i64 0)) (x8 := (.slice none 0 0)) HR.out HG.out (Nat.le_refl _)
  go_wp2
  refine bodyPost_ret (v := .agg #[.int .i64 1, .string (numS q), .string (denS q), .string { data := #[] }, .bool false, .int .i64 0, .int .i64 0, .int .i64 0, .slice none 0 0]) (by simp [results, Tryz.results223, go_sem, z0, z1, z2, z3, z4, z5, z6, z7, z8]) rfl ⟨rfl, nb⟩

end Go.Proofs.YtkbhlkinlcmgoaaGreatDoor.Num

/- package fmath: arithmetic of fractions whose results are not too long. Conditions: the tables lie as they are laid. -/
namespace Go.Proofs.YtkbhlkinlcmgoaaGreatDoor.Num
open Go.RowKit Go.Lib

theorem cells2 {W : World} {p : Nat} {x y : Value} {T : TypeId} (h : W.heap[p]? = some (.cells #[x, y] T (0, 0))) : W.cell? ⟨p, 0, none⟩ = some x ∧ W.cell? ⟨p, 1, none⟩ = some y := ⟨Lib.cell_of_heap h 0, Lib.cell_of_heap h 1⟩
theorem set2_other (W : World) (b : Nat) (x y : Value) {k : Nat} (hk : k ≠ b) : ((W.setCell ⟨b, 0, none⟩ x).setCell ⟨b, 1, none⟩ y).heap[k]? = W.heap[k]? :=
  (Below.heap_setCell _ ⟨b, 1, none⟩ y k hk).trans (Below.heap_setCell W ⟨b, 0, none⟩ x k hk)
set_option maxHeartbeats 4000000 in
set_option maxRecDepth 100000 in
theorem fm_add (p q : Rat) (w : World) (hp : fits p = true) (hq : fits q = true) (hr : fits (p + q) = true) (hE : Env w) : Calls Tryz.prog 218 #[fracV p, fracV q] w fun e w' => e = .returned (fracV (p + q)) ∧ Below w.heap.size w w' := by
  have T1 := Lib.hid (fun W g => add_any p q W hp hq g)
  have T2 := Lib.hid (fun W => must_ok (p + q) W)
  rw [wroteV_ok hr] at T1
  rw [fracV_is (p + q)] at T1 T2 ⊢
  rw [fracV_is p, fracV_is q] at T1 ⊢
  obtain ⟨_, _, hr', hb⟩ := three_new w (.cells #[.string (numS p), .string (denS p)] 24) (.cells #[.string (numS q), .string (denS q)] 24) (.cells #[.string { data := #[] }, .string { data := #[] }] 24)
  have HR := Lib.hid hr'
  have HL := Lib.hid hb
  have HE := Lib.hid (hE.below hb)
  clear hr' hb hE hp hq hr
  go_enter Tryz.func218, Tryz.ntmps218
  go_wp2_with fail
  refine (T1.out _ HE.out.tab).mono ?_
  rintro e W1 ⟨rfl, hb⟩
  replace HR := Lib.hid (keep_block HR.out hb)
  replace HL := Lib.hid (HL.out.trans (hb.mono HL.out.size))
  clear hb
  go_wp2_with fail
  refine (T2.out _).mono ?_
  rintro e W2 ⟨rfl, hb⟩
  replace HR := Lib.hid (keep_block HR.out hb)
  replace HL := Lib.hid (HL.out.trans (hb.mono HL.out.size))
  clear hb
  obtain ⟨⟨r0, r1⟩, rf0, rf1⟩ := two_at HR.out
  obtain ⟨nb, e0, e1⟩ := frac_end (x := .string (numS (p + q))) (y := .string (denS (p + q))) HR.out HL.out (by omega)
  go_wp2
  refine bodyPost_ret (v := .agg #[.string (numS (p + q)), .string (denS (p + q))]) (by simp [results, Tryz.results218, go_sem, e0, e1]) rfl ⟨rfl, nb⟩

set_option maxHeartbeats 4000000 in
set_option maxRecDepth 100000 in
theorem fm_mul (p q : Rat) (w : World) (hp : fits p = true) (hq : fits q = true) (hr : fits (p * q) = true) (hE : Env w) : Calls Tryz.prog 217 #[fracV p, fracV q] w fun e w' => e = .returned (fracV (p * q)) ∧ Below w.heap.size w w' := by
  have T1 := Lib.hid (fun W g => mul_any p q W hp hq g)
  have T2 := Lib.hid (fun W => must_ok (p * q) W)
  rw [wroteV_ok hr] at T1
  rw [fracV_is (p * q)] at T1 T2 ⊢
  rw [fracV_is p, fracV_is q] at T1 ⊢
  obtain ⟨_, _, hr', hb⟩ := three_new w (.cells #[.string (numS p), .string (denS p)] 24) (.cells #[.string (numS q), .string (denS q)] 24) (.cells #[.string { data := #[] }, .string { data := #[] }] 24)
  have HR := Lib.hid hr'
  have HL := Lib.hid hb
  have HE := Lib.hid (hE.below hb)
  clear hr' hb hE hp hq hr
  go_enter Tryz.func217, Tryz.ntmps217
  go_wp2_with fail
  refine (T1.out _ HE.out.tab).mono ?_
  rintro e W1 ⟨rfl, hb⟩
  replace HR := Lib.hid (keep_block HR.out hb)
  replace HL := Lib.hid (HL.out.trans (hb.mono HL.out.size))
  clear hb
  go_wp2_with fail
  refine (T2.out _).mono ?_
  rintro e W2 ⟨rfl, hb⟩
  replace HR := Lib.hid (keep_block HR.out hb)
  replace HL := Lib.hid (HL.out.trans (hb.mono HL.out.size))
  clear hb
  obtain ⟨⟨r0, r1⟩, rf0, rf1⟩ := two_at HR.out
  obtain ⟨nb, e0, e1⟩ := frac_end (x := .string (numS (p * q))) (y := .string (denS (p * q))) HR.out HL.out (by omega)
  go_wp2
  refine bodyPost_ret (v := .agg #[.string (numS (p * q)), .string (denS (p * q))]) (by simp [results, Tryz.results217, go_sem, e0, e1]) rfl ⟨rfl, nb⟩

end Go.Proofs.YtkbhlkinlcmgoaaGreatDoor.Num

/- package fmath: abs, signed, toward, MOD, QUOTIENT where nothing is too long. Conditions: the tables lie as they are laid. -/
namespace Go.Proofs.YtkbhlkinlcmgoaaGreatDoor.Num
open Go.RowKit Go.Lib

end Go.Proofs.YtkbhlkinlcmgoaaGreatDoor.Num

/- package fmath: MOD and QUOTIENT at two numbers. Conditions: nothing is too long; the tables lie as they are laid. -/
namespace Go.Proofs.YtkbhlkinlcmgoaaGreatDoor.Num
open Go.RowKit Go.Lib

theorem vals_num {W : World} {g : Nat} {vs : List Val} (h : ValsAt W g 0 vs) (i : Nat) (hi : i < vs.length) (q : Rat) (hq : vs[i] = numVal' q) : NumCells W g (0 + i * 9) q := by
  have := h.at i hi
  rw [hq] at this
  exact this
theorem kept2 {w W : World} {b R : Nat} (h : w.grownBy W (some b)) (hge : w.heap.size ≤ R) (x y : Value) : w.grownBy ((W.setCell ⟨R, 0, none⟩ x).setCell ⟨R, 1, none⟩ y) (some b) :=
  only_setCell (p := ⟨R, 1, none⟩) (only_setCell (p := ⟨R, 0, none⟩) h (.inr hge) x) (.inr hge) y
theorem NumCells.below {w w' : World} {ab ao : Nat} {q : Rat} (h : NumCells w ab ao q) (hb : Below w.heap.size w w') : NumCells w' ab ao q := CellsAt.below h hb
theorem NumCells.kept {w w' : World} {ab ao b : Nat} {q : Rat} (h : NumCells w ab ao q) (hg : w.grownBy w' (some b)) (hne : ab ≠ b) : NumCells w' ab ao q := CellsAt.kept h hg hne
end Go.Proofs.YtkbhlkinlcmgoaaGreatDoor.Num
